/- THE LAW scrim/scrimlaw05.TreeTexts: called with any arguments that can be read, it returns true, and each argument reads behind the call as before. No condition. -/
import Derived.Test.YtkjgnkmnngaioaaGreatZbh
import Derived.Test.YtkjgnkmnngaioaaGreatZbc
import Derived.Test.YtkjgnkmnngaioaaGreatZbi
import Derived.Test.YtkjgnkmnngaioaaGreatZbg
import Derived.Test.YtkjgnkmnngaioaaGreatZbb
import Derived.Test.YtkjgnkmnngaioaaGreatRows
import Derived.ChangeSlices
import Derived.SizedLaws
import Derived.Below
import Derived.ChangeOld
import Derived.ShutString
import Derived.OpenShut
import Derived.ProofKit
import Derived.WalkKit
namespace Go.Proofs.YtkjgnkmnngaioaaGreat.Q
open Go.RowKit Go.Proofs.YtkjgnkmnngaioaaGreat.Mem Go.Proofs.YtkjgnkmnngaioaaGreatW.PrintWords Go.Proofs.YtkjgnkmnngaioaaGreatW.PrintLast Go.Proofs.YtkjgnkmnngaioaaGreatW.PrintMore
set_option linter.unusedVariables false
set_option linter.unusedSimpArgs false
def awN : List S49 := [⟨-1, ⟨#[114, 111, 111, 116]⟩, ⟨#[]⟩, [], [1, 2]⟩, ⟨0, ⟨#[]⟩, ⟨#[97]⟩, [], []⟩, ⟨0, ⟨#[98]⟩, ⟨#[]⟩, [], [3]⟩, ⟨2, ⟨#[]⟩, ⟨#[99]⟩, [], []⟩]
def awTs : List S46 := [⟨9, ⟨#[]⟩, ⟨#[]⟩, []⟩]
def awBs : ByteArray := ⟨#[97, 60, 98, 62, 99, 60, 47, 98, 62]⟩
def awRd : List S46 := [⟨3, ⟨#[]⟩, ⟨#[97]⟩, []⟩, ⟨1, ⟨#[98]⟩, ⟨#[]⟩, []⟩, ⟨3, ⟨#[]⟩, ⟨#[99]⟩, []⟩, ⟨2, ⟨#[98]⟩, ⟨#[]⟩, []⟩]
theorem aw_tok : token_Read.f awBs = some (awRd, 0) := by kernel_rfl
theorem aw_ok1 : okTs awRd := by unfold okTs awRd; simp; try decide
theorem aw_ok2 : okTs awTs := by unfold okTs awTs; simp; try decide
theorem aw_b1 : buildF awRd = (awN, 0) := by kernel_rfl
theorem aw_b2 : buildF awTs = ([], 2) := by kernel_rfl
theorem aw_may : tree_May.f 40 awN = some true := by kernel_rfl
theorem aw_may0 : tree_May.f 40 [] = some false := by kernel_rfl
theorem aw_d1 : depthF awN 3 = 2 := by kernel_rfl
theorem aw_d2 : depthF awN 9 = -1 := by kernel_rfl
theorem aw_up : okUp awN := by unfold okUp awN; decide
theorem aw_ns : okNs awN := by unfold okNs awN; simp; try decide
theorem aw_same : scrimref05_Same.f awN awN = some true := scrimref05_Same.self aw_ns
theorem aw_read : tree_Read.f awBs = some (awN, 0) := by
  unfold tree_Read.f tree_Build.f
  rw [aw_tok]
  simp only [Option.bind_some, if_true, if_pos aw_ok1, aw_b1]
theorem aw_build : tree_Build.f awTs = some ([], 2) := by
  unfold tree_Build.f
  rw [if_pos aw_ok2, aw_b2]
theorem blk_reads {α : Type} (d : Kd α) {W : World} {b : Nat} {cells : Array Value} {e : Nat} (h : Blk W b cells e) (xs : List α) (hm : xs.length ≤ 9223372036854775807) (hr : ∀ (j : Nat) (x : α), xs[j]? = some x → d.K W x ((cells.toList.drop (j * d.sz)).take d.sz)) : d.C W (some ⟨b, 0, none⟩) xs.length xs := by
  refine ⟨rfl, hm, fun _ => ⟨_, rfl, fun j x hx => ⟨_, d.K_len (hr j x hx), hr j x hx, fun i u hu => ?_⟩⟩⟩
  rw [List.getElem?_take] at hu
  split at hu
  · rw [List.getElem?_drop] at hu
    have ea : (⟨b, 0, none⟩ : Addr).add (j * d.sz + i) = ⟨b, j * d.sz + i, none⟩ := by unfold Addr.add; split <;> simp_all
    rw [ea, h.cell]
    rw [Array.getElem?_toList] at hu
    exact hu
  · cases hu
def cellsW (a b : Nat) : Array Value := #[.int .i64 (-1), .string ⟨#[114, 111, 111, 116]⟩, .string ⟨#[]⟩, .slice none 0 0, .slice (some ⟨a, 0, none⟩) 2 2, .int .i64 0, .string ⟨#[]⟩, .string ⟨#[97]⟩, .slice none 0 0, .slice none 0 0, .int .i64 0, .string ⟨#[98]⟩, .string ⟨#[]⟩, .slice none 0 0, .slice (some ⟨b, 0, none⟩) 1 1, .int .i64 2, .string ⟨#[]⟩, .string ⟨#[99]⟩, .slice none 0 0, .slice none 0 0]
theorem nilC {α : Type} (d : Kd α) (W : World) : d.C W none ([] : List α).length [] := ⟨rfl, by simp, fun h => absurd h (by simp)⟩
theorem want_reads {W : World} {a b g : Nat} (h1 : Blk W a #[.int .i64 1, .int .i64 2] 3) (h2 : Blk W b #[.int .i64 3] 3) (h3 : Blk W g (cellsW a b) 49) : Kd.C k49 W (some ⟨g, 0, none⟩) awN.length awN := by
  refine blk_reads k49 h3 awN (by decide) (fun j x hx => ?_)
  have c1 : (Kd.int .i64).C W (some ⟨a, 0, none⟩) [(1 : Int), 2].length [1, 2] := blk_reads (Kd.int .i64) h1 [1, 2] (by decide) (fun j x hx => by
    rcases j with _ | _ | j
    · cases hx; rfl
    · cases hx; rfl
    · cases hx)
  have c2 : (Kd.int .i64).C W (some ⟨b, 0, none⟩) [(3 : Int)].length [3] := blk_reads (Kd.int .i64) h2 [3] (by decide) (fun j x hx => by
    rcases j with _ | j
    · cases hx; rfl
    · cases hx)
  unfold awN at hx
  rcases j with _ | _ | _ | _ | j
  · cases hx
    exact k49_mk (A3 := none) (c3 := 0) (A4 := some ⟨a, 0, none⟩) (c4 := 2) W ⟨-1, ⟨#[114, 111, 111, 116]⟩, ⟨#[]⟩, [], [1, 2]⟩ (by decide) (nilC _ _) (by decide) c1
  · cases hx
    exact k49_mk (A3 := none) (c3 := 0) (A4 := none) (c4 := 0) W ⟨0, ⟨#[]⟩, ⟨#[97]⟩, [], []⟩ (by decide) (nilC _ _) (by decide) (nilC _ _)
  · cases hx
    exact k49_mk (A3 := none) (c3 := 0) (A4 := some ⟨b, 0, none⟩) (c4 := 1) W ⟨0, ⟨#[98]⟩, ⟨#[]⟩, [], [3]⟩ (by decide) (nilC _ _) (by decide) c2
  · cases hx
    exact k49_mk (A3 := none) (c3 := 0) (A4 := none) (c4 := 0) W ⟨2, ⟨#[]⟩, ⟨#[99]⟩, [], []⟩ (by decide) (nilC _ _) (by decide) (nilC _ _)
  · cases hx
theorem toks_reads {W : World} {g : Nat} (h3 : Blk W g #[.int .i64 9, .string ⟨#[]⟩, .string ⟨#[]⟩, .slice none 0 0] 46) : Kd.C k46 W (some ⟨g, 0, none⟩) awTs.length awTs := by
  refine blk_reads k46 h3 awTs (by decide) (fun j x hx => ?_)
  unfold awTs at hx
  rcases j with _ | j
  · cases hx
    exact k46_mk (A3 := none) (c3 := 0) W ⟨9, ⟨#[]⟩, ⟨#[]⟩, []⟩ (by decide) (nilC _ _)
  · cases hx
set_option maxRecDepth 100000 in
set_option maxHeartbeats 8000000 in
theorem awakeN_calls (w : World) : Calls Tryz.prog 23 #[] w fun e w' => e = .returned (.bool true) ∧ Below w.heap.size w w' := by
  go_enter Tryz.func23, Tryz.ntmps23
  go_wp2_with (go_at_call 26; refine (tree_Read.calls _ awN 0 _ aw_read).mono ?_; rintro e w1 ⟨v, rfl, hs, hb⟩; have HS1 := Lib.hid hs; have HB1 := Lib.hid hb; obtain ⟨A1, c1, rfl⟩ := Kd.S_slice hs; clear hs hb)
  have h1 := (((Blk.alloc w1 #[.int .i64 1, .int .i64 2] 3).alloc_old (.cells #[.int .i64 3] 3)).alloc_old (.cells (cellsW w1.heap.size (w1.heap.size + 1)) 49)).alloc_old (.cells #[.int .i64 9, .string ⟨#[]⟩, .string ⟨#[]⟩, .slice none 0 0] 46)
  have h2 := ((Blk.alloc_at (w1.alloc (.cells #[.int .i64 1, .int .i64 2] 3)) (b := w1.heap.size + 1) #[.int .i64 3] 3 (by simp)).alloc_old (.cells (cellsW w1.heap.size (w1.heap.size + 1)) 49)).alloc_old (.cells #[.int .i64 9, .string ⟨#[]⟩, .string ⟨#[]⟩, .slice none 0 0] 46)
  have h3 := (Blk.alloc_at ((w1.alloc (.cells #[.int .i64 1, .int .i64 2] 3)).alloc (.cells #[.int .i64 3] 3)) (b := w1.heap.size + 2) (cellsW w1.heap.size (w1.heap.size + 1)) 49 (by simp)).alloc_old (.cells #[.int .i64 9, .string ⟨#[]⟩, .string ⟨#[]⟩, .slice none 0 0] 46)
  have h4 := Blk.alloc_at (((w1.alloc (.cells #[.int .i64 1, .int .i64 2] 3)).alloc (.cells #[.int .i64 3] 3)).alloc (.cells (cellsW w1.heap.size (w1.heap.size + 1)) 49)) (b := w1.heap.size + 3) #[.int .i64 9, .string ⟨#[]⟩, .string ⟨#[]⟩, .slice none 0 0] 46 (by simp)
  have hb2 : Below w1.heap.size w1 ((((w1.alloc (.cells #[.int .i64 1, .int .i64 2] 3)).alloc (.cells #[.int .i64 3] 3)).alloc (.cells (cellsW w1.heap.size (w1.heap.size + 1)) 49)).alloc (.cells #[.int .i64 9, .string ⟨#[]⟩, .string ⟨#[]⟩, .slice none 0 0] 46)) := below_alloc (below_alloc (below_alloc (below_alloc (Below.refl _ _) _) _) _) _
  have HW2 := Lib.hid (want_reads h1 h2 h3)
  have HT := Lib.hid (toks_reads h4)
  have HL := Lib.hid (Kd.S_reads (Kd.S_below HS1.out hb2))
  have HB2 := Lib.hid (HB1.out.trans (hb2.mono HB1.out.size))
  clear h1 h2 h3 h4 hb2
  unfold cellsW at HW2 HT HL HB2
  generalize ((((w1.alloc (.cells #[.int .i64 1, .int .i64 2] 3)).alloc (.cells #[.int .i64 3] 3)).alloc (.cells #[.int .i64 (-1), .string ⟨#[114, 111, 111, 116]⟩, .string ⟨#[]⟩, .slice none 0 0, .slice (some ⟨w1.heap.size, 0, none⟩) 2 2, .int .i64 0, .string ⟨#[]⟩, .string ⟨#[97]⟩, .slice none 0 0, .slice none 0 0, .int .i64 0, .string ⟨#[98]⟩, .string ⟨#[]⟩, .slice none 0 0, .slice (some ⟨w1.heap.size + 1, 0, none⟩) 1 1, .int .i64 2, .string ⟨#[]⟩, .string ⟨#[99]⟩, .slice none 0 0, .slice none 0 0] 49)).alloc (.cells #[.int .i64 9, .string ⟨#[]⟩, .string ⟨#[]⟩, .slice none 0 0] 46)) = W2 at HW2 HT HL HB2 ⊢
  have hl : Kd.C k49 W2 A1 awN.length awN ∧ awN.length ≤ c1 := by
    obtain ⟨A, c, he, hc, hr⟩ := HL.out
    injection he with e1 _ e3
    subst e1 e3
    exact ⟨hr, hc⟩
  have HC2 := Lib.hid hl.1
  have HLC := Lib.hid hl.2
  clear hl HL HS1
  refine Calls.mono (tree_Build.calls (some ⟨w1.heap.size + 1 + 1 + 1, 0, none⟩) 1 awTs [] 2 _ HT.out (by decide) aw_build) ?_
  rintro e w3 ⟨v, rfl, hs, hb⟩
  obtain ⟨A2, c2, rfl⟩ := Kd.S_slice hs
  clear hs
  have HB3 := Lib.hid (HB2.out.trans (hb.mono HB2.out.size))
  have HC3 := Lib.hid (Kd.C_below HC2.out hb)
  have HW3 := Lib.hid (Kd.C_below HW2.out hb)
  clear hb
  go_wp2_with fail
  refine Calls.mono (scrimref05_Same.calls A1 c1 awN (some ⟨w1.heap.size + 1 + 1, 0, none⟩) 4 awN true _ HC3.out HLC.out HW3.out (by decide) aw_same) ?_
  rintro e w4 ⟨rfl, hb⟩
  have HB4 := Lib.hid (HB3.out.trans (hb.mono HB3.out.size))
  have HC4 := Lib.hid (Kd.C_below HC3.out hb)
  have HW4 := Lib.hid (Kd.C_below HW3.out hb)
  clear hb
  go_wp2_with fail
  refine Calls.mono (tree_May.calls 40 A1 c1 awN true _ HC4.out HLC.out aw_may) ?_
  rintro e w5 ⟨rfl, hb⟩
  have HB5 := Lib.hid (HB4.out.trans (hb.mono HB4.out.size))
  have HC5 := Lib.hid (Kd.C_below HC4.out hb)
  have HW5 := Lib.hid (Kd.C_below HW4.out hb)
  clear hb
  go_wp2_with fail
  refine Calls.mono (tree_May.calls 40 none 0 [] false _ (nilC _ _) (by decide) aw_may0) ?_
  rintro e w6 ⟨rfl, hb⟩
  have HB6 := Lib.hid (HB5.out.trans (hb.mono HB5.out.size))
  have HC6 := Lib.hid (Kd.C_below HC5.out hb)
  have HW6 := Lib.hid (Kd.C_below HW5.out hb)
  clear hb
  go_wp2_with fail
  refine Calls.mono (depth_calls A1 c1 awN 3 _ HC6.out aw_up (by decide)) ?_
  rintro e w7 ⟨rfl, hb⟩
  have HB7 := Lib.hid (HB6.out.trans (hb.mono HB6.out.size))
  have HC7 := Lib.hid (Kd.C_below HC6.out hb)
  have HW7 := Lib.hid (Kd.C_below HW6.out hb)
  clear hb
  rw [aw_d1]
  go_wp2_with fail
  refine Calls.mono (depth_calls A1 c1 awN 9 _ HC7.out aw_up (by decide)) ?_
  rintro e w8 ⟨rfl, hb⟩
  have HB8 := Lib.hid (HB7.out.trans (hb.mono HB7.out.size))
  have HC8 := Lib.hid (Kd.C_below HC7.out hb)
  have HW8 := Lib.hid (Kd.C_below HW7.out hb)
  clear hb
  rw [aw_d2]
  go_wp2_with fail
  refine Calls.mono (copy_calls A1 c1 awN _ HC8.out HLC.out (by decide) (by decide)) ?_
  rintro e w9 ⟨v, rfl, hn, hb⟩
  obtain ⟨A3, c3, rfl, hc3, hr3⟩ := Kd.N_reads hn
  have HR3 := Lib.hid hr3
  have HC3' := Lib.hid hc3
  clear hn hr3 hc3
  have HB9 := Lib.hid (HB8.out.trans (hb.mono HB8.out.size))
  have HC9 := Lib.hid (Kd.C_below HC8.out hb)
  have HW9 := Lib.hid (Kd.C_below HW8.out hb)
  clear hb
  go_wp2_with fail
  refine Calls.mono (scrimref05_Same.calls A3 c3 awN (some ⟨w1.heap.size + 1 + 1, 0, none⟩) 4 awN true _ HR3.out HC3'.out HW9.out (by decide) aw_same) ?_
  rintro e w10 ⟨rfl, hb⟩
  have HB10 := Lib.hid (HB9.out.trans (hb.mono HB9.out.size))
  have HC10 := Lib.hid (Kd.C_below HC9.out hb)
  have HW10 := Lib.hid (Kd.C_below HW9.out hb)
  clear hb
  go_wp2_with fail
  go_ret
  exact ⟨rfl, HB10.out⟩
def scrimlaw05_awake.f : Option Bool := some true
theorem scrimlaw05_awake.calls (r : Bool) (w : World) (h : scrimlaw05_awake.f = some r) : Calls Tryz.prog 23 #[] w fun e w' => e = .returned (.bool r) ∧ Below w.heap.size w w' := by
  unfold scrimlaw05_awake.f at h
  injection h with h
  subst h
  exact awakeN_calls w
end Go.Proofs.YtkjgnkmnngaioaaGreat.Q
namespace Go.Proofs.YtkjgnkmnngaioaaGreat.Q
open Go.RowKit Go.Proofs.YtkjgnkmnngaioaaGreatW.PrintWords Go.Proofs.YtkjgnkmnngaioaaGreatW.PrintLast Go.Proofs.YtkjgnkmnngaioaaGreatW.PrintMore
attribute [local go_sem] max2_int min2_int max_two min_two max_three min_three max_four min_four   -- for this text's walks alone
set_option linter.unusedVariables false
set_option linter.unusedSimpArgs false
mutual
def scrimlaw05_TreeTexts.j0 : Nat → List (S46) → Bool → Option (Bool)
  | 0, _, _ => none
  | k + 1, x0, x27 => if x27 = true then (some true) else ((tree_Build.f x0).bind fun bt248 => (if bt248.2 = 0 then (scrimlaw05_TreeTexts.l0 k bt248.1 (⟨#[]⟩ : ByteArray) (⟨#[]⟩ : ByteArray) 1 x0 (x0.length : Int) 0) else (some ((bt248.1.length : Int) == 0))))
def scrimlaw05_TreeTexts.l0 : Nat → List (S49) → ByteArray → ByteArray → Int → List (S46) → Int → Int → Option (Bool)
  | 0, _, _, _, _, _, _, _ => none
  | k + 1, x5, x7, x8, x9, x38, x39, x40 => if x40 < x39 then (if 0 ≤ x40 then (if x40 < (x38.length : Int) then (if ((rd_T46 x38 x40).f0) = 3 then (if x7.size + ((rd_T46 x38 x40).f2).size ≤ 9223372036854775807 then (if ((rd_T46 x38 x40).f0) = 1 then (if ((rd_T46 x38 x40).f1).toList = ([114, 111, 111, 116] : List UInt8) then (scrimlaw05_TreeTexts.l0 k x5 (x7 ++ ((rd_T46 x38 x40).f2)) x8 x9 x38 x39 (wrap64 (x40 + 1))) else (scrimlaw05_TreeTexts.l0 k x5 (x7 ++ ((rd_T46 x38 x40).f2)) x8 (wrap64 (x9 + 1)) x38 x39 (wrap64 (x40 + 1)))) else (scrimlaw05_TreeTexts.l0 k x5 (x7 ++ ((rd_T46 x38 x40).f2)) x8 x9 x38 x39 (wrap64 (x40 + 1)))) else (none)) else (if ((rd_T46 x38 x40).f0) = 1 then (if ((rd_T46 x38 x40).f1).toList = ([114, 111, 111, 116] : List UInt8) then (scrimlaw05_TreeTexts.l0 k x5 x7 x8 x9 x38 x39 (wrap64 (x40 + 1))) else (scrimlaw05_TreeTexts.l0 k x5 x7 x8 (wrap64 (x9 + 1)) x38 x39 (wrap64 (x40 + 1)))) else (scrimlaw05_TreeTexts.l0 k x5 x7 x8 x9 x38 x39 (wrap64 (x40 + 1))))) else (none)) else (none)) else (scrimlaw05_TreeTexts.l1 k x7 x8 x9 x5 (x5.length : Int) 0)
def scrimlaw05_TreeTexts.l1 : Nat → ByteArray → ByteArray → Int → List (S49) → Int → Int → Option (Bool)
  | 0, _, _, _, _, _, _ => none
  | k + 1, x7, x8, x9, x62, x63, x64 => if x64 < x63 then (if 0 ≤ x64 then (if x64 < (x62.length : Int) then (if x8.size + ((rd_T49 x62 x64).f2).size ≤ 9223372036854775807 then (if ((rd_T49 x62 x64).f1).toList = ([] : List UInt8) then (scrimlaw05_TreeTexts.l1 k x7 (x8 ++ ((rd_T49 x62 x64).f2)) x9 x62 x63 (wrap64 (x64 + 1))) else (scrimlaw05_TreeTexts.l1 k x7 (x8 ++ ((rd_T49 x62 x64).f2)) (wrap64 (x9 - 1)) x62 x63 (wrap64 (x64 + 1)))) else (none)) else (none)) else (none)) else (if x7.toList = x8.toList then (some (x9 == 0)) else (some false))
end
def scrimlaw05_TreeTexts.f (k : Nat) (l0 : List (S46)) : Option (Bool) := (scrimlaw05_awake.f).bind fun t243 => (if t243 = true then ((scrimlaw05_own.f k l0).bind fun bt244 => (if bt244.2 > 20000 then (scrimlaw05_TreeTexts.j0 k l0 true) else (scrimlaw05_TreeTexts.j0 k l0 (decide ((l0.length : Int) > 300))))) else (some false))
set_option maxHeartbeats 8000000 in
set_option maxRecDepth 100000 in
theorem scrimlaw05_TreeTexts.calls (k : Nat) (A0 : Option Addr) (c0 : Nat) (l0 : List (S46)) (r : Bool) (w : World) (hr0 : Kd.C k46 w A0 l0.length l0) (hc0 : l0.length ≤ c0) (h : scrimlaw05_TreeTexts.f k l0 = some r) :
    Calls Tryz.prog 5 #[.slice A0 l0.length c0] w fun e w' => e = .returned (.bool r) ∧ Below w.heap.size w w' := by
  have hu46 := Tryz.underlying46
  have hu49 := Tryz.underlying49
  have HR0 := Aside0.mk hr0
  have HC0 := Aside0.mk hc0
  clear hr0 hc0
  have HB := Aside0.mk (Below.refl w.heap.size w)
  have H : ((scrimlaw05_awake.f).bind fun t243 => (if t243 = true then ((scrimlaw05_own.f k l0).bind fun bt244 => (if bt244.2 > 20000 then (scrimlaw05_TreeTexts.j0 k l0 true) else (scrimlaw05_TreeTexts.j0 k l0 (decide ((l0.length : Int) > 300))))) else (some false))) = some r := h
  clear h
  replace H := Option.bind_eq_some_iff.mp H
  obtain ⟨t243, A20, H⟩ := H
  replace H : (if t243 = true then ((scrimlaw05_own.f k l0).bind fun bt244 => (if bt244.2 > 20000 then (scrimlaw05_TreeTexts.j0 k l0 true) else (scrimlaw05_TreeTexts.j0 k l0 (decide ((l0.length : Int) > 300))))) else (some false)) = some r := H
  have A2 := Aside0.mk A20
  clear A20
  by_cases c3 : t243 = true
  · subst c3
    have H1 : ((scrimlaw05_own.f k l0).bind fun bt244 => (if bt244.2 > 20000 then (scrimlaw05_TreeTexts.j0 k l0 true) else (scrimlaw05_TreeTexts.j0 k l0 (decide ((l0.length : Int) > 300))))) = some r := by rw [if_pos rfl] at H; exact H
    clear H
    have H := H1
    clear H1
    replace H := Option.bind_eq_some_iff.mp H
    obtain ⟨⟨t244, t247⟩, A40, H⟩ := H
    replace H : (if t247 > 20000 then (scrimlaw05_TreeTexts.j0 k l0 true) else (scrimlaw05_TreeTexts.j0 k l0 (decide ((l0.length : Int) > 300)))) = some r := H
    have A4 := Aside0.mk A40
    clear A40
    have HC5 := Aside0.mk H
    clear H
    go_enter Tryz.func5, Tryz.ntmps5
    go_upto_region 4 with (first | ((with_reducible refine gate_callee (f := 23) rfl ?_); refine goesL_ (some 14) rfl rfl Tryz.func23 (by kernel_rfl) rfl #[] rfl (by (try simp only [List.map_toArray, List.map_cons, List.map_nil]); first | done | rfl | (simp only [List.length_drop, List.length_take]; rfl)) ?_; (with_reducible refine (scrimlaw05_awake.calls  true _ A2.out).mono ?_); rintro e w6 ⟨rfl, hb⟩; refine ⟨_, rfl, ?_⟩; have n0_ := Aside0.mk (below_step (by repeat (first | (with_reducible first | exact HB.out | apply below_alloc | apply pw_below_drewN | apply below_drew1) | exact HB.out)) hb); clear HB; have HB := n0_; clear n0_; (try clear hb); (try clear hb2); (try clear hk); (try clear hi)) | ((with_reducible refine gate_callee (f := 24) rfl ?_); refine goesL_ (some 18) rfl rfl Tryz.func24 (by kernel_rfl) rfl #[.slice A0 l0.length c0] rfl (by (try simp only [List.map_toArray, List.map_cons, List.map_nil]); first | done | rfl | (simp only [List.length_drop, List.length_take]; rfl)) ?_; (with_reducible refine (scrimlaw05_own.calls k (fun k_ => k_ < w.heap.size) _ _ l0 t244 t247 _ ?side1 A4.out).mono ?_); (case side1 => exact Kd.V_mk HC0.out (Kd.F_below (Kd.C_F k46_heap HR0.out) (by repeat (first | (with_reducible first | exact HB.out | apply below_alloc | apply pw_below_drewN | apply below_drew1) | exact HB.out)))); rintro e w7 ⟨v245, rfl, ho0, hb⟩; refine ⟨_, rfl, ?_⟩; have n0_ := Aside0.mk (Kd.N_lower (Kd.N_mono (ok' := fun k_ => True) ho0 (fun k_ hk_ => trivial)) (below_size (by repeat (first | (with_reducible first | exact HB.out | apply below_alloc | apply pw_below_drewN | apply below_drew1) | exact HB.out)))); have n1_ := Aside0.mk (below_step (by repeat (first | (with_reducible first | exact HB.out | apply below_alloc | apply pw_below_drewN | apply below_drew1) | exact HB.out)) hb); clear HB; have HO246 := n0_; have HB := n1_; clear n0_ n1_; (try clear hb); (try clear hb2); (try clear hk); (try clear hi); (try clear ho0)))
    (try simp only [Act.put, List.setIfInBounds_toArray, List.set_cons_zero, List.set_cons_succ])
    go_cut [27] (fun v27 wc => ∃ (kq : Nat) (x27_4 : Bool), v27 = .bool x27_4 ∧ Aside0 (scrimlaw05_TreeTexts.j0 kq l0 x27_4 = some r) ∧ Aside0 (kq ≤ k) ∧ Aside0 (Below w.heap.size w wc))
    case first =>
      have H := HC5.out
      clear HC5
      by_cases c8 : t247 > 20000
      · rw [if_pos c8] at H
        have c8b0 : decide (20000 < t247) = true := decide_eq_true c8
        clear c8
        (first | rw [c8b0] | (simp only [i64_w, i32_w]; rw [c8b0]) | skip)
        have H' := Aside0.mk H
        clear H
        go_wp2
        go_meet
        case rel => exact ⟨_, (true), (by first | rfl | (simp; done) | (simp [*]; done)), H', ⟨by first | omega | exact Nat.le_refl _⟩, ⟨by repeat (first | (with_reducible first | exact HB.out | apply below_alloc | apply pw_below_drewN | apply below_drew1) | exact HB.out)⟩⟩
      · rw [if_neg c8] at H
        have c8b0 : decide (20000 < t247) = false := decide_eq_false c8
        clear c8
        (first | rw [c8b0] | (simp only [i64_w, i32_w]; rw [c8b0]) | skip)
        have H' := Aside0.mk H
        clear H
        go_wp2
        go_meet
        case rel => exact ⟨_, (decide ((l0.length : Int) > 300)), (by first | rfl | (simp; done) | (simp [*]; done)), H', ⟨by first | omega | exact Nat.le_refl _⟩, ⟨by repeat (first | (with_reducible first | exact HB.out | apply below_alloc | apply pw_below_drewN | apply below_drew1) | exact HB.out)⟩⟩
    case rest =>
      clear HC5
      try clear c2
      try clear p2
      try clear c3
      try clear c5
      try clear c8
      try clear c8b0
      obtain ⟨kq, x27_4, rfl, HA, HJ4, HB⟩ := hcut
      cases kq with
      | zero => exact absurd HA.out (by simp [scrimlaw05_TreeTexts.j0])
      | succ kj4 =>
        have H := HA.out
        clear HA
        simp only [scrimlaw05_TreeTexts.j0] at H
        by_cases c9 : x27_4 = true
        · subst c9
          have H1 : (some true) = some r := by rw [if_pos rfl] at H; exact H
          clear H
          have H := H1
          clear H1
          obtain rfl := Option.some.inj H
          go_wp2
          go_ret
          exact ⟨by first | rfl | (simp [errW_none, errW_some] <;> rfl) | (simp [*, errW_none, errW_some] <;> rfl), by repeat (first | (with_reducible first | exact HB.out | apply below_alloc | apply pw_below_drewN | apply below_drew1) | exact HB.out)⟩
        · replace c9 := Bool.eq_false_iff.mpr c9
          subst c9
          have H1 : ((tree_Build.f l0).bind fun bt248 => (if bt248.2 = 0 then (scrimlaw05_TreeTexts.l0 kj4 bt248.1 (⟨#[]⟩ : ByteArray) (⟨#[]⟩ : ByteArray) 1 l0 (l0.length : Int) 0) else (some ((bt248.1.length : Int) == 0)))) = some r := by rw [if_neg (show ¬ (false = true) by decide)] at H; exact H
          clear H
          have H := H1
          clear H1
          replace H := Option.bind_eq_some_iff.mp H
          obtain ⟨⟨t248, t249⟩, A100, H⟩ := H
          replace H : (if t249 = 0 then (scrimlaw05_TreeTexts.l0 kj4 t248 (⟨#[]⟩ : ByteArray) (⟨#[]⟩ : ByteArray) 1 l0 (l0.length : Int) 0) else (some ((t248.length : Int) == 0))) = some r := H
          have A10 := Aside0.mk A100
          clear A100
          by_cases c11 : t249 = 0
          · rw [if_pos c11] at H
            have c11b0 : (t249 == 0) = true := beq_iff_eq.mpr c11
            have c11b1 : (t249 != 0) = false := bne_eq_false_iff_eq.mpr c11
            clear c11
            have H' := Aside0.mk H
            clear H
            go_wp2_with (first | ((with_reducible refine gate_callee (f := 25) rfl ?_); refine goesL_ (some 30) rfl rfl Tryz.func25 (by kernel_rfl) rfl #[.slice A0 l0.length c0] rfl (by (try simp only [List.map_toArray, List.map_cons, List.map_nil]); first | done | rfl | (simp only [List.length_drop, List.length_take]; rfl)) ?_; (with_reducible refine (tree_Build.calls _ _ l0 t248 t249 _ ?side1 ?side2 A10.out).mono ?_); (case side1 => repeat (first | exact (Kd.C_below HR0.out HB.out) | (with_reducible refine Kd.C_alloc ?_ _) | (with_reducible refine Kd.C_drewN ?_ _) | (with_reducible refine Kd.C_drew ?_))); (case side2 => exact HC0.out); rintro e w12 ⟨v250, rfl, ho0, hb⟩; refine ⟨_, rfl, ?_⟩; have n0_ := Aside0.mk (Kd.N_lower (Kd.N_mono (ok' := fun k_ => True) (Kd.S_N (Kd.S_bound ho0)) (fun k_ hk_ => trivial)) (below_size (by repeat (first | (with_reducible first | exact HB.out | apply below_alloc | apply pw_below_drewN | apply below_drew1) | exact HB.out)))); have n1_ := Aside0.mk (below_step (by repeat (first | (with_reducible first | exact HB.out | apply below_alloc | apply pw_below_drewN | apply below_drew1) | exact HB.out)) hb); clear HB; have HO251 := n0_; have HB := n1_; clear n0_ n1_; (try clear hb); (try clear hb2); (try clear hk); (try clear hi); (try clear ho0)))
            go_loopg [7, 9, 40] kj4 (fun kq v7 v9 v40 w' => ∃ (x7_2 : ByteArray) (x9_2 : Int) (x40_2 : Int), v7 = .string x7_2 ∧ v9 = .int .i64 x9_2 ∧ v40 = .int .i64 x40_2 ∧ Aside0 (scrimlaw05_TreeTexts.l0 kq t248 x7_2 (⟨#[]⟩ : ByteArray) x9_2 l0 (l0.length : Int) x40_2 = some r) ∧ Aside0 (kq ≤ kj4) ∧ Aside0 (Kd.N k49 49 w' w.heap.size (fun _ => True) v250 t248) ∧ Aside0 (Below w.heap.size w w'))
            case atStart => exact ⟨((⟨#[]⟩ : ByteArray)), (1), (0), (by first | rfl | (simp; done) | (simp [*]; done)), (by first | rfl | (simp; done) | (simp [*]; done)), (by first | rfl | (simp; done) | (simp [*]; done)), H', ⟨Nat.le_refl _⟩, ⟨by (with_reducible repeat (first | apply Kd.N_alloc | apply Kd.N_drewN | apply Kd.N_drew)); exact HO251.out⟩, ⟨by repeat (first | (with_reducible first | exact HB.out | apply below_alloc | apply pw_below_drewN | apply below_drew1) | exact HB.out)⟩⟩
            case round =>
              clear H'
              try clear c1
              try clear c2
              try clear p2
              try clear c3
              try clear c5
              try clear c8
              try clear c8b0
              try clear c9
              try clear c11
              try clear c11b0
              try clear c11b1
              try clear p2
              obtain ⟨x7_2, x9_2, x40_2, rfl, rfl, rfl, HA, HK2, HO_5, HB⟩ := hrel
              cases gk with
              | zero => exact absurd HA.out (by simp [scrimlaw05_TreeTexts.l0])
              | succ k2 =>
                have H := HA.out
                clear HA
                simp only [scrimlaw05_TreeTexts.l0] at H
                by_cases c13 : x40_2 < (l0.length : Int)
                · rw [if_pos c13] at H
                  have c13b0 : decide (x40_2 < (l0.length : Int)) = true := decide_eq_true c13
                  clear c13
                  by_cases c14 : 0 ≤ x40_2
                  · rw [if_pos c14] at H
                    have c14b0 : decide (0 ≤ x40_2) = true := decide_eq_true c14
                    clear c14
                    by_cases c15 : x40_2 < (l0.length : Int)
                    · rw [if_pos c15] at H
                      have c15b0 : decide (x40_2 < (l0.length : Int)) = true := decide_eq_true c15
                      clear c15
                      by_cases c16 : ((rd_T46 l0 x40_2).f0) = 3
                      · rw [if_pos c16] at H
                        have c16b0 : (((rd_T46 l0 x40_2).f0) == 3) = true := beq_iff_eq.mpr c16
                        have c16b1 : (((rd_T46 l0 x40_2).f0) != 3) = false := bne_eq_false_iff_eq.mpr c16
                        clear c16
                        by_cases c17 : x7_2.size + ((rd_T46 l0 x40_2).f2).size ≤ 9223372036854775807
                        · rw [if_pos c17] at H
                          have c17b0 := eq_true c17
                          have c17b1 : decide (x7_2.size + ((rd_T46 l0 x40_2).f2).size ≤ 9223372036854775807) = true := decide_eq_true c17
                          try have c17b2 : (9223372036854775807 < x7_2.size + ((rd_T46 l0 x40_2).f2).size) = False := eq_false (Nat.not_lt.2 c17)
                          by_cases c18 : ((rd_T46 l0 x40_2).f0) = 1
                          · rw [if_pos c18] at H
                            have c18b0 : (((rd_T46 l0 x40_2).f0) == 1) = true := beq_iff_eq.mpr c18
                            have c18b1 : (((rd_T46 l0 x40_2).f0) != 1) = false := bne_eq_false_iff_eq.mpr c18
                            clear c18
                            by_cases c19 : ((rd_T46 l0 x40_2).f1).toList = ([114, 111, 111, 116] : List UInt8)
                            · rw [if_pos c19] at H
                              have c19b0 : (((rd_T46 l0 x40_2).f1).toList == ([114, 111, 111, 116] : List UInt8)) = true := beq_iff_eq.mpr c19
                              have c19b1 : (((rd_T46 l0 x40_2).f1).toList != ([114, 111, 111, 116] : List UInt8)) = false := bne_eq_false_iff_eq.mpr c19
                              clear c19
                              have H' := Aside0.mk H
                              clear H
                              have p252 : 0 ≤ (x40_2 : Int) := of_decide_eq_true (by first | (with_reducible assumption) | assumption)
                              have q252 : x40_2 < (l0.length : Int) := of_decide_eq_true (by first | (with_reducible assumption) | assumption)
                              obtain ⟨ad252, A252_3, c252_3, e252, hx252_0, hx252_1, hx252_2, hx252_3, hl252_3, hi252_3⟩ := at_T46 HR0.out x40_2 p252 q252
                              cases e252
                              replace hx252_0 := (HB.out.cell (World.block_lt_of_cell? w _ hx252_0)).trans hx252_0
                              replace hx252_1 := (HB.out.cell (World.block_lt_of_cell? w _ hx252_1)).trans hx252_1
                              replace hx252_2 := (HB.out.cell (World.block_lt_of_cell? w _ hx252_2)).trans hx252_2
                              replace hx252_3 := (HB.out.cell (World.block_lt_of_cell? w _ hx252_3)).trans hx252_3
                              have HR252_3 := Aside0.mk hi252_3
                              have HC252_3 := Aside0.mk hl252_3
                              clear hi252_3 hl252_3
                              replace p252 := eq_true p252
                              replace q252 := eq_true q252
                              go_wp2_with (first | ((with_reducible refine gate_dst (N := 11) rfl ?_); (try (refine gate_guard (by rfl) ?_; dsimp only)); refine box_event ?hg (N := 11) ?hd (cs := #[.int .i64 0, .string (⟨#[]⟩ : ByteArray), .string (⟨#[]⟩ : ByteArray), .slice none 0 0]) (t := 46) ?hr ?_; (case hd => rfl); (case hg => rfl); (case hr => first | (go_simp; done) | (go_simp; rfl)); intro gb253 hg w20 hbox hb; have n0_ := Aside0.mk (Kd.N_below (Kd.N_elderB (by (with_reducible repeat (first | apply Kd.N_alloc | apply Kd.N_drewN | apply Kd.N_drew)); exact HO_5.out) gb253 (Nat.le_of_eq hg.symm)) hb); have n1_ := Aside0.mk (below_step (by repeat (first | (with_reducible first | exact HB.out | apply below_alloc | apply pw_below_drewN | apply below_drew1) | exact HB.out)) hb); have n2_ := Aside0.mk (hbox); have n3_ := Aside0.mk ((by rw [hg]; exact (below_size (by repeat (first | (with_reducible first | exact HB.out | apply below_alloc | apply pw_below_drewN | apply below_drew1) | exact HB.out))) : w.heap.size ≤ gb253)); have n4_ := Aside0.mk ((by rw [hg]; exact (below_size (by repeat (first | (with_reducible first | exact HB.out | apply below_alloc | apply pw_below_drewN | apply below_drew1) | exact HB.out))) : w.heap.size ≤ gb253)); clear HO_5; clear HB; have HO_5 := n0_; have HB := n1_; have BK253 := n2_; have GW253 := n3_; have GE253 := n4_; clear n0_ n1_ n2_ n3_ n4_; clear hb hbox hg; have hcz21_0 : w20.cell? ⟨gb253, 0, none⟩ = some (.int .i64 0) := (blk_cell BK253.out 0).trans rfl; have hcz21_1 : w20.cell? ⟨gb253, 1, none⟩ = some (.string (⟨#[]⟩ : ByteArray)) := (blk_cell BK253.out 1).trans rfl; have hcz21_2 : w20.cell? ⟨gb253, 2, none⟩ = some (.string (⟨#[]⟩ : ByteArray)) := (blk_cell BK253.out 2).trans rfl; have hcz21_3 : w20.cell? ⟨gb253, 3, none⟩ = some (.slice none 0 0) := (blk_cell BK253.out 3).trans rfl; have hfz21_0 := blk_frozen BK253.out 0; have hfz21_1 := blk_frozen BK253.out 1; have hfz21_2 := blk_frozen BK253.out 2; have hfz21_3 := blk_frozen BK253.out 3))
                              go_roundg k2
                              case measure => have := HJ4.out; have := HK2.out; omega
                              case rel => exact ⟨(x7_2 ++ ((rd_T46 l0 x40_2).f2)), (x9_2), (wrap64 (x40_2 + 1)), (by first | rfl | (simp; done) | (simp [*]; done)), (by first | rfl | (simp; done) | (simp [*]; done)), (by first | rfl | (simp; done) | (simp [*]; done)), H', ⟨by have := HJ4.out; have := HK2.out; omega⟩, ⟨by (with_reducible repeat (first | apply Kd.N_alloc | apply Kd.N_drewN | apply Kd.N_drew)); exact Kd.N_mono (Kd.N_far (p := ⟨gb253, 3, none⟩) (Kd.N_far (p := ⟨gb253, 2, none⟩) (Kd.N_far (p := ⟨gb253, 1, none⟩) (Kd.N_far (p := ⟨gb253, 0, none⟩) (Kd.N_mono HO_5.out (fun k_ hk => (⟨hk, hk.2⟩ : _ ∧ k_ ≠ gb253))) (fun _ hk => hk.2) (.int .i64 ((rd_T46 l0 x40_2).f0))) (fun _ hk => hk.2) (.string ((rd_T46 l0 x40_2).f1))) (fun _ hk => hk.2) (.string ((rd_T46 l0 x40_2).f2))) (fun _ hk => hk.2) (.slice A252_3 ((rd_T46 l0 x40_2).f3).length c252_3)) (fun _ hk => trivial)⟩, ⟨by repeat (first | (with_reducible first | exact HB.out | apply below_alloc | apply pw_below_drewN | apply below_drew1 | refine below_set ?_ GE253.out) | exact HB.out)⟩⟩
                            · rw [if_neg c19] at H
                              have c19b0 : (((rd_T46 l0 x40_2).f1).toList == ([114, 111, 111, 116] : List UInt8)) = false := beq_eq_false_iff_ne.mpr c19
                              have c19b1 : (((rd_T46 l0 x40_2).f1).toList != ([114, 111, 111, 116] : List UInt8)) = true := bne_iff_ne.mpr c19
                              have H' := Aside0.mk H
                              clear H
                              have p252 : 0 ≤ (x40_2 : Int) := of_decide_eq_true (by first | (with_reducible assumption) | assumption)
                              have q252 : x40_2 < (l0.length : Int) := of_decide_eq_true (by first | (with_reducible assumption) | assumption)
                              obtain ⟨ad252, A252_3, c252_3, e252, hx252_0, hx252_1, hx252_2, hx252_3, hl252_3, hi252_3⟩ := at_T46 HR0.out x40_2 p252 q252
                              cases e252
                              replace hx252_0 := (HB.out.cell (World.block_lt_of_cell? w _ hx252_0)).trans hx252_0
                              replace hx252_1 := (HB.out.cell (World.block_lt_of_cell? w _ hx252_1)).trans hx252_1
                              replace hx252_2 := (HB.out.cell (World.block_lt_of_cell? w _ hx252_2)).trans hx252_2
                              replace hx252_3 := (HB.out.cell (World.block_lt_of_cell? w _ hx252_3)).trans hx252_3
                              have HR252_3 := Aside0.mk hi252_3
                              have HC252_3 := Aside0.mk hl252_3
                              clear hi252_3 hl252_3
                              replace p252 := eq_true p252
                              replace q252 := eq_true q252
                              go_wp2_with (first | ((with_reducible refine gate_dst (N := 11) rfl ?_); (try (refine gate_guard (by rfl) ?_; dsimp only)); refine box_event ?hg (N := 11) ?hd (cs := #[.int .i64 0, .string (⟨#[]⟩ : ByteArray), .string (⟨#[]⟩ : ByteArray), .slice none 0 0]) (t := 46) ?hr ?_; (case hd => rfl); (case hg => rfl); (case hr => first | (go_simp; done) | (go_simp; rfl)); intro gb253 hg w22 hbox hb; have n0_ := Aside0.mk (Kd.N_below (Kd.N_elderB (by (with_reducible repeat (first | apply Kd.N_alloc | apply Kd.N_drewN | apply Kd.N_drew)); exact HO_5.out) gb253 (Nat.le_of_eq hg.symm)) hb); have n1_ := Aside0.mk (below_step (by repeat (first | (with_reducible first | exact HB.out | apply below_alloc | apply pw_below_drewN | apply below_drew1) | exact HB.out)) hb); have n2_ := Aside0.mk (hbox); have n3_ := Aside0.mk ((by rw [hg]; exact (below_size (by repeat (first | (with_reducible first | exact HB.out | apply below_alloc | apply pw_below_drewN | apply below_drew1) | exact HB.out))) : w.heap.size ≤ gb253)); have n4_ := Aside0.mk ((by rw [hg]; exact (below_size (by repeat (first | (with_reducible first | exact HB.out | apply below_alloc | apply pw_below_drewN | apply below_drew1) | exact HB.out))) : w.heap.size ≤ gb253)); clear HO_5; clear HB; have HO_5 := n0_; have HB := n1_; have BK253 := n2_; have GW253 := n3_; have GE253 := n4_; clear n0_ n1_ n2_ n3_ n4_; clear hb hbox hg; have hcz23_0 : w22.cell? ⟨gb253, 0, none⟩ = some (.int .i64 0) := (blk_cell BK253.out 0).trans rfl; have hcz23_1 : w22.cell? ⟨gb253, 1, none⟩ = some (.string (⟨#[]⟩ : ByteArray)) := (blk_cell BK253.out 1).trans rfl; have hcz23_2 : w22.cell? ⟨gb253, 2, none⟩ = some (.string (⟨#[]⟩ : ByteArray)) := (blk_cell BK253.out 2).trans rfl; have hcz23_3 : w22.cell? ⟨gb253, 3, none⟩ = some (.slice none 0 0) := (blk_cell BK253.out 3).trans rfl; have hfz23_0 := blk_frozen BK253.out 0; have hfz23_1 := blk_frozen BK253.out 1; have hfz23_2 := blk_frozen BK253.out 2; have hfz23_3 := blk_frozen BK253.out 3))
                              go_roundg k2
                              case measure => have := HJ4.out; have := HK2.out; omega
                              case rel => exact ⟨(x7_2 ++ ((rd_T46 l0 x40_2).f2)), (wrap64 (x9_2 + 1)), (wrap64 (x40_2 + 1)), (by first | rfl | (simp; done) | (simp [*]; done)), (by first | rfl | (simp; done) | (simp [*]; done)), (by first | rfl | (simp; done) | (simp [*]; done)), H', ⟨by have := HJ4.out; have := HK2.out; omega⟩, ⟨by (with_reducible repeat (first | apply Kd.N_alloc | apply Kd.N_drewN | apply Kd.N_drew)); exact Kd.N_mono (Kd.N_far (p := ⟨gb253, 3, none⟩) (Kd.N_far (p := ⟨gb253, 2, none⟩) (Kd.N_far (p := ⟨gb253, 1, none⟩) (Kd.N_far (p := ⟨gb253, 0, none⟩) (Kd.N_mono HO_5.out (fun k_ hk => (⟨hk, hk.2⟩ : _ ∧ k_ ≠ gb253))) (fun _ hk => hk.2) (.int .i64 ((rd_T46 l0 x40_2).f0))) (fun _ hk => hk.2) (.string ((rd_T46 l0 x40_2).f1))) (fun _ hk => hk.2) (.string ((rd_T46 l0 x40_2).f2))) (fun _ hk => hk.2) (.slice A252_3 ((rd_T46 l0 x40_2).f3).length c252_3)) (fun _ hk => trivial)⟩, ⟨by repeat (first | (with_reducible first | exact HB.out | apply below_alloc | apply pw_below_drewN | apply below_drew1 | refine below_set ?_ GE253.out) | exact HB.out)⟩⟩
                          · rw [if_neg c18] at H
                            have c18b0 : (((rd_T46 l0 x40_2).f0) == 1) = false := beq_eq_false_iff_ne.mpr c18
                            have c18b1 : (((rd_T46 l0 x40_2).f0) != 1) = true := bne_iff_ne.mpr c18
                            have H' := Aside0.mk H
                            clear H
                            have p252 : 0 ≤ (x40_2 : Int) := of_decide_eq_true (by first | (with_reducible assumption) | assumption)
                            have q252 : x40_2 < (l0.length : Int) := of_decide_eq_true (by first | (with_reducible assumption) | assumption)
                            obtain ⟨ad252, A252_3, c252_3, e252, hx252_0, hx252_1, hx252_2, hx252_3, hl252_3, hi252_3⟩ := at_T46 HR0.out x40_2 p252 q252
                            cases e252
                            replace hx252_0 := (HB.out.cell (World.block_lt_of_cell? w _ hx252_0)).trans hx252_0
                            replace hx252_1 := (HB.out.cell (World.block_lt_of_cell? w _ hx252_1)).trans hx252_1
                            replace hx252_2 := (HB.out.cell (World.block_lt_of_cell? w _ hx252_2)).trans hx252_2
                            replace hx252_3 := (HB.out.cell (World.block_lt_of_cell? w _ hx252_3)).trans hx252_3
                            have HR252_3 := Aside0.mk hi252_3
                            have HC252_3 := Aside0.mk hl252_3
                            clear hi252_3 hl252_3
                            replace p252 := eq_true p252
                            replace q252 := eq_true q252
                            go_wp2_with (first | ((with_reducible refine gate_dst (N := 11) rfl ?_); (try (refine gate_guard (by rfl) ?_; dsimp only)); refine box_event ?hg (N := 11) ?hd (cs := #[.int .i64 0, .string (⟨#[]⟩ : ByteArray), .string (⟨#[]⟩ : ByteArray), .slice none 0 0]) (t := 46) ?hr ?_; (case hd => rfl); (case hg => rfl); (case hr => first | (go_simp; done) | (go_simp; rfl)); intro gb253 hg w24 hbox hb; have n0_ := Aside0.mk (Kd.N_below (Kd.N_elderB (by (with_reducible repeat (first | apply Kd.N_alloc | apply Kd.N_drewN | apply Kd.N_drew)); exact HO_5.out) gb253 (Nat.le_of_eq hg.symm)) hb); have n1_ := Aside0.mk (below_step (by repeat (first | (with_reducible first | exact HB.out | apply below_alloc | apply pw_below_drewN | apply below_drew1) | exact HB.out)) hb); have n2_ := Aside0.mk (hbox); have n3_ := Aside0.mk ((by rw [hg]; exact (below_size (by repeat (first | (with_reducible first | exact HB.out | apply below_alloc | apply pw_below_drewN | apply below_drew1) | exact HB.out))) : w.heap.size ≤ gb253)); have n4_ := Aside0.mk ((by rw [hg]; exact (below_size (by repeat (first | (with_reducible first | exact HB.out | apply below_alloc | apply pw_below_drewN | apply below_drew1) | exact HB.out))) : w.heap.size ≤ gb253)); clear HO_5; clear HB; have HO_5 := n0_; have HB := n1_; have BK253 := n2_; have GW253 := n3_; have GE253 := n4_; clear n0_ n1_ n2_ n3_ n4_; clear hb hbox hg; have hcz25_0 : w24.cell? ⟨gb253, 0, none⟩ = some (.int .i64 0) := (blk_cell BK253.out 0).trans rfl; have hcz25_1 : w24.cell? ⟨gb253, 1, none⟩ = some (.string (⟨#[]⟩ : ByteArray)) := (blk_cell BK253.out 1).trans rfl; have hcz25_2 : w24.cell? ⟨gb253, 2, none⟩ = some (.string (⟨#[]⟩ : ByteArray)) := (blk_cell BK253.out 2).trans rfl; have hcz25_3 : w24.cell? ⟨gb253, 3, none⟩ = some (.slice none 0 0) := (blk_cell BK253.out 3).trans rfl; have hfz25_0 := blk_frozen BK253.out 0; have hfz25_1 := blk_frozen BK253.out 1; have hfz25_2 := blk_frozen BK253.out 2; have hfz25_3 := blk_frozen BK253.out 3))
                            go_roundg k2
                            case measure => have := HJ4.out; have := HK2.out; omega
                            case rel => exact ⟨(x7_2 ++ ((rd_T46 l0 x40_2).f2)), (x9_2), (wrap64 (x40_2 + 1)), (by first | rfl | (simp; done) | (simp [*]; done)), (by first | rfl | (simp; done) | (simp [*]; done)), (by first | rfl | (simp; done) | (simp [*]; done)), H', ⟨by have := HJ4.out; have := HK2.out; omega⟩, ⟨by (with_reducible repeat (first | apply Kd.N_alloc | apply Kd.N_drewN | apply Kd.N_drew)); exact Kd.N_mono (Kd.N_far (p := ⟨gb253, 3, none⟩) (Kd.N_far (p := ⟨gb253, 2, none⟩) (Kd.N_far (p := ⟨gb253, 1, none⟩) (Kd.N_far (p := ⟨gb253, 0, none⟩) (Kd.N_mono HO_5.out (fun k_ hk => (⟨hk, hk.2⟩ : _ ∧ k_ ≠ gb253))) (fun _ hk => hk.2) (.int .i64 ((rd_T46 l0 x40_2).f0))) (fun _ hk => hk.2) (.string ((rd_T46 l0 x40_2).f1))) (fun _ hk => hk.2) (.string ((rd_T46 l0 x40_2).f2))) (fun _ hk => hk.2) (.slice A252_3 ((rd_T46 l0 x40_2).f3).length c252_3)) (fun _ hk => trivial)⟩, ⟨by repeat (first | (with_reducible first | exact HB.out | apply below_alloc | apply pw_below_drewN | apply below_drew1 | refine below_set ?_ GE253.out) | exact HB.out)⟩⟩
                        · rw [if_neg c17] at H
                          exact absurd H (by simp)
                      · rw [if_neg c16] at H
                        have c16b0 : (((rd_T46 l0 x40_2).f0) == 3) = false := beq_eq_false_iff_ne.mpr c16
                        have c16b1 : (((rd_T46 l0 x40_2).f0) != 3) = true := bne_iff_ne.mpr c16
                        by_cases c26 : ((rd_T46 l0 x40_2).f0) = 1
                        · rw [if_pos c26] at H
                          have c26b0 : (((rd_T46 l0 x40_2).f0) == 1) = true := beq_iff_eq.mpr c26
                          have c26b1 : (((rd_T46 l0 x40_2).f0) != 1) = false := bne_eq_false_iff_eq.mpr c26
                          clear c26
                          by_cases c27 : ((rd_T46 l0 x40_2).f1).toList = ([114, 111, 111, 116] : List UInt8)
                          · rw [if_pos c27] at H
                            have c27b0 : (((rd_T46 l0 x40_2).f1).toList == ([114, 111, 111, 116] : List UInt8)) = true := beq_iff_eq.mpr c27
                            have c27b1 : (((rd_T46 l0 x40_2).f1).toList != ([114, 111, 111, 116] : List UInt8)) = false := bne_eq_false_iff_eq.mpr c27
                            clear c27
                            have H' := Aside0.mk H
                            clear H
                            have p252 : 0 ≤ (x40_2 : Int) := of_decide_eq_true (by first | (with_reducible assumption) | assumption)
                            have q252 : x40_2 < (l0.length : Int) := of_decide_eq_true (by first | (with_reducible assumption) | assumption)
                            obtain ⟨ad252, A252_3, c252_3, e252, hx252_0, hx252_1, hx252_2, hx252_3, hl252_3, hi252_3⟩ := at_T46 HR0.out x40_2 p252 q252
                            cases e252
                            replace hx252_0 := (HB.out.cell (World.block_lt_of_cell? w _ hx252_0)).trans hx252_0
                            replace hx252_1 := (HB.out.cell (World.block_lt_of_cell? w _ hx252_1)).trans hx252_1
                            replace hx252_2 := (HB.out.cell (World.block_lt_of_cell? w _ hx252_2)).trans hx252_2
                            replace hx252_3 := (HB.out.cell (World.block_lt_of_cell? w _ hx252_3)).trans hx252_3
                            have HR252_3 := Aside0.mk hi252_3
                            have HC252_3 := Aside0.mk hl252_3
                            clear hi252_3 hl252_3
                            replace p252 := eq_true p252
                            replace q252 := eq_true q252
                            go_wp2_with (first | ((with_reducible refine gate_dst (N := 11) rfl ?_); (try (refine gate_guard (by rfl) ?_; dsimp only)); refine box_event ?hg (N := 11) ?hd (cs := #[.int .i64 0, .string (⟨#[]⟩ : ByteArray), .string (⟨#[]⟩ : ByteArray), .slice none 0 0]) (t := 46) ?hr ?_; (case hd => rfl); (case hg => rfl); (case hr => first | (go_simp; done) | (go_simp; rfl)); intro gb253 hg w28 hbox hb; have n0_ := Aside0.mk (Kd.N_below (Kd.N_elderB (by (with_reducible repeat (first | apply Kd.N_alloc | apply Kd.N_drewN | apply Kd.N_drew)); exact HO_5.out) gb253 (Nat.le_of_eq hg.symm)) hb); have n1_ := Aside0.mk (below_step (by repeat (first | (with_reducible first | exact HB.out | apply below_alloc | apply pw_below_drewN | apply below_drew1) | exact HB.out)) hb); have n2_ := Aside0.mk (hbox); have n3_ := Aside0.mk ((by rw [hg]; exact (below_size (by repeat (first | (with_reducible first | exact HB.out | apply below_alloc | apply pw_below_drewN | apply below_drew1) | exact HB.out))) : w.heap.size ≤ gb253)); have n4_ := Aside0.mk ((by rw [hg]; exact (below_size (by repeat (first | (with_reducible first | exact HB.out | apply below_alloc | apply pw_below_drewN | apply below_drew1) | exact HB.out))) : w.heap.size ≤ gb253)); clear HO_5; clear HB; have HO_5 := n0_; have HB := n1_; have BK253 := n2_; have GW253 := n3_; have GE253 := n4_; clear n0_ n1_ n2_ n3_ n4_; clear hb hbox hg; have hcz29_0 : w28.cell? ⟨gb253, 0, none⟩ = some (.int .i64 0) := (blk_cell BK253.out 0).trans rfl; have hcz29_1 : w28.cell? ⟨gb253, 1, none⟩ = some (.string (⟨#[]⟩ : ByteArray)) := (blk_cell BK253.out 1).trans rfl; have hcz29_2 : w28.cell? ⟨gb253, 2, none⟩ = some (.string (⟨#[]⟩ : ByteArray)) := (blk_cell BK253.out 2).trans rfl; have hcz29_3 : w28.cell? ⟨gb253, 3, none⟩ = some (.slice none 0 0) := (blk_cell BK253.out 3).trans rfl; have hfz29_0 := blk_frozen BK253.out 0; have hfz29_1 := blk_frozen BK253.out 1; have hfz29_2 := blk_frozen BK253.out 2; have hfz29_3 := blk_frozen BK253.out 3))
                            go_roundg k2
                            case measure => have := HJ4.out; have := HK2.out; omega
                            case rel => exact ⟨(x7_2), (x9_2), (wrap64 (x40_2 + 1)), (by first | rfl | (simp; done) | (simp [*]; done)), (by first | rfl | (simp; done) | (simp [*]; done)), (by first | rfl | (simp; done) | (simp [*]; done)), H', ⟨by have := HJ4.out; have := HK2.out; omega⟩, ⟨by (with_reducible repeat (first | apply Kd.N_alloc | apply Kd.N_drewN | apply Kd.N_drew)); exact Kd.N_mono (Kd.N_far (p := ⟨gb253, 3, none⟩) (Kd.N_far (p := ⟨gb253, 2, none⟩) (Kd.N_far (p := ⟨gb253, 1, none⟩) (Kd.N_far (p := ⟨gb253, 0, none⟩) (Kd.N_mono HO_5.out (fun k_ hk => (⟨hk, hk.2⟩ : _ ∧ k_ ≠ gb253))) (fun _ hk => hk.2) (.int .i64 ((rd_T46 l0 x40_2).f0))) (fun _ hk => hk.2) (.string ((rd_T46 l0 x40_2).f1))) (fun _ hk => hk.2) (.string ((rd_T46 l0 x40_2).f2))) (fun _ hk => hk.2) (.slice A252_3 ((rd_T46 l0 x40_2).f3).length c252_3)) (fun _ hk => trivial)⟩, ⟨by repeat (first | (with_reducible first | exact HB.out | apply below_alloc | apply pw_below_drewN | apply below_drew1 | refine below_set ?_ GE253.out) | exact HB.out)⟩⟩
                          · rw [if_neg c27] at H
                            have c27b0 : (((rd_T46 l0 x40_2).f1).toList == ([114, 111, 111, 116] : List UInt8)) = false := beq_eq_false_iff_ne.mpr c27
                            have c27b1 : (((rd_T46 l0 x40_2).f1).toList != ([114, 111, 111, 116] : List UInt8)) = true := bne_iff_ne.mpr c27
                            have H' := Aside0.mk H
                            clear H
                            have p252 : 0 ≤ (x40_2 : Int) := of_decide_eq_true (by first | (with_reducible assumption) | assumption)
                            have q252 : x40_2 < (l0.length : Int) := of_decide_eq_true (by first | (with_reducible assumption) | assumption)
                            obtain ⟨ad252, A252_3, c252_3, e252, hx252_0, hx252_1, hx252_2, hx252_3, hl252_3, hi252_3⟩ := at_T46 HR0.out x40_2 p252 q252
                            cases e252
                            replace hx252_0 := (HB.out.cell (World.block_lt_of_cell? w _ hx252_0)).trans hx252_0
                            replace hx252_1 := (HB.out.cell (World.block_lt_of_cell? w _ hx252_1)).trans hx252_1
                            replace hx252_2 := (HB.out.cell (World.block_lt_of_cell? w _ hx252_2)).trans hx252_2
                            replace hx252_3 := (HB.out.cell (World.block_lt_of_cell? w _ hx252_3)).trans hx252_3
                            have HR252_3 := Aside0.mk hi252_3
                            have HC252_3 := Aside0.mk hl252_3
                            clear hi252_3 hl252_3
                            replace p252 := eq_true p252
                            replace q252 := eq_true q252
                            go_wp2_with (first | ((with_reducible refine gate_dst (N := 11) rfl ?_); (try (refine gate_guard (by rfl) ?_; dsimp only)); refine box_event ?hg (N := 11) ?hd (cs := #[.int .i64 0, .string (⟨#[]⟩ : ByteArray), .string (⟨#[]⟩ : ByteArray), .slice none 0 0]) (t := 46) ?hr ?_; (case hd => rfl); (case hg => rfl); (case hr => first | (go_simp; done) | (go_simp; rfl)); intro gb253 hg w30 hbox hb; have n0_ := Aside0.mk (Kd.N_below (Kd.N_elderB (by (with_reducible repeat (first | apply Kd.N_alloc | apply Kd.N_drewN | apply Kd.N_drew)); exact HO_5.out) gb253 (Nat.le_of_eq hg.symm)) hb); have n1_ := Aside0.mk (below_step (by repeat (first | (with_reducible first | exact HB.out | apply below_alloc | apply pw_below_drewN | apply below_drew1) | exact HB.out)) hb); have n2_ := Aside0.mk (hbox); have n3_ := Aside0.mk ((by rw [hg]; exact (below_size (by repeat (first | (with_reducible first | exact HB.out | apply below_alloc | apply pw_below_drewN | apply below_drew1) | exact HB.out))) : w.heap.size ≤ gb253)); have n4_ := Aside0.mk ((by rw [hg]; exact (below_size (by repeat (first | (with_reducible first | exact HB.out | apply below_alloc | apply pw_below_drewN | apply below_drew1) | exact HB.out))) : w.heap.size ≤ gb253)); clear HO_5; clear HB; have HO_5 := n0_; have HB := n1_; have BK253 := n2_; have GW253 := n3_; have GE253 := n4_; clear n0_ n1_ n2_ n3_ n4_; clear hb hbox hg; have hcz31_0 : w30.cell? ⟨gb253, 0, none⟩ = some (.int .i64 0) := (blk_cell BK253.out 0).trans rfl; have hcz31_1 : w30.cell? ⟨gb253, 1, none⟩ = some (.string (⟨#[]⟩ : ByteArray)) := (blk_cell BK253.out 1).trans rfl; have hcz31_2 : w30.cell? ⟨gb253, 2, none⟩ = some (.string (⟨#[]⟩ : ByteArray)) := (blk_cell BK253.out 2).trans rfl; have hcz31_3 : w30.cell? ⟨gb253, 3, none⟩ = some (.slice none 0 0) := (blk_cell BK253.out 3).trans rfl; have hfz31_0 := blk_frozen BK253.out 0; have hfz31_1 := blk_frozen BK253.out 1; have hfz31_2 := blk_frozen BK253.out 2; have hfz31_3 := blk_frozen BK253.out 3))
                            go_roundg k2
                            case measure => have := HJ4.out; have := HK2.out; omega
                            case rel => exact ⟨(x7_2), (wrap64 (x9_2 + 1)), (wrap64 (x40_2 + 1)), (by first | rfl | (simp; done) | (simp [*]; done)), (by first | rfl | (simp; done) | (simp [*]; done)), (by first | rfl | (simp; done) | (simp [*]; done)), H', ⟨by have := HJ4.out; have := HK2.out; omega⟩, ⟨by (with_reducible repeat (first | apply Kd.N_alloc | apply Kd.N_drewN | apply Kd.N_drew)); exact Kd.N_mono (Kd.N_far (p := ⟨gb253, 3, none⟩) (Kd.N_far (p := ⟨gb253, 2, none⟩) (Kd.N_far (p := ⟨gb253, 1, none⟩) (Kd.N_far (p := ⟨gb253, 0, none⟩) (Kd.N_mono HO_5.out (fun k_ hk => (⟨hk, hk.2⟩ : _ ∧ k_ ≠ gb253))) (fun _ hk => hk.2) (.int .i64 ((rd_T46 l0 x40_2).f0))) (fun _ hk => hk.2) (.string ((rd_T46 l0 x40_2).f1))) (fun _ hk => hk.2) (.string ((rd_T46 l0 x40_2).f2))) (fun _ hk => hk.2) (.slice A252_3 ((rd_T46 l0 x40_2).f3).length c252_3)) (fun _ hk => trivial)⟩, ⟨by repeat (first | (with_reducible first | exact HB.out | apply below_alloc | apply pw_below_drewN | apply below_drew1 | refine below_set ?_ GE253.out) | exact HB.out)⟩⟩
                        · rw [if_neg c26] at H
                          have c26b0 : (((rd_T46 l0 x40_2).f0) == 1) = false := beq_eq_false_iff_ne.mpr c26
                          have c26b1 : (((rd_T46 l0 x40_2).f0) != 1) = true := bne_iff_ne.mpr c26
                          have H' := Aside0.mk H
                          clear H
                          have p252 : 0 ≤ (x40_2 : Int) := of_decide_eq_true (by first | (with_reducible assumption) | assumption)
                          have q252 : x40_2 < (l0.length : Int) := of_decide_eq_true (by first | (with_reducible assumption) | assumption)
                          obtain ⟨ad252, A252_3, c252_3, e252, hx252_0, hx252_1, hx252_2, hx252_3, hl252_3, hi252_3⟩ := at_T46 HR0.out x40_2 p252 q252
                          cases e252
                          replace hx252_0 := (HB.out.cell (World.block_lt_of_cell? w _ hx252_0)).trans hx252_0
                          replace hx252_1 := (HB.out.cell (World.block_lt_of_cell? w _ hx252_1)).trans hx252_1
                          replace hx252_2 := (HB.out.cell (World.block_lt_of_cell? w _ hx252_2)).trans hx252_2
                          replace hx252_3 := (HB.out.cell (World.block_lt_of_cell? w _ hx252_3)).trans hx252_3
                          have HR252_3 := Aside0.mk hi252_3
                          have HC252_3 := Aside0.mk hl252_3
                          clear hi252_3 hl252_3
                          replace p252 := eq_true p252
                          replace q252 := eq_true q252
                          go_wp2_with (first | ((with_reducible refine gate_dst (N := 11) rfl ?_); (try (refine gate_guard (by rfl) ?_; dsimp only)); refine box_event ?hg (N := 11) ?hd (cs := #[.int .i64 0, .string (⟨#[]⟩ : ByteArray), .string (⟨#[]⟩ : ByteArray), .slice none 0 0]) (t := 46) ?hr ?_; (case hd => rfl); (case hg => rfl); (case hr => first | (go_simp; done) | (go_simp; rfl)); intro gb253 hg w32 hbox hb; have n0_ := Aside0.mk (Kd.N_below (Kd.N_elderB (by (with_reducible repeat (first | apply Kd.N_alloc | apply Kd.N_drewN | apply Kd.N_drew)); exact HO_5.out) gb253 (Nat.le_of_eq hg.symm)) hb); have n1_ := Aside0.mk (below_step (by repeat (first | (with_reducible first | exact HB.out | apply below_alloc | apply pw_below_drewN | apply below_drew1) | exact HB.out)) hb); have n2_ := Aside0.mk (hbox); have n3_ := Aside0.mk ((by rw [hg]; exact (below_size (by repeat (first | (with_reducible first | exact HB.out | apply below_alloc | apply pw_below_drewN | apply below_drew1) | exact HB.out))) : w.heap.size ≤ gb253)); have n4_ := Aside0.mk ((by rw [hg]; exact (below_size (by repeat (first | (with_reducible first | exact HB.out | apply below_alloc | apply pw_below_drewN | apply below_drew1) | exact HB.out))) : w.heap.size ≤ gb253)); clear HO_5; clear HB; have HO_5 := n0_; have HB := n1_; have BK253 := n2_; have GW253 := n3_; have GE253 := n4_; clear n0_ n1_ n2_ n3_ n4_; clear hb hbox hg; have hcz33_0 : w32.cell? ⟨gb253, 0, none⟩ = some (.int .i64 0) := (blk_cell BK253.out 0).trans rfl; have hcz33_1 : w32.cell? ⟨gb253, 1, none⟩ = some (.string (⟨#[]⟩ : ByteArray)) := (blk_cell BK253.out 1).trans rfl; have hcz33_2 : w32.cell? ⟨gb253, 2, none⟩ = some (.string (⟨#[]⟩ : ByteArray)) := (blk_cell BK253.out 2).trans rfl; have hcz33_3 : w32.cell? ⟨gb253, 3, none⟩ = some (.slice none 0 0) := (blk_cell BK253.out 3).trans rfl; have hfz33_0 := blk_frozen BK253.out 0; have hfz33_1 := blk_frozen BK253.out 1; have hfz33_2 := blk_frozen BK253.out 2; have hfz33_3 := blk_frozen BK253.out 3))
                          go_roundg k2
                          case measure => have := HJ4.out; have := HK2.out; omega
                          case rel => exact ⟨(x7_2), (x9_2), (wrap64 (x40_2 + 1)), (by first | rfl | (simp; done) | (simp [*]; done)), (by first | rfl | (simp; done) | (simp [*]; done)), (by first | rfl | (simp; done) | (simp [*]; done)), H', ⟨by have := HJ4.out; have := HK2.out; omega⟩, ⟨by (with_reducible repeat (first | apply Kd.N_alloc | apply Kd.N_drewN | apply Kd.N_drew)); exact Kd.N_mono (Kd.N_far (p := ⟨gb253, 3, none⟩) (Kd.N_far (p := ⟨gb253, 2, none⟩) (Kd.N_far (p := ⟨gb253, 1, none⟩) (Kd.N_far (p := ⟨gb253, 0, none⟩) (Kd.N_mono HO_5.out (fun k_ hk => (⟨hk, hk.2⟩ : _ ∧ k_ ≠ gb253))) (fun _ hk => hk.2) (.int .i64 ((rd_T46 l0 x40_2).f0))) (fun _ hk => hk.2) (.string ((rd_T46 l0 x40_2).f1))) (fun _ hk => hk.2) (.string ((rd_T46 l0 x40_2).f2))) (fun _ hk => hk.2) (.slice A252_3 ((rd_T46 l0 x40_2).f3).length c252_3)) (fun _ hk => trivial)⟩, ⟨by repeat (first | (with_reducible first | exact HB.out | apply below_alloc | apply pw_below_drewN | apply below_drew1 | refine below_set ?_ GE253.out) | exact HB.out)⟩⟩
                    · rw [if_neg c15] at H
                      exact absurd H (by simp)
                  · rw [if_neg c14] at H
                    exact absurd H (by simp)
                · rw [if_neg c13] at H
                  have c13b0 : decide (x40_2 < (l0.length : Int)) = false := decide_eq_false c13
                  clear c13
                  have H' := Aside0.mk H
                  clear H
                  obtain ⟨Ao34, co34, eo34⟩ := Kd.N_slice HO_5.out
                  subst eo34
                  go_wp2
                  go_loopg [8, 9, 64] k2 (fun kq v8 v9 v64 w' => ∃ (x8_3 : ByteArray) (x9_3 : Int) (x64_3 : Int), v8 = .string x8_3 ∧ v9 = .int .i64 x9_3 ∧ v64 = .int .i64 x64_3 ∧ Aside0 (scrimlaw05_TreeTexts.l1 kq x7_2 x8_3 x9_3 t248 (t248.length : Int) x64_3 = some r) ∧ Aside0 (kq ≤ k2) ∧ Aside0 (Kd.N k49 49 w' w.heap.size (fun _ => True) (.slice Ao34 t248.length co34) t248) ∧ Aside0 (Below w.heap.size w w'))
                  case atStart => exact ⟨((⟨#[]⟩ : ByteArray)), (x9_2), (0), (by first | rfl | (simp; done) | (simp [*]; done)), (by first | rfl | (simp; done) | (simp [*]; done)), (by first | rfl | (simp; done) | (simp [*]; done)), H', ⟨Nat.le_refl _⟩, ⟨by (with_reducible repeat (first | apply Kd.N_alloc | apply Kd.N_drewN | apply Kd.N_drew)); exact HO_5.out⟩, ⟨by repeat (first | (with_reducible first | exact HB.out | apply below_alloc | apply pw_below_drewN | apply below_drew1) | exact HB.out)⟩⟩
                  case round =>
                    clear H'
                    try clear c1
                    try clear c2
                    try clear p2
                    try clear q2
                    try clear hx2
                    try clear c3
                    try clear c5
                    try clear p6
                    try clear c8
                    try clear c8b0
                    try clear c9
                    try clear c11
                    try clear c11b0
                    try clear c11b1
                    try clear c13
                    try clear c13b0
                    try clear c14
                    try clear c14b0
                    try clear c15
                    try clear c15b0
                    try clear c16
                    try clear c16b0
                    try clear c16b1
                    try clear c17
                    try clear c17b0
                    try clear c17b1
                    try clear c17b2
                    try clear c18
                    try clear c18b0
                    try clear c18b1
                    try clear c19
                    try clear c19b0
                    try clear c19b1
                    try clear c23
                    try clear c24
                    try clear c25
                    try clear p25
                    try clear q25
                    try clear hx25
                    try clear c26
                    try clear c26b0
                    try clear c26b1
                    try clear c27
                    try clear c27b0
                    try clear c27b1
                    try clear hcz21_0
                    try clear hcz21_1
                    try clear hcz21_2
                    try clear hcz21_3
                    try clear hcz23_0
                    try clear hcz23_1
                    try clear hcz23_2
                    try clear hcz23_3
                    try clear hcz25_0
                    try clear hcz25_1
                    try clear hcz25_2
                    try clear hcz25_3
                    try clear hcz29_0
                    try clear hcz29_1
                    try clear hcz29_2
                    try clear hcz29_3
                    try clear hcz31_0
                    try clear hcz31_1
                    try clear hcz31_2
                    try clear hcz31_3
                    try clear hcz33_0
                    try clear hcz33_1
                    try clear hcz33_2
                    try clear hcz33_3
                    try clear hfz21_0
                    try clear hfz21_1
                    try clear hfz21_2
                    try clear hfz21_3
                    try clear hfz23_0
                    try clear hfz23_1
                    try clear hfz23_2
                    try clear hfz23_3
                    try clear hfz25_0
                    try clear hfz25_1
                    try clear hfz25_2
                    try clear hfz25_3
                    try clear hfz29_0
                    try clear hfz29_1
                    try clear hfz29_2
                    try clear hfz29_3
                    try clear hfz31_0
                    try clear hfz31_1
                    try clear hfz31_2
                    try clear hfz31_3
                    try clear hfz33_0
                    try clear hfz33_1
                    try clear hfz33_2
                    try clear hfz33_3
                    try clear hx252_0
                    try clear hx252_1
                    try clear hx252_2
                    try clear hx252_3
                    try clear p2
                    try clear p252
                    try clear q252
                    obtain ⟨x8_3, x9_3, x64_3, rfl, rfl, rfl, HA, HK3, HO_62, HB⟩ := hrel
                    cases gk with
                    | zero => exact absurd HA.out (by simp [scrimlaw05_TreeTexts.l1])
                    | succ k3 =>
                      have H := HA.out
                      clear HA
                      simp only [scrimlaw05_TreeTexts.l1] at H
                      by_cases c35 : x64_3 < (t248.length : Int)
                      · rw [if_pos c35] at H
                        have c35b0 : decide (x64_3 < (t248.length : Int)) = true := decide_eq_true c35
                        clear c35
                        by_cases c36 : 0 ≤ x64_3
                        · rw [if_pos c36] at H
                          have c36b0 : decide (0 ≤ x64_3) = true := decide_eq_true c36
                          clear c36
                          by_cases c37 : x64_3 < (t248.length : Int)
                          · rw [if_pos c37] at H
                            have c37b0 : decide (x64_3 < (t248.length : Int)) = true := decide_eq_true c37
                            clear c37
                            by_cases c38 : x8_3.size + ((rd_T49 t248 x64_3).f2).size ≤ 9223372036854775807
                            · rw [if_pos c38] at H
                              have c38b0 := eq_true c38
                              have c38b1 : decide (x8_3.size + ((rd_T49 t248 x64_3).f2).size ≤ 9223372036854775807) = true := decide_eq_true c38
                              try have c38b2 : (9223372036854775807 < x8_3.size + ((rd_T49 t248 x64_3).f2).size) = False := eq_false (Nat.not_lt.2 c38)
                              by_cases c39 : ((rd_T49 t248 x64_3).f1).toList = ([] : List UInt8)
                              · rw [if_pos c39] at H
                                have c39b0 : (((rd_T49 t248 x64_3).f1).toList == ([] : List UInt8)) = true := beq_iff_eq.mpr c39
                                have c39b1 : (((rd_T49 t248 x64_3).f1).toList != ([] : List UInt8)) = false := bne_eq_false_iff_eq.mpr c39
                                clear c39
                                have H' := Aside0.mk H
                                clear H
                                have p254 : 0 ≤ (x64_3 : Int) := of_decide_eq_true (by first | (with_reducible assumption) | assumption)
                                have q254 : x64_3 < (t248.length : Int) := of_decide_eq_true (by first | (with_reducible assumption) | assumption)
                                obtain ⟨ad254, A254_3, c254_3, A254_4, c254_4, e254, hx254_0, hx254_1, hx254_2, hx254_3, hx254_4, hl254_3, hi254_3, hl254_4, hi254_4⟩ := at_T49 (Kd.N_reads' HO_62.out).2.2 x64_3 p254 q254
                                cases e254
                                obtain ⟨ce254, hce254, hMe254, hcc254⟩ := Kd.N_get HO_62.out z49 x64_3 p254 (by first | exact q254 | exact of_decide_eq_true (by first | (with_reducible assumption) | assumption) | (have e_ := (Kd.N_reads' HO_62.out).1; omega))
                                obtain ⟨ua254_3, uc254_3, ua254_4, uc254_4, rfl, ul254_3, ge254_3, ul254_4, ge254_4⟩ := k49_openF hMe254
                                have hv254_3 := hcc254 3 _ rfl
                                rw [add_field _ _ 3 (by omega)] at hv254_3
                                replace hv254_3 := Option.some.inj (hv254_3.symm.trans hx254_3)
                                injection hv254_3 with hva_ hvn_ hvc_
                                rw [hva_] at ge254_3
                                rw [hvc_] at ul254_3
                                have HL254_3 := Aside0.mk (show Kd.V k70 70 _ w.heap.size _ _ ((rd_T49 t248 x64_3).f3) from Kd.V_mk ul254_3 ge254_3)
                                clear hva_ hvn_ hvc_ ge254_3 ul254_3
                                have hv254_4 := hcc254 4 _ rfl
                                rw [add_field _ _ 4 (by omega)] at hv254_4
                                replace hv254_4 := Option.some.inj (hv254_4.symm.trans hx254_4)
                                injection hv254_4 with hva_ hvn_ hvc_
                                rw [hva_] at ge254_4
                                rw [hvc_] at ul254_4
                                have HL254_4 := Aside0.mk (show Kd.V (Kd.int .i64) 3 _ w.heap.size _ _ ((rd_T49 t248 x64_3).f4) from Kd.V_mk ul254_4 ge254_4)
                                clear hva_ hvn_ hvc_ ge254_4 ul254_4
                                clear hcc254 hce254
                                have HR254_3 := Aside0.mk hi254_3
                                have HC254_3 := Aside0.mk hl254_3
                                clear hi254_3 hl254_3
                                have HR254_4 := Aside0.mk hi254_4
                                have HC254_4 := Aside0.mk hl254_4
                                clear hi254_4 hl254_4
                                replace p254 := eq_true p254
                                replace q254 := eq_true q254
                                go_wp2_with (first | ((with_reducible refine gate_dst (N := 13) rfl ?_); (try (refine gate_guard (by rfl) ?_; dsimp only)); refine box_event ?hg (N := 13) ?hd (cs := #[.int .i64 0, .string (⟨#[]⟩ : ByteArray), .string (⟨#[]⟩ : ByteArray), .slice none 0 0, .slice none 0 0]) (t := 49) ?hr ?_; (case hd => rfl); (case hg => rfl); (case hr => first | (go_simp; done) | (go_simp; rfl)); intro gb255 hg w40 hbox hb; have n0_ := Aside0.mk (Kd.N_below (Kd.N_elderB (by (with_reducible repeat (first | apply Kd.N_alloc | apply Kd.N_drewN | apply Kd.N_drew)); exact HO_62.out) gb255 (Nat.le_of_eq hg.symm)) hb); have n1_ := Aside0.mk (Kd.V_below (Kd.V_elderB (by (with_reducible repeat (first | apply Kd.V_alloc | apply Kd.V_drewN | apply Kd.V_drew)); exact HL254_3.out) gb255 (Nat.le_of_eq hg.symm)) hb); have n2_ := Aside0.mk (Kd.V_below (Kd.V_elderB (by (with_reducible repeat (first | apply Kd.V_alloc | apply Kd.V_drewN | apply Kd.V_drew)); exact HL254_4.out) gb255 (Nat.le_of_eq hg.symm)) hb); have n3_ := Aside0.mk (Kd.C_below (by repeat (first | (with_reducible exact HR254_3.out) | (with_reducible refine Kd.C_alloc ?_ _) | (with_reducible refine Kd.C_drewN ?_ _) | (with_reducible refine Kd.C_drew ?_) | exact HR254_3.out)) hb); have n4_ := Aside0.mk (Kd.C_below (by repeat (first | (with_reducible exact HR254_4.out) | (with_reducible refine Kd.C_alloc ?_ _) | (with_reducible refine Kd.C_drewN ?_ _) | (with_reducible refine Kd.C_drew ?_) | exact HR254_4.out)) hb); have n5_ := Aside0.mk (below_step (by repeat (first | (with_reducible first | exact HB.out | apply below_alloc | apply pw_below_drewN | apply below_drew1) | exact HB.out)) hb); have n6_ := Aside0.mk (hbox); have n7_ := Aside0.mk ((by rw [hg]; exact (below_size (by repeat (first | (with_reducible first | exact HB.out | apply below_alloc | apply pw_below_drewN | apply below_drew1) | exact HB.out))) : w.heap.size ≤ gb255)); have n8_ := Aside0.mk ((by rw [hg]; exact (below_size (by repeat (first | (with_reducible first | exact HB.out | apply below_alloc | apply pw_below_drewN | apply below_drew1) | exact HB.out))) : w.heap.size ≤ gb255)); clear HO_62; clear HL254_3; clear HL254_4; clear HR254_3; clear HR254_4; clear HB; have HO_62 := n0_; have HL254_3 := n1_; have HL254_4 := n2_; have HR254_3 := n3_; have HR254_4 := n4_; have HB := n5_; have BK255 := n6_; have GW255 := n7_; have GE255 := n8_; clear n0_ n1_ n2_ n3_ n4_ n5_ n6_ n7_ n8_; clear hb hbox hg; have hcz41_0 : w40.cell? ⟨gb255, 0, none⟩ = some (.int .i64 0) := (blk_cell BK255.out 0).trans rfl; have hcz41_1 : w40.cell? ⟨gb255, 1, none⟩ = some (.string (⟨#[]⟩ : ByteArray)) := (blk_cell BK255.out 1).trans rfl; have hcz41_2 : w40.cell? ⟨gb255, 2, none⟩ = some (.string (⟨#[]⟩ : ByteArray)) := (blk_cell BK255.out 2).trans rfl; have hcz41_3 : w40.cell? ⟨gb255, 3, none⟩ = some (.slice none 0 0) := (blk_cell BK255.out 3).trans rfl; have hcz41_4 : w40.cell? ⟨gb255, 4, none⟩ = some (.slice none 0 0) := (blk_cell BK255.out 4).trans rfl; have hfz41_0 := blk_frozen BK255.out 0; have hfz41_1 := blk_frozen BK255.out 1; have hfz41_2 := blk_frozen BK255.out 2; have hfz41_3 := blk_frozen BK255.out 3; have hfz41_4 := blk_frozen BK255.out 4))
                                go_roundg k3
                                case measure => have := HJ4.out; have := HK2.out; have := HK3.out; omega
                                case rel => exact ⟨(x8_3 ++ ((rd_T49 t248 x64_3).f2)), (x9_3), (wrap64 (x64_3 + 1)), (by first | rfl | (simp; done) | (simp [*]; done)), (by first | rfl | (simp; done) | (simp [*]; done)), (by first | rfl | (simp; done) | (simp [*]; done)), H', ⟨by have := HJ4.out; have := HK2.out; have := HK3.out; omega⟩, ⟨by (with_reducible repeat (first | apply Kd.N_alloc | apply Kd.N_drewN | apply Kd.N_drew)); exact Kd.N_mono (Kd.N_far (p := ⟨gb255, 4, none⟩) (Kd.N_far (p := ⟨gb255, 3, none⟩) (Kd.N_far (p := ⟨gb255, 2, none⟩) (Kd.N_far (p := ⟨gb255, 1, none⟩) (Kd.N_far (p := ⟨gb255, 0, none⟩) (Kd.N_mono HO_62.out (fun k_ hk => (⟨hk, hk.2⟩ : _ ∧ k_ ≠ gb255))) (fun _ hk => hk.2) (.int .i64 ((rd_T49 t248 x64_3).f0))) (fun _ hk => hk.2) (.string ((rd_T49 t248 x64_3).f1))) (fun _ hk => hk.2) (.string ((rd_T49 t248 x64_3).f2))) (fun _ hk => hk.2) (.slice A254_3 ((rd_T49 t248 x64_3).f3).length c254_3)) (fun _ hk => hk.2) (.slice A254_4 ((rd_T49 t248 x64_3).f4).length c254_4)) (fun _ hk => trivial)⟩, ⟨by repeat (first | (with_reducible first | exact HB.out | apply below_alloc | apply pw_below_drewN | apply below_drew1 | refine below_set ?_ GE255.out) | exact HB.out)⟩⟩
                              · rw [if_neg c39] at H
                                have c39b0 : (((rd_T49 t248 x64_3).f1).toList == ([] : List UInt8)) = false := beq_eq_false_iff_ne.mpr c39
                                have c39b1 : (((rd_T49 t248 x64_3).f1).toList != ([] : List UInt8)) = true := bne_iff_ne.mpr c39
                                have H' := Aside0.mk H
                                clear H
                                have p254 : 0 ≤ (x64_3 : Int) := of_decide_eq_true (by first | (with_reducible assumption) | assumption)
                                have q254 : x64_3 < (t248.length : Int) := of_decide_eq_true (by first | (with_reducible assumption) | assumption)
                                obtain ⟨ad254, A254_3, c254_3, A254_4, c254_4, e254, hx254_0, hx254_1, hx254_2, hx254_3, hx254_4, hl254_3, hi254_3, hl254_4, hi254_4⟩ := at_T49 (Kd.N_reads' HO_62.out).2.2 x64_3 p254 q254
                                cases e254
                                obtain ⟨ce254, hce254, hMe254, hcc254⟩ := Kd.N_get HO_62.out z49 x64_3 p254 (by first | exact q254 | exact of_decide_eq_true (by first | (with_reducible assumption) | assumption) | (have e_ := (Kd.N_reads' HO_62.out).1; omega))
                                obtain ⟨ua254_3, uc254_3, ua254_4, uc254_4, rfl, ul254_3, ge254_3, ul254_4, ge254_4⟩ := k49_openF hMe254
                                have hv254_3 := hcc254 3 _ rfl
                                rw [add_field _ _ 3 (by omega)] at hv254_3
                                replace hv254_3 := Option.some.inj (hv254_3.symm.trans hx254_3)
                                injection hv254_3 with hva_ hvn_ hvc_
                                rw [hva_] at ge254_3
                                rw [hvc_] at ul254_3
                                have HL254_3 := Aside0.mk (show Kd.V k70 70 _ w.heap.size _ _ ((rd_T49 t248 x64_3).f3) from Kd.V_mk ul254_3 ge254_3)
                                clear hva_ hvn_ hvc_ ge254_3 ul254_3
                                have hv254_4 := hcc254 4 _ rfl
                                rw [add_field _ _ 4 (by omega)] at hv254_4
                                replace hv254_4 := Option.some.inj (hv254_4.symm.trans hx254_4)
                                injection hv254_4 with hva_ hvn_ hvc_
                                rw [hva_] at ge254_4
                                rw [hvc_] at ul254_4
                                have HL254_4 := Aside0.mk (show Kd.V (Kd.int .i64) 3 _ w.heap.size _ _ ((rd_T49 t248 x64_3).f4) from Kd.V_mk ul254_4 ge254_4)
                                clear hva_ hvn_ hvc_ ge254_4 ul254_4
                                clear hcc254 hce254
                                have HR254_3 := Aside0.mk hi254_3
                                have HC254_3 := Aside0.mk hl254_3
                                clear hi254_3 hl254_3
                                have HR254_4 := Aside0.mk hi254_4
                                have HC254_4 := Aside0.mk hl254_4
                                clear hi254_4 hl254_4
                                replace p254 := eq_true p254
                                replace q254 := eq_true q254
                                go_wp2_with (first | ((with_reducible refine gate_dst (N := 13) rfl ?_); (try (refine gate_guard (by rfl) ?_; dsimp only)); refine box_event ?hg (N := 13) ?hd (cs := #[.int .i64 0, .string (⟨#[]⟩ : ByteArray), .string (⟨#[]⟩ : ByteArray), .slice none 0 0, .slice none 0 0]) (t := 49) ?hr ?_; (case hd => rfl); (case hg => rfl); (case hr => first | (go_simp; done) | (go_simp; rfl)); intro gb255 hg w42 hbox hb; have n0_ := Aside0.mk (Kd.N_below (Kd.N_elderB (by (with_reducible repeat (first | apply Kd.N_alloc | apply Kd.N_drewN | apply Kd.N_drew)); exact HO_62.out) gb255 (Nat.le_of_eq hg.symm)) hb); have n1_ := Aside0.mk (Kd.V_below (Kd.V_elderB (by (with_reducible repeat (first | apply Kd.V_alloc | apply Kd.V_drewN | apply Kd.V_drew)); exact HL254_3.out) gb255 (Nat.le_of_eq hg.symm)) hb); have n2_ := Aside0.mk (Kd.V_below (Kd.V_elderB (by (with_reducible repeat (first | apply Kd.V_alloc | apply Kd.V_drewN | apply Kd.V_drew)); exact HL254_4.out) gb255 (Nat.le_of_eq hg.symm)) hb); have n3_ := Aside0.mk (Kd.C_below (by repeat (first | (with_reducible exact HR254_3.out) | (with_reducible refine Kd.C_alloc ?_ _) | (with_reducible refine Kd.C_drewN ?_ _) | (with_reducible refine Kd.C_drew ?_) | exact HR254_3.out)) hb); have n4_ := Aside0.mk (Kd.C_below (by repeat (first | (with_reducible exact HR254_4.out) | (with_reducible refine Kd.C_alloc ?_ _) | (with_reducible refine Kd.C_drewN ?_ _) | (with_reducible refine Kd.C_drew ?_) | exact HR254_4.out)) hb); have n5_ := Aside0.mk (below_step (by repeat (first | (with_reducible first | exact HB.out | apply below_alloc | apply pw_below_drewN | apply below_drew1) | exact HB.out)) hb); have n6_ := Aside0.mk (hbox); have n7_ := Aside0.mk ((by rw [hg]; exact (below_size (by repeat (first | (with_reducible first | exact HB.out | apply below_alloc | apply pw_below_drewN | apply below_drew1) | exact HB.out))) : w.heap.size ≤ gb255)); have n8_ := Aside0.mk ((by rw [hg]; exact (below_size (by repeat (first | (with_reducible first | exact HB.out | apply below_alloc | apply pw_below_drewN | apply below_drew1) | exact HB.out))) : w.heap.size ≤ gb255)); clear HO_62; clear HL254_3; clear HL254_4; clear HR254_3; clear HR254_4; clear HB; have HO_62 := n0_; have HL254_3 := n1_; have HL254_4 := n2_; have HR254_3 := n3_; have HR254_4 := n4_; have HB := n5_; have BK255 := n6_; have GW255 := n7_; have GE255 := n8_; clear n0_ n1_ n2_ n3_ n4_ n5_ n6_ n7_ n8_; clear hb hbox hg; have hcz43_0 : w42.cell? ⟨gb255, 0, none⟩ = some (.int .i64 0) := (blk_cell BK255.out 0).trans rfl; have hcz43_1 : w42.cell? ⟨gb255, 1, none⟩ = some (.string (⟨#[]⟩ : ByteArray)) := (blk_cell BK255.out 1).trans rfl; have hcz43_2 : w42.cell? ⟨gb255, 2, none⟩ = some (.string (⟨#[]⟩ : ByteArray)) := (blk_cell BK255.out 2).trans rfl; have hcz43_3 : w42.cell? ⟨gb255, 3, none⟩ = some (.slice none 0 0) := (blk_cell BK255.out 3).trans rfl; have hcz43_4 : w42.cell? ⟨gb255, 4, none⟩ = some (.slice none 0 0) := (blk_cell BK255.out 4).trans rfl; have hfz43_0 := blk_frozen BK255.out 0; have hfz43_1 := blk_frozen BK255.out 1; have hfz43_2 := blk_frozen BK255.out 2; have hfz43_3 := blk_frozen BK255.out 3; have hfz43_4 := blk_frozen BK255.out 4))
                                go_roundg k3
                                case measure => have := HJ4.out; have := HK2.out; have := HK3.out; omega
                                case rel => exact ⟨(x8_3 ++ ((rd_T49 t248 x64_3).f2)), (wrap64 (x9_3 - 1)), (wrap64 (x64_3 + 1)), (by first | rfl | (simp; done) | (simp [*]; done)), (by first | rfl | (simp; done) | (simp [*]; done)), (by first | rfl | (simp; done) | (simp [*]; done)), H', ⟨by have := HJ4.out; have := HK2.out; have := HK3.out; omega⟩, ⟨by (with_reducible repeat (first | apply Kd.N_alloc | apply Kd.N_drewN | apply Kd.N_drew)); exact Kd.N_mono (Kd.N_far (p := ⟨gb255, 4, none⟩) (Kd.N_far (p := ⟨gb255, 3, none⟩) (Kd.N_far (p := ⟨gb255, 2, none⟩) (Kd.N_far (p := ⟨gb255, 1, none⟩) (Kd.N_far (p := ⟨gb255, 0, none⟩) (Kd.N_mono HO_62.out (fun k_ hk => (⟨hk, hk.2⟩ : _ ∧ k_ ≠ gb255))) (fun _ hk => hk.2) (.int .i64 ((rd_T49 t248 x64_3).f0))) (fun _ hk => hk.2) (.string ((rd_T49 t248 x64_3).f1))) (fun _ hk => hk.2) (.string ((rd_T49 t248 x64_3).f2))) (fun _ hk => hk.2) (.slice A254_3 ((rd_T49 t248 x64_3).f3).length c254_3)) (fun _ hk => hk.2) (.slice A254_4 ((rd_T49 t248 x64_3).f4).length c254_4)) (fun _ hk => trivial)⟩, ⟨by repeat (first | (with_reducible first | exact HB.out | apply below_alloc | apply pw_below_drewN | apply below_drew1 | refine below_set ?_ GE255.out) | exact HB.out)⟩⟩
                            · rw [if_neg c38] at H
                              exact absurd H (by simp)
                          · rw [if_neg c37] at H
                            exact absurd H (by simp)
                        · rw [if_neg c36] at H
                          exact absurd H (by simp)
                      · rw [if_neg c35] at H
                        have c35b0 : decide (x64_3 < (t248.length : Int)) = false := decide_eq_false c35
                        clear c35
                        by_cases c44 : x7_2.toList = x8_3.toList
                        · rw [if_pos c44] at H
                          have c44b0 : (x7_2.toList == x8_3.toList) = true := beq_iff_eq.mpr c44
                          have c44b1 : (x7_2.toList != x8_3.toList) = false := bne_eq_false_iff_eq.mpr c44
                          clear c44
                          obtain rfl := Option.some.inj H
                          go_wp2
                          go_ret
                          exact ⟨by first | rfl | (simp [errW_none, errW_some] <;> rfl) | (simp [*, errW_none, errW_some] <;> rfl), by repeat (first | (with_reducible first | exact HB.out | apply below_alloc | apply pw_below_drewN | apply below_drew1) | exact HB.out)⟩
                        · rw [if_neg c44] at H
                          have c44b0 : (x7_2.toList == x8_3.toList) = false := beq_eq_false_iff_ne.mpr c44
                          have c44b1 : (x7_2.toList != x8_3.toList) = true := bne_iff_ne.mpr c44
                          obtain rfl := Option.some.inj H
                          go_wp2
                          go_ret
                          exact ⟨by first | rfl | (simp [errW_none, errW_some] <;> rfl) | (simp [*, errW_none, errW_some] <;> rfl), by repeat (first | (with_reducible first | exact HB.out | apply below_alloc | apply pw_below_drewN | apply below_drew1) | exact HB.out)⟩
          · rw [if_neg c11] at H
            have c11b0 : (t249 == 0) = false := beq_eq_false_iff_ne.mpr c11
            have c11b1 : (t249 != 0) = true := bne_iff_ne.mpr c11
            obtain rfl := Option.some.inj H
            go_wp2_with (first | ((with_reducible refine gate_callee (f := 25) rfl ?_); refine goesL_ (some 30) rfl rfl Tryz.func25 (by kernel_rfl) rfl #[.slice A0 l0.length c0] rfl (by (try simp only [List.map_toArray, List.map_cons, List.map_nil]); first | done | rfl | (simp only [List.length_drop, List.length_take]; rfl)) ?_; (with_reducible refine (tree_Build.calls _ _ l0 t248 t249 _ ?side1 ?side2 A10.out).mono ?_); (case side1 => repeat (first | exact (Kd.C_below HR0.out HB.out) | (with_reducible refine Kd.C_alloc ?_ _) | (with_reducible refine Kd.C_drewN ?_ _) | (with_reducible refine Kd.C_drew ?_))); (case side2 => exact HC0.out); rintro e w45 ⟨v250, rfl, ho0, hb⟩; refine ⟨_, rfl, ?_⟩; have n0_ := Aside0.mk (Kd.N_lower (Kd.N_mono (ok' := fun k_ => True) (Kd.S_N (Kd.S_bound ho0)) (fun k_ hk_ => trivial)) (below_size (by repeat (first | (with_reducible first | exact HB.out | apply below_alloc | apply pw_below_drewN | apply below_drew1) | exact HB.out)))); have n1_ := Aside0.mk (below_step (by repeat (first | (with_reducible first | exact HB.out | apply below_alloc | apply pw_below_drewN | apply below_drew1) | exact HB.out)) hb); clear HB; have HO251 := n0_; have HB := n1_; clear n0_ n1_; (try clear hb); (try clear hb2); (try clear hk); (try clear hi); (try clear ho0); obtain ⟨Ao46, co46, eo46⟩ := Kd.N_slice HO251.out; subst eo46))
            go_ret
            exact ⟨by first | rfl | (simp [errW_none, errW_some] <;> rfl) | (simp [*, errW_none, errW_some] <;> rfl), by repeat (first | (with_reducible first | exact HB.out | apply below_alloc | apply pw_below_drewN | apply below_drew1) | exact HB.out)⟩
  · replace c3 := Bool.eq_false_iff.mpr c3
    subst c3
    have H1 : (some false) = some r := by rw [if_neg (show ¬ (false = true) by decide)] at H; exact H
    clear H
    have H := H1
    clear H1
    obtain rfl := Option.some.inj H
    go_enter Tryz.func5, Tryz.ntmps5
    go_wp2_with (first | ((with_reducible refine gate_callee (f := 23) rfl ?_); refine goesL_ (some 14) rfl rfl Tryz.func23 (by kernel_rfl) rfl #[] rfl (by (try simp only [List.map_toArray, List.map_cons, List.map_nil]); first | done | rfl | (simp only [List.length_drop, List.length_take]; rfl)) ?_; (with_reducible refine (scrimlaw05_awake.calls  false _ A2.out).mono ?_); rintro e w47 ⟨rfl, hb⟩; refine ⟨_, rfl, ?_⟩; have n0_ := Aside0.mk (below_step (by repeat (first | (with_reducible first | exact HB.out | apply below_alloc | apply pw_below_drewN | apply below_drew1) | exact HB.out)) hb); clear HB; have HB := n0_; clear n0_; (try clear hb); (try clear hb2); (try clear hk); (try clear hi)))
    go_ret
    exact ⟨by first | rfl | (simp [errW_none, errW_some] <;> rfl) | (simp [*, errW_none, errW_some] <;> rfl), by repeat (first | (with_reducible first | exact HB.out | apply below_alloc | apply pw_below_drewN | apply below_drew1) | exact HB.out)⟩
end Go.Proofs.YtkjgnkmnngaioaaGreat.Q
namespace Go.Proofs.YtkjgnkmnngaioaaGreat.Q
open Go.RowKit Go.IntWalk Go.Proofs.YtkjgnkmnngaioaaGreat.Mem Go.Proofs.YtkjgnkmnngaioaaGreatW.PrintWords Go.Proofs.YtkjgnkmnngaioaaGreatW.PrintLast Go.Proofs.YtkjgnkmnngaioaaGreatW.PrintMore
set_option linter.unusedVariables false
set_option linter.unusedSimpArgs false
theorem rdt_at {l : List Tk} {i : Nat} (h : i < l.length) : rd_T46 l (i : Int) = l[i] := by
  unfold rd_T46
  rw [Int.toNat_natCast, List.getD_eq_getElem?_getD, List.getElem?_eq_getElem h]
  rfl
theorem rdn_at {l : List Nd} {i : Nat} (h : i < l.length) : rd_T49 l (i : Int) = l[i] := by
  unfold rd_T49
  rw [Int.toNat_natCast, List.getD_eq_getElem?_getD, List.getElem?_eq_getElem h]
  rfl
theorem wr1 {i n : Nat} (h : i < n) (hn : n ≤ 4611686018427387904) : wrap64 ((i : Int) + 1) = ((i + 1 : Nat) : Int) := by rw [wrap64_in _ (by omega)]; rfl
theorem own_wrap (s a : Nat) (n : Int) (hs : s ≤ 140737488351232) (ha : a ≤ 140737488351232) (h0 : 0 ≤ n) (h1 : n ≤ 20000) : wrap64 (n + wrap64 (wrap64 (1 + (s : Int)) + wrap64 (30 * (a : Int)))) = n + (1 + (s : Int) + 30 * (a : Int)) := by
  have b1 : (s : Int) ≤ 140737488351232 := by omega
  have b2 : (a : Int) ≤ 140737488351232 := by omega
  have b3 : (0 : Int) ≤ (s : Int) := by omega
  have b4 : (0 : Int) ≤ (a : Int) := by omega
  generalize (s : Int) = x at *
  generalize (a : Int) = y at *
  have c1 : -9223372036854775808 ≤ 1 + x ∧ 1 + x ≤ 9223372036854775807 := by omega
  have c2 : -9223372036854775808 ≤ 30 * y ∧ 30 * y ≤ 9223372036854775807 := by omega
  have c3 : -9223372036854775808 ≤ 1 + x + 30 * y ∧ 1 + x + 30 * y ≤ 9223372036854775807 := by omega
  have c4 : -9223372036854775808 ≤ n + (1 + x + 30 * y) ∧ n + (1 + x + 30 * y) ≤ 9223372036854775807 := by omega
  rw [wrap64_in _ c1, wrap64_in _ c2, wrap64_in _ c3, wrap64_in _ c4]
/-- What own counts. -/
theorem own_law (l : List Tk) (hl : l.length < 2199023255552) (hg : ∀ (i : Nat), i < l.length → (rd_T46 l (i : Int)).f2.size ≤ 140737488351232 ∧ (rd_T46 l (i : Int)).f3.length ≤ 140737488351232) :
    ∀ (d i : Nat) (x4 : List S71) (n : Int) (k : Nat), i + d = l.length → x4.length = i → 0 ≤ n → n ≤ 5000000000000000 → d < k →
    ∃ out m, scrimlaw05_own.l0 k l x4 n (i : Int) = some (out, m) ∧ n ≤ m ∧ (m ≤ 20000 → ∀ (j : Nat), i ≤ j → j < l.length → ((rd_T46 l (j : Int)).f2.size : Int) ≤ m ∧ ((rd_T46 l (j : Int)).f3.length : Int) ≤ m) := by
  intro d
  induction d with
  | zero =>
    intro i x4 n k hi h4 h0 h1 hk
    obtain ⟨k, rfl⟩ : ∃ k', k = k' + 1 := ⟨k - 1, by omega⟩
    rw [scrimlaw05_own.l0, if_neg (by omega)]
    exact ⟨_, _, rfl, Int.le_refl _, fun _ j _ _ => by omega⟩
  | succ d ih =>
    intro i x4 n k hi h4 h0 h1 hk
    obtain ⟨k, rfl⟩ : ∃ k', k = k' + 1 := ⟨k - 1, by omega⟩
    rw [scrimlaw05_own.l0, if_pos (by omega)]
    by_cases hn : n ≤ 20000
    · have hx4 : x4.length < 2199023255552 := by omega
      rw [if_pos hn, if_pos (show (0 : Int) ≤ (i : Int) by omega), if_pos hx4]
      obtain ⟨g2, g3⟩ := hg i (by omega)
      clear hg
      generalize hs : (rd_T46 l (i : Int)).f2.size = s at g2 ⊢
      generalize ha : (rd_T46 l (i : Int)).f3.length = a at g3 ⊢
      rw [own_wrap s a n g2 g3 h0 hn, wr1 (n := l.length) (by omega) (by omega)]
      obtain ⟨out, m, r1, r2, r3⟩ := ih (i + 1) (x4 ++ [⟨(rd_T46 l (i : Int)).f0, (rd_T46 l (i : Int)).f1, (rd_T46 l (i : Int)).f2, (rd_T46 l (i : Int)).f3⟩]) (n + (1 + (s : Int) + 30 * (a : Int))) k (by omega) (by rw [List.length_append, h4]; rfl) (by omega) (by omega) (by omega)
      refine ⟨out, m, r1, by omega, fun hm j h5 h6 => ?_⟩
      by_cases hj : j = i
      · subst hj
        rw [hs, ha]
        omega
      · exact r3 hm j (by omega) h6
    · rw [if_neg hn]
      exact ⟨_, _, rfl, Int.le_refl _, fun h => by omega⟩
theorem tkT_cons (t : Tk) (ts : List Tk) : tkT (t :: ts) = (if t.f0 = 3 then t.f2.data.toList else []) ++ tkT ts := by simp [tkT]
theorem tkE_cons (t : Tk) (ts : List Tk) : tkE (t :: ts) = tkE ts + (if t.f0 = 1 ∧ t.f1.toList ≠ rootL then 1 else 0) := by
  unfold tkE
  rw [List.countP_cons]
  simp
theorem tell_law (ts : List Tk) (nd : List Nd) (hl : ts.length ≤ 300) (hg : ∀ t ∈ ts, t.f2.size ≤ 1000000) (has : ByteArray) :
    ∀ (d i : Nat) (told : ByteArray) (el : Int) (k : Nat), i + d = ts.length → told.size ≤ 1000000 * i → 0 ≤ el → el ≤ i + 1 → d < k →
    ∃ told' : ByteArray, told'.data.toList = told.data.toList ++ tkT (ts.drop i) ∧ scrimlaw05_TreeTexts.l0 k nd told has el ts (ts.length : Int) (i : Int) = scrimlaw05_TreeTexts.l1 (k - d - 1) told' has (el + (tkE (ts.drop i) : Int)) nd (nd.length : Int) 0 := by
  intro d
  induction d with
  | zero =>
    intro i told el k hi hs h0 h1 hk
    obtain ⟨k, rfl⟩ : ∃ k', k = k' + 1 := ⟨k - 1, by omega⟩
    refine ⟨told, ?_, ?_⟩
    · rw [List.drop_of_length_le (by omega)]; simp [tkT]
    · rw [scrimlaw05_TreeTexts.l0, if_neg (by omega), List.drop_of_length_le (by omega)]
      simp [tkE]
  | succ d ih =>
    intro i told el k hi hs h0 h1 hk
    obtain ⟨k, rfl⟩ : ∃ k', k = k' + 1 := ⟨k - 1, by omega⟩
    have hil : i < ts.length := by omega
    have hgi := hg ts[i] (List.getElem_mem hil)
    rw [scrimlaw05_TreeTexts.l0, if_pos (by omega), if_pos (by omega), if_pos (by omega), rdt_at hil, wr1 hil (by omega), List.drop_eq_getElem_cons hil, tkT_cons, tkE_cons]
    generalize ts[i] = t at hgi ⊢
    have ek : k + 1 - (d + 1) - 1 = k - d - 1 := by omega
    rw [ek]
    have er : ([114, 111, 111, 116] : List UInt8) = rootL := rfl
    rw [er]
    by_cases h3 : t.f0 = 3
    · have h13 : ¬ t.f0 = 1 := by omega
      rw [if_pos h3, if_pos h3, if_pos (show told.size + t.f2.size ≤ 9223372036854775807 by omega), if_neg h13, if_neg (fun h => h13 h.1)]
      obtain ⟨told', r1, r2⟩ := ih (i + 1) (told ++ t.f2) el k (by omega) (by rw [ByteArray.size_append]; omega) h0 (by omega) (by omega)
      refine ⟨told', by rw [r1]; simp, by rw [r2]; simp⟩
    · rw [if_neg h3, if_neg h3]
      by_cases hc : t.f0 = 1
      · rw [if_pos hc]
        by_cases hr : t.f1.toList = rootL
        · rw [if_pos hr, if_neg (fun h => h.2 hr)]
          obtain ⟨told', r1, r2⟩ := ih (i + 1) told el k (by omega) (by omega) h0 (by omega) (by omega)
          exact ⟨told', by rw [r1]; simp, by rw [r2]; simp⟩
        · rw [if_neg hr, if_pos ⟨hc, hr⟩, wrap64_in _ (by omega)]
          obtain ⟨told', r1, r2⟩ := ih (i + 1) told (el + 1) k (by omega) (by omega) (by omega) (by omega) (by omega)
          refine ⟨told', by rw [r1]; simp, ?_⟩
          rw [r2]
          congr 1
          omega
      · rw [if_neg hc, if_neg (fun h => hc h.1)]
        obtain ⟨told', r1, r2⟩ := ih (i + 1) told el k (by omega) (by omega) h0 (by omega) (by omega)
        exact ⟨told', by rw [r1]; simp, by rw [r2]; simp⟩
theorem allT_cons (x : Nd) (l : List Nd) : allT (x :: l) = x.f2.data.toList ++ allT l := by simp [allT]
theorem allE_cons (x : Nd) (l : List Nd) : allE (x :: l) = allE l + (if x.f1.data.toList = [] then 0 else 1) := by
  unfold allE
  rw [List.map_cons, List.countP_cons]
  by_cases h : x.f1.data.toList = []
  · simp [h]
  · rw [if_neg h]
    simp
    exact fun h2 => h (by simp [h2])
theorem has_law (nd : List Nd) (hl : nd.length ≤ 60) (hg : ∀ x ∈ nd, x.f2.size ≤ 300000000) (told : ByteArray) :
    ∀ (d i : Nat) (has : ByteArray) (el : Int) (k : Nat), i + d = nd.length → has.size ≤ 300000000 * i → -1000 ≤ el + i → el ≤ 1000 → d < k →
    ∃ has' : ByteArray, has'.data.toList = has.data.toList ++ allT (nd.drop i) ∧ scrimlaw05_TreeTexts.l1 k told has el nd (nd.length : Int) (i : Int) = if told.toList = has'.toList then some ((el - (allE (nd.drop i) : Int)) == 0) else some false := by
  intro d
  induction d with
  | zero =>
    intro i has el k hi hs h0 h1 hk
    obtain ⟨k, rfl⟩ : ∃ k', k = k' + 1 := ⟨k - 1, by omega⟩
    refine ⟨has, ?_, ?_⟩
    · rw [List.drop_of_length_le (by omega)]; simp [allT]
    · rw [scrimlaw05_TreeTexts.l1, if_neg (by omega), List.drop_of_length_le (by omega)]
      simp [allE]
  | succ d ih =>
    intro i has el k hi hs h0 h1 hk
    obtain ⟨k, rfl⟩ : ∃ k', k = k' + 1 := ⟨k - 1, by omega⟩
    have hil : i < nd.length := by omega
    have hgi := hg nd[i] (List.getElem_mem hil)
    rw [scrimlaw05_TreeTexts.l1, if_pos (by omega), if_pos (by omega), if_pos (by omega), rdn_at hil, wr1 hil (by omega), List.drop_eq_getElem_cons hil, allT_cons, allE_cons]
    generalize nd[i] = x at hgi ⊢
    rw [if_pos (show has.size + x.f2.size ≤ 9223372036854775807 by omega)]
    by_cases hc : x.f1.toList = []
    · rw [if_pos hc]
      rw [ByteArray.toList_eq] at hc
      rw [if_pos hc]
      obtain ⟨has', r1, r2⟩ := ih (i + 1) (has ++ x.f2) el k (by omega) (by rw [ByteArray.size_append]; omega) (by omega) h1 (by omega)
      exact ⟨has', by rw [r1]; simp, by rw [r2]; simp⟩
    · rw [if_neg hc]
      rw [ByteArray.toList_eq] at hc
      rw [if_neg hc, wrap64_in _ (by omega)]
      obtain ⟨has', r1, r2⟩ := ih (i + 1) (has ++ x.f2) (el - 1) k (by omega) (by rw [ByteArray.size_append]; omega) (by omega) (by omega) (by omega)
      refine ⟨has', by rw [r1]; simp, ?_⟩
      rw [r2]
      congr 3
      omega
/-- What is good about tokens. -/
def goodTs (l : List Tk) : Prop := (∀ x ∈ l, goodW46 x) ∧ l.length * Tryz.prog.bytesOf 46 ≤ reachBytes ∧ l.length ≤ maxLen
theorem bytes_tok : Tryz.prog.bytesOf 46 = 64 := by kernel_rfl
theorem bytes_att : Tryz.prog.bytesOf 70 = 32 := by kernel_rfl
theorem goodTs.len {l : List Tk} (h : goodTs l) : l.length < 2199023255552 := by
  have := h.2.1
  rw [bytes_tok] at this
  have hr : reachBytes = 140737488351232 := by kernel_rfl
  omega
theorem goodTs.each {l : List Tk} (h : goodTs l) (i : Nat) (hi : i < l.length) : (rd_T46 l (i : Int)).f2.size ≤ 140737488351232 ∧ (rd_T46 l (i : Int)).f3.length ≤ 140737488351232 := by
  rw [rdt_at hi]
  obtain ⟨_, _, g2, _, g4, _⟩ := h.1 _ (List.getElem_mem hi)
  have hr : reachBytes = 140737488351232 := by kernel_rfl
  rw [bytes_att] at g4
  omega
theorem goodTs.ok {l : List Tk} (h : goodTs l) (hl : l.length ≤ 1000000) (hs : ∀ (j : Nat), j < l.length → ((rd_T46 l (j : Int)).f2.size : Int) ≤ 20000 ∧ ((rd_T46 l (j : Int)).f3.length : Int) ≤ 20000) : okTs l := by
  have hr : reachBytes = 140737488351232 := by kernel_rfl
  refine ⟨hl, fun t ht => ?_⟩
  obtain ⟨_, g1, g2, g3, _, _⟩ := h.1 t ht
  obtain ⟨j, hj, rfl⟩ := List.mem_iff_getElem.1 ht
  have := hs j hj
  rw [rdt_at hj] at this
  exact ⟨by omega, by omega, by omega, fun x hx => by have := (g3 x hx).1; omega⟩
theorem tt_true (l : List Tk) (h : goodTs l) : ∃ k, scrimlaw05_TreeTexts.f k l = some true := by
  refine ⟨(l.length + 200) + 1, ?_⟩
  obtain ⟨out, m, r1, r2, r3⟩ := own_law l h.len h.each l.length 0 [] 0 ((l.length + 200) + 1) (by omega) rfl (by omega) (by omega) (by omega)
  unfold scrimlaw05_TreeTexts.f scrimlaw05_own.f
  rw [show scrimlaw05_awake.f = some true from rfl, Option.bind_some, if_pos rfl, show (0 : Int) = ((0 : Nat) : Int) from rfl] 
  rw [show scrimlaw05_own.l0 ((l.length + 200) + 1) l [] ((0 : Nat) : Int) ((0 : Nat) : Int) = some (out, m) from r1, Option.bind_some]
  show (if m > 20000 then _ else _) = some true
  by_cases hm : m > 20000
  · rw [if_pos hm, scrimlaw05_TreeTexts.j0, if_pos rfl]
  · rw [if_neg hm]
    by_cases h3 : (l.length : Int) > 300
    · rw [decide_eq_true h3, scrimlaw05_TreeTexts.j0, if_pos rfl]
    · rw [decide_eq_false h3, scrimlaw05_TreeTexts.j0, if_neg (by decide)]
      have hsz : ∀ (j : Nat), j < l.length → ((rd_T46 l (j : Int)).f2.size : Int) ≤ 20000 ∧ ((rd_T46 l (j : Int)).f3.length : Int) ≤ 20000 := fun j hj => by
        have := r3 (by omega) j (Nat.zero_le _) hj
        omega
      have hok := h.ok (by omega) hsz
      rw [show tree_Build.f l = some (buildF l) from if_pos hok, Option.bind_some]
      have hts : ∀ t ∈ l, t.f2.size ≤ 1000000 := fun t ht => (hok.2 t ht).2.1
      by_cases he : (buildF l).2 = 0
      · rw [if_pos he]
        obtain ⟨b1, b2, b3, b4⟩ := build_tells l hts he
        obtain ⟨told, t1, t2⟩ := tell_law l (buildF l).1 (by omega) hts ⟨#[]⟩ l.length 0 ⟨#[]⟩ 1 (l.length + 200) (by omega) (by decide) (by omega) (by omega) (by omega)
        rw [List.drop_zero] at t1 t2
        have hx : ∀ x ∈ (buildF l).1, x.f2.size ≤ 300000000 := fun x hx => by
          obtain ⟨j, hj, rfl⟩ := List.mem_iff_getElem.1 hx
          have := b4 j
          unfold ndAt at this
          rw [List.getD_eq_getElem?_getD, List.getElem?_eq_getElem hj] at this
          simp only [Option.getD_some] at this
          omega
        have hcnt : tkE l ≤ l.length := List.countP_le_length
        obtain ⟨has, u1, u2⟩ := has_law (buildF l).1 b3 hx told (buildF l).1.length 0 ⟨#[]⟩ (1 + (tkE l : Int)) (l.length + 200 - l.length - 1) (by omega) (by decide) (by omega) (by omega) (by omega)
        rw [List.drop_zero] at u1 u2
        refine Eq.trans t2 (Eq.trans u2 ?_)
        rw [if_pos (by rw [ByteArray.toList_eq, ByteArray.toList_eq, t1, u1, b1]), b2]
        congr 1
        simp
      · rw [if_neg he, show (buildF l).1 = [] from bdF_err l _ _ he]
        rfl
theorem treeTexts_walk (A0 : Option Addr) (c0 : Nat) (l0 : List Tk) (w : World) (hr0 : Kd.C k46 w A0 l0.length l0) (hc0 : l0.length ≤ c0) (g0 : goodTs l0) :
    Calls Tryz.prog 5 #[.slice A0 l0.length c0] w fun e w' => e = .returned (.bool true) ∧ Below w.heap.size w w' := by
  obtain ⟨k, hk⟩ := tt_true l0 g0
  exact scrimlaw05_TreeTexts.calls k A0 c0 l0 true w hr0 hc0 hk
theorem opTs : Go.Proofs.YtkjgnkmnngaioaaGreat.Open.OpensW Tryz.prog 23 (Kd.slice 46 k46) goodTs := Go.Proofs.YtkjgnkmnngaioaaGreat.Open.opensW_slice Tryz.underlying23 (by kernel_rfl) opW46
end Go.Proofs.YtkjgnkmnngaioaaGreat.Q
namespace Go.Proofs.YtkjgnkmnngaioaaGreat.treeTexts
open Go.ChangeShapes Go.WideShapes Go.ChangeAt Go.RowKit Go.Proofs.YtkjgnkmnngaioaaGreat.Open Go.Proofs.YtkjgnkmnngaioaaGreat.Q Go.Proofs.YtkjgnkmnngaioaaGreatW.PrintWords
open Go.ChangeMaps (open_string shut_string)
set_option linter.unusedVariables false
theorem own : ownKnob Tryz.prog.godebug = none := by kernel_rfl
theorem laidOut : laidOutB Tryz.prog = true := by kernel_rfl
set_option maxRecDepth 100000 in
theorem lifted (os : Os) (started : os.Started) (H : Type) (enc : TypeId × Value → H) :
    ReturnsInHanded {} Tryz.checked os 5 .any (Rows.treeTextsSpec.pre6 enc Tryz.prog Tryz.f5 Rows.treeTextsRow.domain false) (Rows.treeTextsSpec.post enc Tryz.prog Tryz.f5 false true false false) := by
  refine returnsInHanded_of_change_sized (C := Tryz.checked) own started (by kernel_rfl) Tryz.func5
    (ChangeSpec.witness6 (enc := enc) (C := Tryz.checked) false ⟨#[], #[.slice none 0 0], []⟩ 8 (by kernel_rfl) (by kernel_rfl) (by kernel_rfl) (by kernel_rfl)) ?_
  intro W base args ds gs before hval0 hW hcnd hsz0 _
  have hsz : (DataW.weightsEach Tryz.prog (Tryz.f5.params.toList ++ Rows.treeTextsSpec.plain.varTypes Tryz.prog) (ds ++ gs)).all (· ≤ reachBytes) = true := hsz0
  have hval : ∀ (j : Nat) t v, Tryz.f5.params[j]? = some t → args[j]? = some v → Value.okWide Tryz.prog W .any base t v := hval0
  have hW' := hW
  obtain ⟨p, q, hA0, hV, rfl, hfz, hnd⟩ := hW
  have hA : DataW.TrodAll enc Tryz.prog W 0 (fun _ => true) true Tryz.f5.params.toList args.toList ds p := hA0
  rw [Tryz.params5] at hA hval hsz
  obtain ⟨v0, vs0, d0, ds0, p0, q0, hargs, rfl, rfl, h0, r0⟩ := trodAll_cons hA
  obtain ⟨rfl, rfl, rfl⟩ := trodAll_nil r0
  obtain rfl : args = #[v0] := by cases args; simp_all
  obtain ⟨rfl, rfl⟩ := trodVars_none hV
  have lt0 : ∀ x ∈ p0, x.block < W.heap.size := by obtain ⟨m, hm⟩ := h0; exact DataW.trod_lt m _ _ _ hm
  obtain ⟨A0, len0, c0, rfl⟩ := okWide_slice Tryz.underlying23 (hval 0 23 v0 rfl rfl)
  obtain ⟨l0, ⟨A0', c0', cs0, hc0, hr0⟩, g0⟩ := Q.opTs.of h0 (fun n hn => by simpa using List.all_eq_true.1 hsz n (DataW.weights_mem_each (j := 0) rfl rfl n hn))
  clear hsz
  simp only [Value.cells, List.cons.injEq, Value.slice.injEq, and_true] at cs0
  obtain ⟨rfl, rfl, rfl⟩ := cs0
  clear hA0 hval0 hsz0
  refine (Q.treeTexts_walk A0 c0 l0 W hr0 hc0 g0).mono fun e W' ⟨he, bel⟩ => ?_
  subst he
  exact ⟨_, rfl, _, _, _, [], _, [], hW', trodAll_mk1 (shut_bool Tryz.underlying4 _), (trodAll_cons_mk (Below.trod laidOut (by kernel_rfl) (of_decide_eq_true (by kernel_rfl)) h0 bel lt0) trodAll_mk0), rfl, bel.frame _, fun h => by cases h⟩
theorem over : Rows.treeTextsRow.holds Tryz.pinned (OpenSpec.ofChange Rows.treeTextsSpec) :=
  OpenClaim.holds_of_wide 5 Tryz.f5 rfl rfl rfl rfl rfl rfl rfl ⟨rfl, rfl, rfl, rfl, rfl⟩ rfl rfl rfl rfl rfl (by kernel_rfl) Tryz.func5 (by kernel_rfl)
    (of_decide_eq_true (by kernel_rfl)) (by unfold Func.isWrapper; first | (rw [if_pos (by decide +kernel)]; kernel_rfl) | (rw [if_neg (by decide +kernel)]; exact ⟨rfl, rfl⟩))
    (fun os started H enc _ => lifted os started H enc)
theorem proved : Rows.TreeTextsSaid := over
end Go.Proofs.YtkjgnkmnngaioaaGreat.treeTexts
namespace Go.Proofs.YtkjgnkmnngaioaaGreat
/-- The row, under a short name, for the claim. -/
theorem treeTexts_holds : Rows.TreeTextsSaid := treeTexts.proved
end Go.Proofs.YtkjgnkmnngaioaaGreat
