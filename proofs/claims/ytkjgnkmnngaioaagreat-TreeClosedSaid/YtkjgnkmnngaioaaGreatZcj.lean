/- THE LAW scrim/scrimlaw05.TreeClosed: called with any arguments that can be read, it returns true, and each argument reads behind the call as before. No condition. -/
import Derived.Test.YtkjgnkmnngaioaaGreatZch
import Derived.Test.YtkjgnkmnngaioaaGreatZcc
import Derived.Test.YtkjgnkmnngaioaaGreatZci
import Derived.Test.YtkjgnkmnngaioaaGreatZcg
import Derived.Test.YtkjgnkmnngaioaaGreatZcb
import Derived.Test.YtkjgnkmnngaioaaGreatRows
import Derived.ChangeSlices
import Derived.SizedLaws
import Derived.Below
import Derived.ChangeOld
import Derived.ShutString
import Derived.OpenShut
import Derived.ProofKit
import Derived.WalkKit
namespace Go.Proofs.YtkjgnkmnngaioaaGreat.Q
open Go.RowKit Go.Proofs.YtkjgnkmnngaioaaGreat.Mem Go.Proofs.YtkjgnkmnngaioaaGreatW.PrintWords Go.Proofs.YtkjgnkmnngaioaaGreatW.PrintLast Go.Proofs.YtkjgnkmnngaioaaGreatW.PrintMore
set_option linter.unusedVariables false
set_option linter.unusedSimpArgs false
def awN : List S49 := [⟨-1, ⟨#[114, 111, 111, 116]⟩, ⟨#[]⟩, [], [1, 2]⟩, ⟨0, ⟨#[]⟩, ⟨#[97]⟩, [], []⟩, ⟨0, ⟨#[98]⟩, ⟨#[]⟩, [], [3]⟩, ⟨2, ⟨#[]⟩, ⟨#[99]⟩, [], []⟩]
def awTs : List S46 := [⟨9, ⟨#[]⟩, ⟨#[]⟩, []⟩]
def awBs : ByteArray := ⟨#[97, 60, 98, 62, 99, 60, 47, 98, 62]⟩
def awRd : List S46 := [⟨3, ⟨#[]⟩, ⟨#[97]⟩, []⟩, ⟨1, ⟨#[98]⟩, ⟨#[]⟩, []⟩, ⟨3, ⟨#[]⟩, ⟨#[99]⟩, []⟩, ⟨2, ⟨#[98]⟩, ⟨#[]⟩, []⟩]
theorem aw_tok : token_Read.f awBs = some (awRd, 0) := by kernel_rfl
theorem aw_ok1 : okTs awRd := by unfold okTs awRd; simp; try decide
theorem aw_ok2 : okTs awTs := by unfold okTs awTs; simp; try decide
theorem aw_b1 : buildF awRd = (awN, 0) := by kernel_rfl
theorem aw_b2 : buildF awTs = ([], 2) := by kernel_rfl
theorem aw_may : tree_May.f 40 awN = some true := by kernel_rfl
theorem aw_may0 : tree_May.f 40 [] = some false := by kernel_rfl
theorem aw_d1 : depthF awN 3 = 2 := by kernel_rfl
theorem aw_d2 : depthF awN 9 = -1 := by kernel_rfl
theorem aw_up : okUp awN := by unfold okUp awN; decide
theorem aw_ns : okNs awN := by unfold okNs awN; simp; try decide
theorem aw_same : scrimref05_Same.f awN awN = some true := scrimref05_Same.self aw_ns
theorem aw_read : tree_Read.f awBs = some (awN, 0) := by
  unfold tree_Read.f tree_Build.f
  rw [aw_tok]
  simp only [Option.bind_some, if_true, if_pos aw_ok1, aw_b1]
theorem aw_build : tree_Build.f awTs = some ([], 2) := by
  unfold tree_Build.f
  rw [if_pos aw_ok2, aw_b2]
theorem blk_reads {α : Type} (d : Kd α) {W : World} {b : Nat} {cells : Array Value} {e : Nat} (h : Blk W b cells e) (xs : List α) (hm : xs.length ≤ 9223372036854775807) (hr : ∀ (j : Nat) (x : α), xs[j]? = some x → d.K W x ((cells.toList.drop (j * d.sz)).take d.sz)) : d.C W (some ⟨b, 0, none⟩) xs.length xs := by
  refine ⟨rfl, hm, fun _ => ⟨_, rfl, fun j x hx => ⟨_, d.K_len (hr j x hx), hr j x hx, fun i u hu => ?_⟩⟩⟩
  rw [List.getElem?_take] at hu
  split at hu
  · rw [List.getElem?_drop] at hu
    have ea : (⟨b, 0, none⟩ : Addr).add (j * d.sz + i) = ⟨b, j * d.sz + i, none⟩ := by unfold Addr.add; split <;> simp_all
    rw [ea, h.cell]
    rw [Array.getElem?_toList] at hu
    exact hu
  · cases hu
def cellsW (a b : Nat) : Array Value := #[.int .i64 (-1), .string ⟨#[114, 111, 111, 116]⟩, .string ⟨#[]⟩, .slice none 0 0, .slice (some ⟨a, 0, none⟩) 2 2, .int .i64 0, .string ⟨#[]⟩, .string ⟨#[97]⟩, .slice none 0 0, .slice none 0 0, .int .i64 0, .string ⟨#[98]⟩, .string ⟨#[]⟩, .slice none 0 0, .slice (some ⟨b, 0, none⟩) 1 1, .int .i64 2, .string ⟨#[]⟩, .string ⟨#[99]⟩, .slice none 0 0, .slice none 0 0]
theorem nilC {α : Type} (d : Kd α) (W : World) : d.C W none ([] : List α).length [] := ⟨rfl, by simp, fun h => absurd h (by simp)⟩
theorem want_reads {W : World} {a b g : Nat} (h1 : Blk W a #[.int .i64 1, .int .i64 2] 3) (h2 : Blk W b #[.int .i64 3] 3) (h3 : Blk W g (cellsW a b) 49) : Kd.C k49 W (some ⟨g, 0, none⟩) awN.length awN := by
  refine blk_reads k49 h3 awN (by decide) (fun j x hx => ?_)
  have c1 : (Kd.int .i64).C W (some ⟨a, 0, none⟩) [(1 : Int), 2].length [1, 2] := blk_reads (Kd.int .i64) h1 [1, 2] (by decide) (fun j x hx => by
    rcases j with _ | _ | j
    · cases hx; rfl
    · cases hx; rfl
    · cases hx)
  have c2 : (Kd.int .i64).C W (some ⟨b, 0, none⟩) [(3 : Int)].length [3] := blk_reads (Kd.int .i64) h2 [3] (by decide) (fun j x hx => by
    rcases j with _ | j
    · cases hx; rfl
    · cases hx)
  unfold awN at hx
  rcases j with _ | _ | _ | _ | j
  · cases hx
    exact k49_mk (A3 := none) (c3 := 0) (A4 := some ⟨a, 0, none⟩) (c4 := 2) W ⟨-1, ⟨#[114, 111, 111, 116]⟩, ⟨#[]⟩, [], [1, 2]⟩ (by decide) (nilC _ _) (by decide) c1
  · cases hx
    exact k49_mk (A3 := none) (c3 := 0) (A4 := none) (c4 := 0) W ⟨0, ⟨#[]⟩, ⟨#[97]⟩, [], []⟩ (by decide) (nilC _ _) (by decide) (nilC _ _)
  · cases hx
    exact k49_mk (A3 := none) (c3 := 0) (A4 := some ⟨b, 0, none⟩) (c4 := 1) W ⟨0, ⟨#[98]⟩, ⟨#[]⟩, [], [3]⟩ (by decide) (nilC _ _) (by decide) c2
  · cases hx
    exact k49_mk (A3 := none) (c3 := 0) (A4 := none) (c4 := 0) W ⟨2, ⟨#[]⟩, ⟨#[99]⟩, [], []⟩ (by decide) (nilC _ _) (by decide) (nilC _ _)
  · cases hx
theorem toks_reads {W : World} {g : Nat} (h3 : Blk W g #[.int .i64 9, .string ⟨#[]⟩, .string ⟨#[]⟩, .slice none 0 0] 46) : Kd.C k46 W (some ⟨g, 0, none⟩) awTs.length awTs := by
  refine blk_reads k46 h3 awTs (by decide) (fun j x hx => ?_)
  unfold awTs at hx
  rcases j with _ | j
  · cases hx
    exact k46_mk (A3 := none) (c3 := 0) W ⟨9, ⟨#[]⟩, ⟨#[]⟩, []⟩ (by decide) (nilC _ _)
  · cases hx
set_option maxRecDepth 100000 in
set_option maxHeartbeats 8000000 in
theorem awakeN_calls (w : World) : Calls Tryz.prog 23 #[] w fun e w' => e = .returned (.bool true) ∧ Below w.heap.size w w' := by
  go_enter Tryz.func23, Tryz.ntmps23
  go_wp2_with (go_at_call 26; refine (tree_Read.calls _ awN 0 _ aw_read).mono ?_; rintro e w1 ⟨v, rfl, hs, hb⟩; have HS1 := Lib.hid hs; have HB1 := Lib.hid hb; obtain ⟨A1, c1, rfl⟩ := Kd.S_slice hs; clear hs hb)
  have h1 := (((Blk.alloc w1 #[.int .i64 1, .int .i64 2] 3).alloc_old (.cells #[.int .i64 3] 3)).alloc_old (.cells (cellsW w1.heap.size (w1.heap.size + 1)) 49)).alloc_old (.cells #[.int .i64 9, .string ⟨#[]⟩, .string ⟨#[]⟩, .slice none 0 0] 46)
  have h2 := ((Blk.alloc_at (w1.alloc (.cells #[.int .i64 1, .int .i64 2] 3)) (b := w1.heap.size + 1) #[.int .i64 3] 3 (by simp)).alloc_old (.cells (cellsW w1.heap.size (w1.heap.size + 1)) 49)).alloc_old (.cells #[.int .i64 9, .string ⟨#[]⟩, .string ⟨#[]⟩, .slice none 0 0] 46)
  have h3 := (Blk.alloc_at ((w1.alloc (.cells #[.int .i64 1, .int .i64 2] 3)).alloc (.cells #[.int .i64 3] 3)) (b := w1.heap.size + 2) (cellsW w1.heap.size (w1.heap.size + 1)) 49 (by simp)).alloc_old (.cells #[.int .i64 9, .string ⟨#[]⟩, .string ⟨#[]⟩, .slice none 0 0] 46)
  have h4 := Blk.alloc_at (((w1.alloc (.cells #[.int .i64 1, .int .i64 2] 3)).alloc (.cells #[.int .i64 3] 3)).alloc (.cells (cellsW w1.heap.size (w1.heap.size + 1)) 49)) (b := w1.heap.size + 3) #[.int .i64 9, .string ⟨#[]⟩, .string ⟨#[]⟩, .slice none 0 0] 46 (by simp)
  have hb2 : Below w1.heap.size w1 ((((w1.alloc (.cells #[.int .i64 1, .int .i64 2] 3)).alloc (.cells #[.int .i64 3] 3)).alloc (.cells (cellsW w1.heap.size (w1.heap.size + 1)) 49)).alloc (.cells #[.int .i64 9, .string ⟨#[]⟩, .string ⟨#[]⟩, .slice none 0 0] 46)) := below_alloc (below_alloc (below_alloc (below_alloc (Below.refl _ _) _) _) _) _
  have HW2 := Lib.hid (want_reads h1 h2 h3)
  have HT := Lib.hid (toks_reads h4)
  have HL := Lib.hid (Kd.S_reads (Kd.S_below HS1.out hb2))
  have HB2 := Lib.hid (HB1.out.trans (hb2.mono HB1.out.size))
  clear h1 h2 h3 h4 hb2
  unfold cellsW at HW2 HT HL HB2
  generalize ((((w1.alloc (.cells #[.int .i64 1, .int .i64 2] 3)).alloc (.cells #[.int .i64 3] 3)).alloc (.cells #[.int .i64 (-1), .string ⟨#[114, 111, 111, 116]⟩, .string ⟨#[]⟩, .slice none 0 0, .slice (some ⟨w1.heap.size, 0, none⟩) 2 2, .int .i64 0, .string ⟨#[]⟩, .string ⟨#[97]⟩, .slice none 0 0, .slice none 0 0, .int .i64 0, .string ⟨#[98]⟩, .string ⟨#[]⟩, .slice none 0 0, .slice (some ⟨w1.heap.size + 1, 0, none⟩) 1 1, .int .i64 2, .string ⟨#[]⟩, .string ⟨#[99]⟩, .slice none 0 0, .slice none 0 0] 49)).alloc (.cells #[.int .i64 9, .string ⟨#[]⟩, .string ⟨#[]⟩, .slice none 0 0] 46)) = W2 at HW2 HT HL HB2 ⊢
  have hl : Kd.C k49 W2 A1 awN.length awN ∧ awN.length ≤ c1 := by
    obtain ⟨A, c, he, hc, hr⟩ := HL.out
    injection he with e1 _ e3
    subst e1 e3
    exact ⟨hr, hc⟩
  have HC2 := Lib.hid hl.1
  have HLC := Lib.hid hl.2
  clear hl HL HS1
  refine Calls.mono (tree_Build.calls (some ⟨w1.heap.size + 1 + 1 + 1, 0, none⟩) 1 awTs [] 2 _ HT.out (by decide) aw_build) ?_
  rintro e w3 ⟨v, rfl, hs, hb⟩
  obtain ⟨A2, c2, rfl⟩ := Kd.S_slice hs
  clear hs
  have HB3 := Lib.hid (HB2.out.trans (hb.mono HB2.out.size))
  have HC3 := Lib.hid (Kd.C_below HC2.out hb)
  have HW3 := Lib.hid (Kd.C_below HW2.out hb)
  clear hb
  go_wp2_with fail
  refine Calls.mono (scrimref05_Same.calls A1 c1 awN (some ⟨w1.heap.size + 1 + 1, 0, none⟩) 4 awN true _ HC3.out HLC.out HW3.out (by decide) aw_same) ?_
  rintro e w4 ⟨rfl, hb⟩
  have HB4 := Lib.hid (HB3.out.trans (hb.mono HB3.out.size))
  have HC4 := Lib.hid (Kd.C_below HC3.out hb)
  have HW4 := Lib.hid (Kd.C_below HW3.out hb)
  clear hb
  go_wp2_with fail
  refine Calls.mono (tree_May.calls 40 A1 c1 awN true _ HC4.out HLC.out aw_may) ?_
  rintro e w5 ⟨rfl, hb⟩
  have HB5 := Lib.hid (HB4.out.trans (hb.mono HB4.out.size))
  have HC5 := Lib.hid (Kd.C_below HC4.out hb)
  have HW5 := Lib.hid (Kd.C_below HW4.out hb)
  clear hb
  go_wp2_with fail
  refine Calls.mono (tree_May.calls 40 none 0 [] false _ (nilC _ _) (by decide) aw_may0) ?_
  rintro e w6 ⟨rfl, hb⟩
  have HB6 := Lib.hid (HB5.out.trans (hb.mono HB5.out.size))
  have HC6 := Lib.hid (Kd.C_below HC5.out hb)
  have HW6 := Lib.hid (Kd.C_below HW5.out hb)
  clear hb
  go_wp2_with fail
  refine Calls.mono (depth_calls A1 c1 awN 3 _ HC6.out aw_up (by decide)) ?_
  rintro e w7 ⟨rfl, hb⟩
  have HB7 := Lib.hid (HB6.out.trans (hb.mono HB6.out.size))
  have HC7 := Lib.hid (Kd.C_below HC6.out hb)
  have HW7 := Lib.hid (Kd.C_below HW6.out hb)
  clear hb
  rw [aw_d1]
  go_wp2_with fail
  refine Calls.mono (depth_calls A1 c1 awN 9 _ HC7.out aw_up (by decide)) ?_
  rintro e w8 ⟨rfl, hb⟩
  have HB8 := Lib.hid (HB7.out.trans (hb.mono HB7.out.size))
  have HC8 := Lib.hid (Kd.C_below HC7.out hb)
  have HW8 := Lib.hid (Kd.C_below HW7.out hb)
  clear hb
  rw [aw_d2]
  go_wp2_with fail
  refine Calls.mono (copy_calls A1 c1 awN _ HC8.out HLC.out (by decide) (by decide)) ?_
  rintro e w9 ⟨v, rfl, hn, hb⟩
  obtain ⟨A3, c3, rfl, hc3, hr3⟩ := Kd.N_reads hn
  have HR3 := Lib.hid hr3
  have HC3' := Lib.hid hc3
  clear hn hr3 hc3
  have HB9 := Lib.hid (HB8.out.trans (hb.mono HB8.out.size))
  have HC9 := Lib.hid (Kd.C_below HC8.out hb)
  have HW9 := Lib.hid (Kd.C_below HW8.out hb)
  clear hb
  go_wp2_with fail
  refine Calls.mono (scrimref05_Same.calls A3 c3 awN (some ⟨w1.heap.size + 1 + 1, 0, none⟩) 4 awN true _ HR3.out HC3'.out HW9.out (by decide) aw_same) ?_
  rintro e w10 ⟨rfl, hb⟩
  have HB10 := Lib.hid (HB9.out.trans (hb.mono HB9.out.size))
  have HC10 := Lib.hid (Kd.C_below HC9.out hb)
  have HW10 := Lib.hid (Kd.C_below HW9.out hb)
  clear hb
  go_wp2_with fail
  go_ret
  exact ⟨rfl, HB10.out⟩
def scrimlaw05_awake.f : Option Bool := some true
theorem scrimlaw05_awake.calls (r : Bool) (w : World) (h : scrimlaw05_awake.f = some r) : Calls Tryz.prog 23 #[] w fun e w' => e = .returned (.bool r) ∧ Below w.heap.size w w' := by
  unfold scrimlaw05_awake.f at h
  injection h with h
  subst h
  exact awakeN_calls w
end Go.Proofs.YtkjgnkmnngaioaaGreat.Q
namespace Go.Proofs.YtkjgnkmnngaioaaGreat.Q
open Go.RowKit Go.Proofs.YtkjgnkmnngaioaaGreatW.PrintWords Go.Proofs.YtkjgnkmnngaioaaGreatW.PrintLast Go.Proofs.YtkjgnkmnngaioaaGreatW.PrintMore
attribute [local go_sem] max2_int min2_int max_two min_two max_three min_three max_four min_four   -- for this text's walks alone
set_option linter.unusedVariables false
set_option linter.unusedSimpArgs false
mutual
def scrimlaw05_TreeTexts.j0 : Nat → List (S46) → Bool → Option (Bool)
  | 0, _, _ => none
  | k + 1, x0, x27 => if x27 = true then (some true) else ((tree_Build.f x0).bind fun bt173 => (if bt173.2 = 0 then (scrimlaw05_TreeTexts.l0 k bt173.1 (⟨#[]⟩ : ByteArray) (⟨#[]⟩ : ByteArray) 1 x0 (x0.length : Int) 0) else (some ((bt173.1.length : Int) == 0))))
def scrimlaw05_TreeTexts.l0 : Nat → List (S49) → ByteArray → ByteArray → Int → List (S46) → Int → Int → Option (Bool)
  | 0, _, _, _, _, _, _, _ => none
  | k + 1, x5, x7, x8, x9, x38, x39, x40 => if x40 < x39 then (if 0 ≤ x40 then (if x40 < (x38.length : Int) then (if ((rd_T46 x38 x40).f0) = 3 then (if x7.size + ((rd_T46 x38 x40).f2).size ≤ 9223372036854775807 then (if ((rd_T46 x38 x40).f0) = 1 then (if ((rd_T46 x38 x40).f1).toList = ([114, 111, 111, 116] : List UInt8) then (scrimlaw05_TreeTexts.l0 k x5 (x7 ++ ((rd_T46 x38 x40).f2)) x8 x9 x38 x39 (wrap64 (x40 + 1))) else (scrimlaw05_TreeTexts.l0 k x5 (x7 ++ ((rd_T46 x38 x40).f2)) x8 (wrap64 (x9 + 1)) x38 x39 (wrap64 (x40 + 1)))) else (scrimlaw05_TreeTexts.l0 k x5 (x7 ++ ((rd_T46 x38 x40).f2)) x8 x9 x38 x39 (wrap64 (x40 + 1)))) else (none)) else (if ((rd_T46 x38 x40).f0) = 1 then (if ((rd_T46 x38 x40).f1).toList = ([114, 111, 111, 116] : List UInt8) then (scrimlaw05_TreeTexts.l0 k x5 x7 x8 x9 x38 x39 (wrap64 (x40 + 1))) else (scrimlaw05_TreeTexts.l0 k x5 x7 x8 (wrap64 (x9 + 1)) x38 x39 (wrap64 (x40 + 1)))) else (scrimlaw05_TreeTexts.l0 k x5 x7 x8 x9 x38 x39 (wrap64 (x40 + 1))))) else (none)) else (none)) else (scrimlaw05_TreeTexts.l1 k x7 x8 x9 x5 (x5.length : Int) 0)
def scrimlaw05_TreeTexts.l1 : Nat → ByteArray → ByteArray → Int → List (S49) → Int → Int → Option (Bool)
  | 0, _, _, _, _, _, _ => none
  | k + 1, x7, x8, x9, x62, x63, x64 => if x64 < x63 then (if 0 ≤ x64 then (if x64 < (x62.length : Int) then (if x8.size + ((rd_T49 x62 x64).f2).size ≤ 9223372036854775807 then (if ((rd_T49 x62 x64).f1).toList = ([] : List UInt8) then (scrimlaw05_TreeTexts.l1 k x7 (x8 ++ ((rd_T49 x62 x64).f2)) x9 x62 x63 (wrap64 (x64 + 1))) else (scrimlaw05_TreeTexts.l1 k x7 (x8 ++ ((rd_T49 x62 x64).f2)) (wrap64 (x9 - 1)) x62 x63 (wrap64 (x64 + 1)))) else (none)) else (none)) else (none)) else (if x7.toList = x8.toList then (some (x9 == 0)) else (some false))
end
def scrimlaw05_TreeTexts.f (k : Nat) (l0 : List (S46)) : Option (Bool) := (scrimlaw05_awake.f).bind fun t168 => (if t168 = true then ((scrimlaw05_own.f k l0).bind fun bt169 => (if bt169.2 > 20000 then (scrimlaw05_TreeTexts.j0 k l0 true) else (scrimlaw05_TreeTexts.j0 k l0 (decide ((l0.length : Int) > 300))))) else (some false))
end Go.Proofs.YtkjgnkmnngaioaaGreat.Q
namespace Go.Proofs.YtkjgnkmnngaioaaGreat.Q
open Go.RowKit Go.IntWalk Go.Proofs.YtkjgnkmnngaioaaGreat.Mem Go.Proofs.YtkjgnkmnngaioaaGreatW.PrintWords Go.Proofs.YtkjgnkmnngaioaaGreatW.PrintLast Go.Proofs.YtkjgnkmnngaioaaGreatW.PrintMore
set_option linter.unusedVariables false
set_option linter.unusedSimpArgs false
theorem rdt_at {l : List Tk} {i : Nat} (h : i < l.length) : rd_T46 l (i : Int) = l[i] := by
  unfold rd_T46
  rw [Int.toNat_natCast, List.getD_eq_getElem?_getD, List.getElem?_eq_getElem h]
  rfl
theorem wr1 {i n : Nat} (h : i < n) (hn : n ≤ 4611686018427387904) : wrap64 ((i : Int) + 1) = ((i + 1 : Nat) : Int) := by rw [wrap64_in _ (by omega)]; rfl
theorem own_wrap (s a : Nat) (n : Int) (hs : s ≤ 140737488351232) (ha : a ≤ 140737488351232) (h0 : 0 ≤ n) (h1 : n ≤ 20000) : wrap64 (n + wrap64 (wrap64 (1 + (s : Int)) + wrap64 (30 * (a : Int)))) = n + (1 + (s : Int) + 30 * (a : Int)) := by
  have b1 : (s : Int) ≤ 140737488351232 := by omega
  have b2 : (a : Int) ≤ 140737488351232 := by omega
  have b3 : (0 : Int) ≤ (s : Int) := by omega
  have b4 : (0 : Int) ≤ (a : Int) := by omega
  generalize (s : Int) = x at *
  generalize (a : Int) = y at *
  have c1 : -9223372036854775808 ≤ 1 + x ∧ 1 + x ≤ 9223372036854775807 := by omega
  have c2 : -9223372036854775808 ≤ 30 * y ∧ 30 * y ≤ 9223372036854775807 := by omega
  have c3 : -9223372036854775808 ≤ 1 + x + 30 * y ∧ 1 + x + 30 * y ≤ 9223372036854775807 := by omega
  have c4 : -9223372036854775808 ≤ n + (1 + x + 30 * y) ∧ n + (1 + x + 30 * y) ≤ 9223372036854775807 := by omega
  rw [wrap64_in _ c1, wrap64_in _ c2, wrap64_in _ c3, wrap64_in _ c4]
/-- What own counts. -/
theorem own_law (l : List Tk) (hl : l.length < 2199023255552) (hg : ∀ (i : Nat), i < l.length → (rd_T46 l (i : Int)).f2.size ≤ 140737488351232 ∧ (rd_T46 l (i : Int)).f3.length ≤ 140737488351232) :
    ∀ (d i : Nat) (x4 : List S71) (n : Int) (k : Nat), i + d = l.length → x4.length = i → 0 ≤ n → n ≤ 5000000000000000 → d < k →
    ∃ out m, scrimlaw05_own.l0 k l x4 n (i : Int) = some (out, m) ∧ n ≤ m ∧ (m ≤ 20000 → ∀ (j : Nat), i ≤ j → j < l.length → ((rd_T46 l (j : Int)).f2.size : Int) ≤ m ∧ ((rd_T46 l (j : Int)).f3.length : Int) ≤ m) := by
  intro d
  induction d with
  | zero =>
    intro i x4 n k hi h4 h0 h1 hk
    obtain ⟨k, rfl⟩ : ∃ k', k = k' + 1 := ⟨k - 1, by omega⟩
    rw [scrimlaw05_own.l0, if_neg (by omega)]
    exact ⟨_, _, rfl, Int.le_refl _, fun _ j _ _ => by omega⟩
  | succ d ih =>
    intro i x4 n k hi h4 h0 h1 hk
    obtain ⟨k, rfl⟩ : ∃ k', k = k' + 1 := ⟨k - 1, by omega⟩
    rw [scrimlaw05_own.l0, if_pos (by omega)]
    by_cases hn : n ≤ 20000
    · have hx4 : x4.length < 2199023255552 := by omega
      rw [if_pos hn, if_pos (show (0 : Int) ≤ (i : Int) by omega), if_pos hx4]
      obtain ⟨g2, g3⟩ := hg i (by omega)
      clear hg
      generalize hs : (rd_T46 l (i : Int)).f2.size = s at g2 ⊢
      generalize ha : (rd_T46 l (i : Int)).f3.length = a at g3 ⊢
      rw [own_wrap s a n g2 g3 h0 hn, wr1 (n := l.length) (by omega) (by omega)]
      obtain ⟨out, m, r1, r2, r3⟩ := ih (i + 1) (x4 ++ [⟨(rd_T46 l (i : Int)).f0, (rd_T46 l (i : Int)).f1, (rd_T46 l (i : Int)).f2, (rd_T46 l (i : Int)).f3⟩]) (n + (1 + (s : Int) + 30 * (a : Int))) k (by omega) (by rw [List.length_append, h4]; rfl) (by omega) (by omega) (by omega)
      refine ⟨out, m, r1, by omega, fun hm j h5 h6 => ?_⟩
      by_cases hj : j = i
      · subst hj
        rw [hs, ha]
        omega
      · exact r3 hm j (by omega) h6
    · rw [if_neg hn]
      exact ⟨_, _, rfl, Int.le_refl _, fun h => by omega⟩
/-- What is good about tokens. -/
def goodTs (l : List Tk) : Prop := (∀ x ∈ l, goodW46 x) ∧ l.length * Tryz.prog.bytesOf 46 ≤ reachBytes ∧ l.length ≤ maxLen
theorem bytes_tok : Tryz.prog.bytesOf 46 = 64 := by kernel_rfl
theorem bytes_att : Tryz.prog.bytesOf 70 = 32 := by kernel_rfl
theorem goodTs.len {l : List Tk} (h : goodTs l) : l.length < 2199023255552 := by
  have := h.2.1
  rw [bytes_tok] at this
  have hr : reachBytes = 140737488351232 := by kernel_rfl
  omega
theorem goodTs.each {l : List Tk} (h : goodTs l) (i : Nat) (hi : i < l.length) : (rd_T46 l (i : Int)).f2.size ≤ 140737488351232 ∧ (rd_T46 l (i : Int)).f3.length ≤ 140737488351232 := by
  rw [rdt_at hi]
  obtain ⟨_, _, g2, _, g4, _⟩ := h.1 _ (List.getElem_mem hi)
  have hr : reachBytes = 140737488351232 := by kernel_rfl
  rw [bytes_att] at g4
  omega
theorem goodTs.ok {l : List Tk} (h : goodTs l) (hl : l.length ≤ 1000000) (hs : ∀ (j : Nat), j < l.length → ((rd_T46 l (j : Int)).f2.size : Int) ≤ 20000 ∧ ((rd_T46 l (j : Int)).f3.length : Int) ≤ 20000) : okTs l := by
  have hr : reachBytes = 140737488351232 := by kernel_rfl
  refine ⟨hl, fun t ht => ?_⟩
  obtain ⟨_, g1, g2, g3, _, _⟩ := h.1 t ht
  obtain ⟨j, hj, rfl⟩ := List.mem_iff_getElem.1 ht
  have := hs j hj
  rw [rdt_at hj] at this
  exact ⟨by omega, by omega, by omega, fun x hx => by have := (g3 x hx).1; omega⟩
theorem opTs : Go.Proofs.YtkjgnkmnngaioaaGreat.Open.OpensW Tryz.prog 23 (Kd.slice 46 k46) goodTs := Go.Proofs.YtkjgnkmnngaioaaGreat.Open.opensW_slice Tryz.underlying23 (by kernel_rfl) opW46
end Go.Proofs.YtkjgnkmnngaioaaGreat.Q
namespace Go.Proofs.YtkjgnkmnngaioaaGreat.Q
open Go.RowKit Go.IntWalk Go.Proofs.YtkjgnkmnngaioaaGreat.Mem Go.Proofs.YtkjgnkmnngaioaaGreatW.PrintWords Go.Proofs.YtkjgnkmnngaioaaGreatW.PrintLast Go.Proofs.YtkjgnkmnngaioaaGreatW.PrintMore
set_option linter.unusedVariables false
set_option linter.unusedSimpArgs false
theorem two_F {W : World} {b : Nat} {s : ByteArray} (h : Blk W b #[.int .i64 2, .string s, .string ⟨#[]⟩, .slice none 0 0, .int .i64 3, .string ⟨#[]⟩, .string ⟨#[]⟩, .slice none 0 0] 46) : Kd.F k46 W (fun k => k = b) (some ⟨b, 0, none⟩) 2 [clT s, emT] := fun W' hW => by
  have h' : Blk W' b #[.int .i64 2, .string s, .string ⟨#[]⟩, .slice none 0 0, .int .i64 3, .string ⟨#[]⟩, .string ⟨#[]⟩, .slice none 0 0] 46 := (hW b rfl h.lt).trans h
  refine blk_reads k46 h' [clT s, emT] (by simp) (fun j x hx => ?_)
  rcases j with _ | _ | j
  · cases hx
    exact k46_mk (A3 := none) (c3 := 0) W' (clT s) (Nat.le_refl _) (nilC _ _)
  · cases hx
    exact k46_mk (A3 := none) (c3 := 0) W' emT (by decide) (nilC _ _)
  · cases hx
set_option maxRecDepth 100000 in
set_option maxHeartbeats 8000000 in
theorem treeClosed_walk (A0 : Option Addr) (c0 : Nat) (l0 : List Tk) (a1 : Int) (a2 : ByteArray) (w : World) (hr0 : Kd.C k46 w A0 l0.length l0) (hc0 : l0.length ≤ c0) (g0 : goodTs l0) (g1 : -9223372036854775808 ≤ a1 ∧ a1 ≤ 9223372036854775807) (g2 : a2.size ≤ 140737488351232) :
    Calls Tryz.prog 6 #[.slice A0 l0.length c0, .int .i64 a1, .string a2] w fun e w' => e = .returned (.bool true) ∧ Below w.heap.size w w' := by
  have HR := Lib.hid hr0
  have HC := Lib.hid hc0
  have HG := Lib.hid g0
  have HG2 := Lib.hid g2
  clear hr0 hc0 g0 g2
  go_enter Tryz.func6, Tryz.ntmps6
  go_wp2_with (go_at_call 23; refine (scrimlaw05_awake.calls true _ rfl).mono ?_; rintro e w1 ⟨rfl, hb⟩; have HB1 := Lib.hid hb; have HR1 := Lib.hid (Kd.C_below HR.out hb); clear hb)
  obtain ⟨out, m, r1, r2, r3⟩ := own_law l0 HG.out.len HG.out.each l0.length 0 [] 0 (l0.length + 1) (by omega) rfl (by omega) (by omega) (by omega)
  have HO3 := Lib.hid r3
  clear r3
  refine (scrimlaw05_own.calls (l0.length + 1) (fun k_ => k_ < w1.heap.size) A0 c0 l0 out m _ (Kd.V_mk HC.out (Kd.C_F k46_heap HR1.out)) r1).mono ?_
  rintro e w2 ⟨v0, rfl, hn, hb⟩
  obtain ⟨A7, c7, rfl, -, -⟩ := Kd.N_reads hn
  have HB2 := Lib.hid (HB1.out.trans (hb.mono HB1.out.size))
  have HR2 := Lib.hid (Kd.C_below HR1.out hb)
  clear hn hb r1 HB1 HR1
  by_cases h1 : m > 20000
  · go_wp2_with (go_at_call 17; refine (isName_calls a2 _ (by have := HG2.out; omega)).mono ?_; rintro e w3 ⟨rfl, hb⟩; have HB3 := Lib.hid (HB2.out.trans (hb.mono HB2.out.size)); clear hb)
    go_ret
    exact ⟨rfl, HB2.out⟩
  have h1' : m ≤ 20000 := by omega
  clear h1
  by_cases h2 : (l0.length : Int) > 300
  · go_wp2_with (go_at_call 17; refine (isName_calls a2 _ (by have := HG2.out; omega)).mono ?_; rintro e w3 ⟨rfl, hb⟩; have HB3 := Lib.hid (HB2.out.trans (hb.mono HB2.out.size)); clear hb)
    go_ret
    exact ⟨rfl, HB2.out⟩
  have h2' : (l0.length : Int) ≤ 300 := by omega
  clear h2
  by_cases h3 : a1 < 0
  · go_wp2_with (go_at_call 17; refine (isName_calls a2 _ (by have := HG2.out; omega)).mono ?_; rintro e w3 ⟨rfl, hb⟩; have HB3 := Lib.hid (HB2.out.trans (hb.mono HB2.out.size)); clear hb)
    go_ret
    exact ⟨rfl, HB2.out⟩
  have h3' : 0 ≤ a1 := by omega
  clear h3
  by_cases h4 : a1 > (l0.length : Int)
  · go_wp2_with (go_at_call 17; refine (isName_calls a2 _ (by have := HG2.out; omega)).mono ?_; rintro e w3 ⟨rfl, hb⟩; have HB3 := Lib.hid (HB2.out.trans (hb.mono HB2.out.size)); clear hb)
    go_ret
    exact ⟨rfl, HB2.out⟩
  have h4' : a1 ≤ (l0.length : Int) := by omega
  clear h4
  rcases (show nameB a2.data.toList = false ∨ nameB a2.data.toList = true by cases nameB a2.data.toList <;> simp) with h5 | h5
  · go_wp2_with (go_at_call 17; refine (isName_calls a2 _ (by have := HG2.out; omega)).mono ?_; rintro e w3 ⟨rfl, hb⟩; rw [h5]; have HB3 := Lib.hid (HB2.out.trans (hb.mono HB2.out.size)); clear hb)
    go_ret
    exact ⟨rfl, HB3.out⟩
  go_wp2_with (go_at_call 17; refine (isName_calls a2 _ (by have := HG2.out; omega)).mono ?_; rintro e w3 ⟨rfl, hb⟩; rw [h5]; have HB3 := Lib.hid (HB2.out.trans (hb.mono HB2.out.size)); have HR3 := Lib.hid (Kd.C_below HR2.out hb); clear hb)
  go_loopw [47] (fun i wr => ∃ k : Nat, k ≤ l0.length ∧ i = .int .i64 k ∧ Hid (∀ t ∈ l0.take k, ¬ (t.f0 = 1 ∧ t.f1.toList = a2.toList)) ∧ Hid (Below w.heap.size w wr)) (fun i wr => l0.length - (intOf i).toNat)
  case atStart => exact ⟨0, Nat.zero_le _, rfl, Lib.hid (fun t ht => absurd ht (by simp)), HB3⟩
  case round =>
    obtain ⟨k, hk, rfl, HI, HB⟩ := hrel
    by_cases hlt : k < l0.length
    · obtain ⟨ad, A3, c3, rfl, q0, q1, q2, q3, l3, r3⟩ := at_T46 (Kd.C_below HR.out HB.out) (k : Int) (by omega) (by omega)
      rw [rdt_at hlt] at q0 q1 q2 q3 l3 r3
      simp only [Int.toNat_natCast] at q0 q1 q2 q3
      obtain ⟨t, ht⟩ : ∃ t, t = l0[k] := ⟨_, rfl⟩
      rw [← ht] at q0 q1 q2 q3 l3 r3
      have HT := Lib.hid ht
      clear ht l3 r3
      have hwr : IntKind.i64.wrap ((k : Int) + 1) = (k : Int) + 1 := i64_in _ (by omega)
      have nxt : ¬ (t.f0 = 1 ∧ t.f1.toList = a2.toList) → ∀ x ∈ l0.take (k + 1), ¬ (x.f0 = 1 ∧ x.f1.toList = a2.toList) := fun hn x hx => by
        rw [List.take_succ_eq_append_getElem hlt] at hx
        rcases List.mem_append.1 hx with hx | hx
        · exact HI.out x hx
        · rw [List.mem_singleton.1 hx, ← HT.out]; exact hn
      have HNX := Lib.hid nxt
      clear nxt
      by_cases hf : t.f0 = 1
      · by_cases hs : t.f1.toList = a2.toList
        · have vs : (t.f1.toList == a2.toList) = true := by simpa using hs
          clear hs
          go_wp2_with fail
          go_ret
          exact ⟨rfl, below_alloc HB.out _⟩
        · have vs : (t.f1.toList == a2.toList) = false := by simpa using hs
          have HN2 := Lib.hid (HNX.out (fun h => hs h.2))
          clear hs
          go_wp2_with fail
          exact ⟨⟨k + 1, by omega, by simp, HN2, Lib.hid (below_alloc HB.out _)⟩, by simp only [intOf]; omega⟩
      · have HN2 := Lib.hid (HNX.out (fun h => hf h.1))
        go_wp2_with fail
        exact ⟨⟨k + 1, by omega, by simp, HN2, Lib.hid (below_alloc HB.out _)⟩, by simp only [intOf]; omega⟩
    · have HN2 := Lib.hid (show ∀ t ∈ l0, ¬ (t.f0 = 1 ∧ t.f1.toList = a2.toList) by rw [← List.take_of_length_le (show l0.length ≤ k by omega)]; exact HI.out)
      clear HI
      have hsm : (Tryz.prog.info? 46).map (fun i => i.size) = some 4 := by kernel_rfl
      obtain ⟨ti, hi0, hsz⟩ := Option.map_eq_some_iff.1 hsm
      clear hsm
      obtain ⟨p, hp⟩ : ∃ p : Nat, (p : Int) = a1 := ⟨a1.toNat, by omega⟩
      subst hp
      have hcut1 := cut_to (P := Tryz.prog) 23 46 .i64 Tryz.underlying23 hi0 A0 l0.length c0 (p : Int) h3' h4' HC.out
      have hcut2 := cut_from (P := Tryz.prog) 23 46 .i64 Tryz.underlying23 hi0 4 hsz A0 l0.length c0 (p : Int) h3' h4'
      have hd := Kd.C_drop (m := p) (c := c0) (Kd.C_below HR.out HB.out) (by omega) HC.out
      have htk := Kd.C_take (m := p) (Kd.C_below HR.out HB.out) (by omega)
      simp only [Int.toNat_natCast] at hcut1 hcut2
      obtain ⟨A1, hA1⟩ : ∃ A1, A1 = (if c0 = p then A0 else A0.map (·.add (p * 4))) := ⟨_, rfl⟩
      rw [← hA1] at hcut2
      have ep : (l0.take p).length = p := by rw [List.length_take]; omega
      have eq_ : (l0.drop p).length = l0.length - p := List.length_drop ..
      have hd' : Kd.C k46 wr A1 (l0.length - p) (l0.drop p) := by rw [hA1, ← eq_]; exact hd
      have htk' : Kd.C k46 wr A0 p (l0.take p) := by rw [ep] at htk; exact htk
      have HD := Lib.hid (Kd.C_F k46_heap hd')
      have HTK := Lib.hid (Kd.C_F k46_heap htk')
      clear hd hd' htk htk' hA1
      go_wp2_with (first
        | ((with_reducible refine gate_dst (N := 61) rfl ?_); refine Kd.N_lit k46 wr.heap.size 46 ?hg (N' := 61) ?hd (w0 := wr) (xs := ([] : List Tk)) (inner := []) (ok := fun _ => True) (okp := fun _ => True) ?hr ?hp (fun _ hk => hk) trivial (Below.refl _ _) (Nat.le_refl _) (by simp) ?_; (case hd => rfl); (case hg => rfl); (case hr => first | (go_simp; done) | (go_simp; rfl)); (case hp => exact (Reps.none _ _)); intro x1 y1 ho hb hg hat; have HN1 := Lib.hid ho; have HX1 := Lib.hid hb; clear ho hb hg hat)
        | ((with_reducible refine gate_builtin (b := .append) (xs := #[.tmp 61, .tmp 64]) rfl ?_); at_builtin; refine Kd.N_append_rows k46 (w0 := wr) wr.heap.size rfl (.tmp 61) (.tmp 64) 23 46 (.agg #[.int .i64 0, .string ⟨#[]⟩, .string ⟨#[]⟩, .slice none 0 0]) 64 rfl Tryz.underlying23 (by kernel_rfl) rfl (by decide) (by decide) x1 [] (l0.take p) A0 p c0 (fun _ => True) (fun k => k < wr.heap.size) rfl rfl HN1.out (Kd.F_below HTK.out HX1.out) (fun k hk => ⟨trivial, fun he => by have := Kd.N_base HN1.out k he.symm; omega⟩) (fun _ _ => trivial) HX1.out HX1.out.size (by simp only [List.length_nil]; omega) ?_; intro x2 y2 ho hb hg hat; rw [List.nil_append] at ho; have HN2' := Lib.hid ho; have HX2 := Lib.hid hb; clear ho hb hg hat)
        | ((with_reducible refine gate_builtin (b := .append) (xs := #[.tmp 66, .tmp 70]) rfl ?_); at_builtin; refine Kd.N_append_rows k46 (w0 := wr) wr.heap.size rfl (.tmp 66) (.tmp 70) 23 46 (.agg #[.int .i64 0, .string ⟨#[]⟩, .string ⟨#[]⟩, .slice none 0 0]) 64 rfl Tryz.underlying23 (by kernel_rfl) rfl (by decide) (by decide) x2 (l0.take p) [clT a2, emT] (some ⟨y2.heap.size, 0, none⟩) 2 2 (fun _ => True) (fun k => k = y2.heap.size) rfl rfl (Kd.N_alloc HN2'.out (.cells #[.int .i64 2, .string a2, .string ⟨#[]⟩, .slice none 0 0, .int .i64 3, .string ⟨#[]⟩, .string ⟨#[]⟩, .slice none 0 0] 46)) (two_F (Blk.alloc y2 _ _)) (fun k hk => ⟨trivial, fun he => by have := Kd.N_lt HN2'.out k he.symm; omega⟩) (fun _ _ => trivial) (below_alloc HX2.out (.cells #[.int .i64 2, .string a2, .string ⟨#[]⟩, .slice none 0 0, .int .i64 3, .string ⟨#[]⟩, .string ⟨#[]⟩, .slice none 0 0] 46)) (below_alloc HX2.out (.cells #[.int .i64 2, .string a2, .string ⟨#[]⟩, .slice none 0 0, .int .i64 3, .string ⟨#[]⟩, .string ⟨#[]⟩, .slice none 0 0] 46)).size (by rw [ep]; omega) ?_; intro x3 y3 ho hb hg hat; have HN3 := Lib.hid ho; have HX3 := Lib.hid hb; clear ho hb hg hat)
        | ((with_reducible refine gate_builtin (b := .append) (xs := #[.tmp 72, .tmp 75]) rfl ?_); at_builtin; refine Kd.N_append_rows k46 (w0 := wr) wr.heap.size rfl (.tmp 72) (.tmp 75) 23 46 (.agg #[.int .i64 0, .string ⟨#[]⟩, .string ⟨#[]⟩, .slice none 0 0]) 64 rfl Tryz.underlying23 (by kernel_rfl) rfl (by decide) (by decide) x3 (l0.take p ++ [clT a2, emT]) (l0.drop p) A1 (l0.length - p) (c0 - p) (fun _ => True) (fun k => k < wr.heap.size) rfl rfl HN3.out (Kd.F_below HD.out HX3.out) (fun k hk => ⟨trivial, fun he => by have := Kd.N_base HN3.out k he.symm; omega⟩) (fun _ _ => trivial) HX3.out HX3.out.size (by rw [List.length_append, ep]; simp only [List.length_cons, List.length_nil]; omega) ?_; intro x4 y4 ho hb hg hat; have HN4 := Lib.hid ho; have HX4 := Lib.hid hb; clear ho hb hg hat))
      have hsz := HO3.out h1'
      have hok := HG.out.ok (by omega) (fun j hj => by have := hsz j (Nat.zero_le _) hj; omega)
      have hmo : okTs (l0.take p ++ [clT a2, emT] ++ l0.drop p) := by
        refine ⟨by rw [List.length_append, List.length_append, ep, eq_]; simp only [List.length_cons, List.length_nil]; omega, fun t ht => ?_⟩
        rcases List.mem_append.1 ht with ht | ht
        · rcases List.mem_append.1 ht with ht | ht
          · exact hok.2 t (List.mem_of_mem_take ht)
          · rcases List.mem_cons.1 ht with rfl | ht
            · exact ⟨by have := HG2.out; show a2.size ≤ _; omega, by show (0 : Nat) ≤ 1000000; omega, by show (0 : Nat) ≤ 1000000; omega, fun x hx => by cases hx⟩
            · rw [List.mem_singleton.1 ht]
              exact ⟨by decide, by decide, by decide, fun x hx => by cases hx⟩
        · exact hok.2 t (List.mem_of_mem_drop ht)
      have hins : tree_Build.f (l0.take p ++ [clT a2, emT] ++ l0.drop p) = some ((buildF l0).1, (buildF l0).2) := by
        have e1 : tree_Build.f (l0.take p ++ [clT a2, emT] ++ l0.drop p) = some (buildF (l0.take p ++ [clT a2, emT] ++ l0.drop p)) := if_pos hmo
        rw [e1, List.append_assoc]
        have e2 := build_ins l0 p a2 h5 (fun t ht => (hok.2 t ht).2.1) (fun t ht h1 h2 => HN2.out t ht ⟨h1, h2⟩)
        exact congrArg some e2
      have hns := build_ns l0 (fun t ht => ⟨(hok.2 t ht).2.1, (hok.2 t ht).2.2.1⟩)
      have HNS : Hid (okNs (buildF l0).1) := Lib.hid ⟨by omega, hns.2⟩
      have hb0 : tree_Build.f l0 = some ((buildF l0).1, (buildF l0).2) := if_pos hok
      have HINS := Lib.hid hins
      have HB0 := Lib.hid hb0
      clear hsz hok hmo hins hns hb0
      obtain ⟨bl, hbl⟩ : ∃ bl, bl = (buildF l0).1 := ⟨_, rfl⟩
      obtain ⟨be, hbe⟩ : ∃ be, be = (buildF l0).2 := ⟨_, rfl⟩
      rw [← hbl, ← hbe] at HINS HB0
      rw [← hbl] at HNS
      clear hbl hbe
      obtain ⟨mo, hmo⟩ : ∃ mo, mo = l0.take p ++ [clT a2, emT] ++ l0.drop p := ⟨_, rfl⟩
      rw [← hmo] at HN4 HINS
      clear hmo
      obtain ⟨A4, c4, rfl, hc4, hr4⟩ := Kd.N_reads HN4.out
      have HC4 := Lib.hid hc4
      have HR4 := Lib.hid hr4
      have HBW := Lib.hid (HB.out.trans (HX4.out.mono HB.out.size))
      have HRW := Lib.hid (Kd.C_below HR.out HBW.out)
      clear hc4 hr4
      refine Calls.mono (tree_Build.calls A0 c0 l0 bl be _ HRW.out HC.out HB0.out) ?_
      rintro e y5 ⟨v5, rfl, hs, hb⟩
      have HBW5 := Lib.hid (HBW.out.trans (hb.mono HBW.out.size))
      have HR5 := Lib.hid (Kd.C_below HR4.out hb)
      obtain ⟨A5, c5, rfl, hc5, hr5⟩ := Kd.S_reads hs
      have HC5 := Lib.hid hc5
      have HS5 := Lib.hid hr5
      clear hs hb hc5 hr5
      go_wp2_with fail
      refine Calls.mono (tree_Build.calls A4 c4 _ bl be _ HR5.out HC4.out HINS.out) ?_
      rintro e y6 ⟨v6, rfl, hs, hb⟩
      have HBW6 := Lib.hid (HBW5.out.trans (hb.mono HBW5.out.size))
      have HS6 := Lib.hid (Kd.C_below HS5.out hb)
      obtain ⟨A6, c6, rfl, hc6, hr6⟩ := Kd.S_reads hs
      have HC6 := Lib.hid hc6
      have HT6 := Lib.hid hr6
      clear hs hb hc6 hr6
      go_wp2_with fail
      refine Calls.mono (scrimref05_Same.calls A5 c5 bl A6 c6 bl true _ HS6.out HC5.out HT6.out HC6.out (scrimref05_Same.self HNS.out)) ?_
      rintro e y7 ⟨rfl, hb⟩
      have HBW7 := Lib.hid (HBW6.out.trans (hb.mono HBW6.out.size))
      clear hb
      go_wp2_with fail
      go_ret
      exact ⟨rfl, HBW7.out⟩
end Go.Proofs.YtkjgnkmnngaioaaGreat.Q
namespace Go.Proofs.YtkjgnkmnngaioaaGreat.treeClosed
open Go.ChangeShapes Go.WideShapes Go.ChangeAt Go.RowKit Go.Proofs.YtkjgnkmnngaioaaGreat.Open Go.Proofs.YtkjgnkmnngaioaaGreat.Q Go.Proofs.YtkjgnkmnngaioaaGreatW.PrintWords
open Go.ChangeMaps (open_string shut_string)
set_option linter.unusedVariables false
theorem own : ownKnob Tryz.prog.godebug = none := by kernel_rfl
theorem laidOut : laidOutB Tryz.prog = true := by kernel_rfl
set_option maxRecDepth 100000 in
theorem lifted (os : Os) (started : os.Started) (H : Type) (enc : TypeId × Value → H) :
    ReturnsInHanded {} Tryz.checked os 6 .any (Rows.treeClosedSpec.pre6 enc Tryz.prog Tryz.f6 Rows.treeClosedRow.domain false) (Rows.treeClosedSpec.post enc Tryz.prog Tryz.f6 false true false false) := by
  refine returnsInHanded_of_change_sized (C := Tryz.checked) own started (by kernel_rfl) Tryz.func6
    (ChangeSpec.witness6 (enc := enc) (C := Tryz.checked) false ⟨#[], #[.slice none 0 0, .int .i64 0, .string ByteArray.empty], []⟩ 8 (by kernel_rfl) (by kernel_rfl) (by kernel_rfl) (by kernel_rfl)) ?_
  intro W base args ds gs before hval0 hW hcnd hsz0 _
  have hsz : (DataW.weightsEach Tryz.prog (Tryz.f6.params.toList ++ Rows.treeClosedSpec.plain.varTypes Tryz.prog) (ds ++ gs)).all (· ≤ reachBytes) = true := hsz0
  have hval : ∀ (j : Nat) t v, Tryz.f6.params[j]? = some t → args[j]? = some v → Value.okWide Tryz.prog W .any base t v := hval0
  have hW' := hW
  obtain ⟨p, q, hA0, hV, rfl, hfz, hnd⟩ := hW
  have hA : DataW.TrodAll enc Tryz.prog W 0 (fun _ => true) true Tryz.f6.params.toList args.toList ds p := hA0
  rw [Tryz.params6] at hA hval hsz
  obtain ⟨v0, vs0, d0, ds0, p0, q0, hargs, rfl, rfl, h0, r0⟩ := trodAll_cons hA
  obtain ⟨v1, vs1, d1, ds1, p1, q1, rfl, rfl, rfl, h1, r1⟩ := trodAll_cons r0
  obtain ⟨v2, vs2, d2, ds2, p2, q2, rfl, rfl, rfl, h2, r2⟩ := trodAll_cons r1
  obtain ⟨rfl, rfl, rfl⟩ := trodAll_nil r2
  obtain rfl : args = #[v0, v1, v2] := by cases args; simp_all
  obtain ⟨rfl, rfl⟩ := trodVars_none hV
  have lt0 : ∀ x ∈ p0, x.block < W.heap.size := by obtain ⟨m, hm⟩ := h0; exact DataW.trod_lt m _ _ _ hm
  obtain ⟨A0, len0, c0, rfl⟩ := okWide_slice Tryz.underlying23 (hval 0 23 v0 rfl rfl)
  obtain ⟨l0, ⟨A0', c0', cs0, hc0, hr0⟩, g0⟩ := Q.opTs.of h0 (fun n hn => by simpa using List.all_eq_true.1 hsz n (DataW.weights_mem_each (j := 0) rfl rfl n hn))
  simp only [Value.cells, List.cons.injEq, Value.slice.injEq, and_true] at cs0
  obtain ⟨rfl, rfl, rfl⟩ := cs0
  obtain ⟨a1, rfl, rfl, rfl, g1⟩ := open_int Tryz.underlying3 (hval 1 3 v1 rfl rfl) h1
  have w1 : -9223372036854775808 ≤ a1 ∧ a1 ≤ 9223372036854775807 := by
    have h := g1
    simp [Lit.wf, IntKind.min, IntKind.max, IntKind.signed, IntKind.bits] at h
    omega
  obtain ⟨a2, rfl, rfl, rfl, g2⟩ := open_string Tryz.underlying9 (hval 2 9 v2 rfl rfl) h2
  have w2 : a2.size ≤ 140737488351232 := by
    have z := sized_string hsz (j := 2) (t := 9) rfl rfl
    rw [Array.length_toList] at z
    exact z
  clear hA0 hval0 hsz0 hsz
  refine (Q.treeClosed_walk A0 c0 l0 a1 a2 W hr0 hc0 g0 w1 w2).mono fun e W' ⟨he, bel⟩ => ?_
  subst he
  exact ⟨_, rfl, _, _, _, [], _, [], hW', trodAll_mk1 (shut_bool Tryz.underlying4 _), (trodAll_cons_mk (Below.trod laidOut (by kernel_rfl) (of_decide_eq_true (by kernel_rfl)) h0 bel lt0) (trodAll_cons_mk (shut_int Tryz.underlying3 g1) (trodAll_cons_mk (shut_string Tryz.underlying9 g2) trodAll_mk0))), rfl, bel.frame _, fun h => by cases h⟩
theorem over : Rows.treeClosedRow.holds Tryz.pinned (OpenSpec.ofChange Rows.treeClosedSpec) :=
  OpenClaim.holds_of_wide 6 Tryz.f6 rfl rfl rfl rfl rfl rfl rfl ⟨rfl, rfl, rfl, rfl, rfl⟩ rfl rfl rfl rfl rfl (by kernel_rfl) Tryz.func6 (by kernel_rfl)
    (of_decide_eq_true (by kernel_rfl)) (by unfold Func.isWrapper; first | (rw [if_pos (by decide +kernel)]; kernel_rfl) | (rw [if_neg (by decide +kernel)]; exact ⟨rfl, rfl⟩))
    (fun os started H enc _ => lifted os started H enc)
theorem proved : Rows.TreeClosedSaid := over
end Go.Proofs.YtkjgnkmnngaioaaGreat.treeClosed
namespace Go.Proofs.YtkjgnkmnngaioaaGreat
/-- The row, under a short name, for the claim. -/
theorem treeClosed_holds : Rows.TreeClosedSaid := treeClosed.proved
end Go.Proofs.YtkjgnkmnngaioaaGreat
