/- THE LAW scrim/scrimlaw05.TreeMay: called with any arguments that can be read, it returns true, and each argument reads behind the call as before. No condition. -/
import Derived.Test.YtkjgnkmnngaioaaGreatZdj
import Derived.Test.YtkjgnkmnngaioaaGreatZdg
import Derived.Test.YtkjgnkmnngaioaaGreatZdk
import Derived.Test.YtkjgnkmnngaioaaGreatZdi
import Derived.Test.YtkjgnkmnngaioaaGreatZdb
import Derived.Test.YtkjgnkmnngaioaaGreatZde
import Derived.Test.YtkjgnkmnngaioaaGreatRows
import Derived.ChangeSlices
import Derived.SizedLaws
import Derived.Below
import Derived.ChangeOld
import Derived.ShutString
import Derived.OpenShut
import Derived.ProofKit
import Derived.WalkKit
namespace Go.Proofs.YtkjgnkmnngaioaaGreat.Q
open Go.RowKit Go.Proofs.YtkjgnkmnngaioaaGreat.Mem Go.Proofs.YtkjgnkmnngaioaaGreatW.PrintWords Go.Proofs.YtkjgnkmnngaioaaGreatW.PrintLast Go.Proofs.YtkjgnkmnngaioaaGreatW.PrintMore
set_option linter.unusedVariables false
set_option linter.unusedSimpArgs false
def awN : List S49 := [⟨-1, ⟨#[114, 111, 111, 116]⟩, ⟨#[]⟩, [], [1, 2]⟩, ⟨0, ⟨#[]⟩, ⟨#[97]⟩, [], []⟩, ⟨0, ⟨#[98]⟩, ⟨#[]⟩, [], [3]⟩, ⟨2, ⟨#[]⟩, ⟨#[99]⟩, [], []⟩]
def awTs : List S46 := [⟨9, ⟨#[]⟩, ⟨#[]⟩, []⟩]
def awBs : ByteArray := ⟨#[97, 60, 98, 62, 99, 60, 47, 98, 62]⟩
def awRd : List S46 := [⟨3, ⟨#[]⟩, ⟨#[97]⟩, []⟩, ⟨1, ⟨#[98]⟩, ⟨#[]⟩, []⟩, ⟨3, ⟨#[]⟩, ⟨#[99]⟩, []⟩, ⟨2, ⟨#[98]⟩, ⟨#[]⟩, []⟩]
theorem aw_tok : token_Read.f awBs = some (awRd, 0) := by kernel_rfl
theorem aw_ok1 : okTs awRd := by unfold okTs awRd; simp; try decide
theorem aw_ok2 : okTs awTs := by unfold okTs awTs; simp; try decide
theorem aw_b1 : buildF awRd = (awN, 0) := by kernel_rfl
theorem aw_b2 : buildF awTs = ([], 2) := by kernel_rfl
theorem aw_may : tree_May.f 40 awN = some true := by kernel_rfl
theorem aw_may0 : tree_May.f 40 [] = some false := by kernel_rfl
theorem aw_d1 : depthF awN 3 = 2 := by kernel_rfl
theorem aw_d2 : depthF awN 9 = -1 := by kernel_rfl
theorem aw_up : okUp awN := by unfold okUp awN; decide
theorem aw_ns : okNs awN := by unfold okNs awN; simp; try decide
theorem aw_same : scrimref05_Same.f awN awN = some true := scrimref05_Same.self aw_ns
theorem aw_read : tree_Read.f awBs = some (awN, 0) := by
  unfold tree_Read.f tree_Build.f
  rw [aw_tok]
  simp only [Option.bind_some, if_true, if_pos aw_ok1, aw_b1]
theorem aw_build : tree_Build.f awTs = some ([], 2) := by
  unfold tree_Build.f
  rw [if_pos aw_ok2, aw_b2]
theorem blk_reads {α : Type} (d : Kd α) {W : World} {b : Nat} {cells : Array Value} {e : Nat} (h : Blk W b cells e) (xs : List α) (hm : xs.length ≤ 9223372036854775807) (hr : ∀ (j : Nat) (x : α), xs[j]? = some x → d.K W x ((cells.toList.drop (j * d.sz)).take d.sz)) : d.C W (some ⟨b, 0, none⟩) xs.length xs := by
  refine ⟨rfl, hm, fun _ => ⟨_, rfl, fun j x hx => ⟨_, d.K_len (hr j x hx), hr j x hx, fun i u hu => ?_⟩⟩⟩
  rw [List.getElem?_take] at hu
  split at hu
  · rw [List.getElem?_drop] at hu
    have ea : (⟨b, 0, none⟩ : Addr).add (j * d.sz + i) = ⟨b, j * d.sz + i, none⟩ := by unfold Addr.add; split <;> simp_all
    rw [ea, h.cell]
    rw [Array.getElem?_toList] at hu
    exact hu
  · cases hu
def cellsW (a b : Nat) : Array Value := #[.int .i64 (-1), .string ⟨#[114, 111, 111, 116]⟩, .string ⟨#[]⟩, .slice none 0 0, .slice (some ⟨a, 0, none⟩) 2 2, .int .i64 0, .string ⟨#[]⟩, .string ⟨#[97]⟩, .slice none 0 0, .slice none 0 0, .int .i64 0, .string ⟨#[98]⟩, .string ⟨#[]⟩, .slice none 0 0, .slice (some ⟨b, 0, none⟩) 1 1, .int .i64 2, .string ⟨#[]⟩, .string ⟨#[99]⟩, .slice none 0 0, .slice none 0 0]
theorem nilC {α : Type} (d : Kd α) (W : World) : d.C W none ([] : List α).length [] := ⟨rfl, by simp, fun h => absurd h (by simp)⟩
theorem want_reads {W : World} {a b g : Nat} (h1 : Blk W a #[.int .i64 1, .int .i64 2] 3) (h2 : Blk W b #[.int .i64 3] 3) (h3 : Blk W g (cellsW a b) 49) : Kd.C k49 W (some ⟨g, 0, none⟩) awN.length awN := by
  refine blk_reads k49 h3 awN (by decide) (fun j x hx => ?_)
  have c1 : (Kd.int .i64).C W (some ⟨a, 0, none⟩) [(1 : Int), 2].length [1, 2] := blk_reads (Kd.int .i64) h1 [1, 2] (by decide) (fun j x hx => by
    rcases j with _ | _ | j
    · cases hx; rfl
    · cases hx; rfl
    · cases hx)
  have c2 : (Kd.int .i64).C W (some ⟨b, 0, none⟩) [(3 : Int)].length [3] := blk_reads (Kd.int .i64) h2 [3] (by decide) (fun j x hx => by
    rcases j with _ | j
    · cases hx; rfl
    · cases hx)
  unfold awN at hx
  rcases j with _ | _ | _ | _ | j
  · cases hx
    exact k49_mk (A3 := none) (c3 := 0) (A4 := some ⟨a, 0, none⟩) (c4 := 2) W ⟨-1, ⟨#[114, 111, 111, 116]⟩, ⟨#[]⟩, [], [1, 2]⟩ (by decide) (nilC _ _) (by decide) c1
  · cases hx
    exact k49_mk (A3 := none) (c3 := 0) (A4 := none) (c4 := 0) W ⟨0, ⟨#[]⟩, ⟨#[97]⟩, [], []⟩ (by decide) (nilC _ _) (by decide) (nilC _ _)
  · cases hx
    exact k49_mk (A3 := none) (c3 := 0) (A4 := some ⟨b, 0, none⟩) (c4 := 1) W ⟨0, ⟨#[98]⟩, ⟨#[]⟩, [], [3]⟩ (by decide) (nilC _ _) (by decide) c2
  · cases hx
    exact k49_mk (A3 := none) (c3 := 0) (A4 := none) (c4 := 0) W ⟨2, ⟨#[]⟩, ⟨#[99]⟩, [], []⟩ (by decide) (nilC _ _) (by decide) (nilC _ _)
  · cases hx
theorem toks_reads {W : World} {g : Nat} (h3 : Blk W g #[.int .i64 9, .string ⟨#[]⟩, .string ⟨#[]⟩, .slice none 0 0] 46) : Kd.C k46 W (some ⟨g, 0, none⟩) awTs.length awTs := by
  refine blk_reads k46 h3 awTs (by decide) (fun j x hx => ?_)
  unfold awTs at hx
  rcases j with _ | j
  · cases hx
    exact k46_mk (A3 := none) (c3 := 0) W ⟨9, ⟨#[]⟩, ⟨#[]⟩, []⟩ (by decide) (nilC _ _)
  · cases hx
set_option maxRecDepth 100000 in
set_option maxHeartbeats 8000000 in
theorem awakeN_calls (w : World) : Calls Tryz.prog 23 #[] w fun e w' => e = .returned (.bool true) ∧ Below w.heap.size w w' := by
  go_enter Tryz.func23, Tryz.ntmps23
  go_wp2_with (go_at_call 26; refine (tree_Read.calls _ awN 0 _ aw_read).mono ?_; rintro e w1 ⟨v, rfl, hs, hb⟩; have HS1 := Lib.hid hs; have HB1 := Lib.hid hb; obtain ⟨A1, c1, rfl⟩ := Kd.S_slice hs; clear hs hb)
  have h1 := (((Blk.alloc w1 #[.int .i64 1, .int .i64 2] 3).alloc_old (.cells #[.int .i64 3] 3)).alloc_old (.cells (cellsW w1.heap.size (w1.heap.size + 1)) 49)).alloc_old (.cells #[.int .i64 9, .string ⟨#[]⟩, .string ⟨#[]⟩, .slice none 0 0] 46)
  have h2 := ((Blk.alloc_at (w1.alloc (.cells #[.int .i64 1, .int .i64 2] 3)) (b := w1.heap.size + 1) #[.int .i64 3] 3 (by simp)).alloc_old (.cells (cellsW w1.heap.size (w1.heap.size + 1)) 49)).alloc_old (.cells #[.int .i64 9, .string ⟨#[]⟩, .string ⟨#[]⟩, .slice none 0 0] 46)
  have h3 := (Blk.alloc_at ((w1.alloc (.cells #[.int .i64 1, .int .i64 2] 3)).alloc (.cells #[.int .i64 3] 3)) (b := w1.heap.size + 2) (cellsW w1.heap.size (w1.heap.size + 1)) 49 (by simp)).alloc_old (.cells #[.int .i64 9, .string ⟨#[]⟩, .string ⟨#[]⟩, .slice none 0 0] 46)
  have h4 := Blk.alloc_at (((w1.alloc (.cells #[.int .i64 1, .int .i64 2] 3)).alloc (.cells #[.int .i64 3] 3)).alloc (.cells (cellsW w1.heap.size (w1.heap.size + 1)) 49)) (b := w1.heap.size + 3) #[.int .i64 9, .string ⟨#[]⟩, .string ⟨#[]⟩, .slice none 0 0] 46 (by simp)
  have hb2 : Below w1.heap.size w1 ((((w1.alloc (.cells #[.int .i64 1, .int .i64 2] 3)).alloc (.cells #[.int .i64 3] 3)).alloc (.cells (cellsW w1.heap.size (w1.heap.size + 1)) 49)).alloc (.cells #[.int .i64 9, .string ⟨#[]⟩, .string ⟨#[]⟩, .slice none 0 0] 46)) := below_alloc (below_alloc (below_alloc (below_alloc (Below.refl _ _) _) _) _) _
  have HW2 := Lib.hid (want_reads h1 h2 h3)
  have HT := Lib.hid (toks_reads h4)
  have HL := Lib.hid (Kd.S_reads (Kd.S_below HS1.out hb2))
  have HB2 := Lib.hid (HB1.out.trans (hb2.mono HB1.out.size))
  clear h1 h2 h3 h4 hb2
  unfold cellsW at HW2 HT HL HB2
  generalize ((((w1.alloc (.cells #[.int .i64 1, .int .i64 2] 3)).alloc (.cells #[.int .i64 3] 3)).alloc (.cells #[.int .i64 (-1), .string ⟨#[114, 111, 111, 116]⟩, .string ⟨#[]⟩, .slice none 0 0, .slice (some ⟨w1.heap.size, 0, none⟩) 2 2, .int .i64 0, .string ⟨#[]⟩, .string ⟨#[97]⟩, .slice none 0 0, .slice none 0 0, .int .i64 0, .string ⟨#[98]⟩, .string ⟨#[]⟩, .slice none 0 0, .slice (some ⟨w1.heap.size + 1, 0, none⟩) 1 1, .int .i64 2, .string ⟨#[]⟩, .string ⟨#[99]⟩, .slice none 0 0, .slice none 0 0] 49)).alloc (.cells #[.int .i64 9, .string ⟨#[]⟩, .string ⟨#[]⟩, .slice none 0 0] 46)) = W2 at HW2 HT HL HB2 ⊢
  have hl : Kd.C k49 W2 A1 awN.length awN ∧ awN.length ≤ c1 := by
    obtain ⟨A, c, he, hc, hr⟩ := HL.out
    injection he with e1 _ e3
    subst e1 e3
    exact ⟨hr, hc⟩
  have HC2 := Lib.hid hl.1
  have HLC := Lib.hid hl.2
  clear hl HL HS1
  refine Calls.mono (tree_Build.calls (some ⟨w1.heap.size + 1 + 1 + 1, 0, none⟩) 1 awTs [] 2 _ HT.out (by decide) aw_build) ?_
  rintro e w3 ⟨v, rfl, hs, hb⟩
  obtain ⟨A2, c2, rfl⟩ := Kd.S_slice hs
  clear hs
  have HB3 := Lib.hid (HB2.out.trans (hb.mono HB2.out.size))
  have HC3 := Lib.hid (Kd.C_below HC2.out hb)
  have HW3 := Lib.hid (Kd.C_below HW2.out hb)
  clear hb
  go_wp2_with fail
  refine Calls.mono (scrimref05_Same.calls A1 c1 awN (some ⟨w1.heap.size + 1 + 1, 0, none⟩) 4 awN true _ HC3.out HLC.out HW3.out (by decide) aw_same) ?_
  rintro e w4 ⟨rfl, hb⟩
  have HB4 := Lib.hid (HB3.out.trans (hb.mono HB3.out.size))
  have HC4 := Lib.hid (Kd.C_below HC3.out hb)
  have HW4 := Lib.hid (Kd.C_below HW3.out hb)
  clear hb
  go_wp2_with fail
  refine Calls.mono (tree_May.calls 40 A1 c1 awN true _ HC4.out HLC.out aw_may) ?_
  rintro e w5 ⟨rfl, hb⟩
  have HB5 := Lib.hid (HB4.out.trans (hb.mono HB4.out.size))
  have HC5 := Lib.hid (Kd.C_below HC4.out hb)
  have HW5 := Lib.hid (Kd.C_below HW4.out hb)
  clear hb
  go_wp2_with fail
  refine Calls.mono (tree_May.calls 40 none 0 [] false _ (nilC _ _) (by decide) aw_may0) ?_
  rintro e w6 ⟨rfl, hb⟩
  have HB6 := Lib.hid (HB5.out.trans (hb.mono HB5.out.size))
  have HC6 := Lib.hid (Kd.C_below HC5.out hb)
  have HW6 := Lib.hid (Kd.C_below HW5.out hb)
  clear hb
  go_wp2_with fail
  refine Calls.mono (depth_calls A1 c1 awN 3 _ HC6.out aw_up (by decide)) ?_
  rintro e w7 ⟨rfl, hb⟩
  have HB7 := Lib.hid (HB6.out.trans (hb.mono HB6.out.size))
  have HC7 := Lib.hid (Kd.C_below HC6.out hb)
  have HW7 := Lib.hid (Kd.C_below HW6.out hb)
  clear hb
  rw [aw_d1]
  go_wp2_with fail
  refine Calls.mono (depth_calls A1 c1 awN 9 _ HC7.out aw_up (by decide)) ?_
  rintro e w8 ⟨rfl, hb⟩
  have HB8 := Lib.hid (HB7.out.trans (hb.mono HB7.out.size))
  have HC8 := Lib.hid (Kd.C_below HC7.out hb)
  have HW8 := Lib.hid (Kd.C_below HW7.out hb)
  clear hb
  rw [aw_d2]
  go_wp2_with fail
  refine Calls.mono (copy_calls A1 c1 awN _ HC8.out HLC.out (by decide) (by decide)) ?_
  rintro e w9 ⟨v, rfl, hn, hb⟩
  obtain ⟨A3, c3, rfl, hc3, hr3⟩ := Kd.N_reads hn
  have HR3 := Lib.hid hr3
  have HC3' := Lib.hid hc3
  clear hn hr3 hc3
  have HB9 := Lib.hid (HB8.out.trans (hb.mono HB8.out.size))
  have HC9 := Lib.hid (Kd.C_below HC8.out hb)
  have HW9 := Lib.hid (Kd.C_below HW8.out hb)
  clear hb
  go_wp2_with fail
  refine Calls.mono (scrimref05_Same.calls A3 c3 awN (some ⟨w1.heap.size + 1 + 1, 0, none⟩) 4 awN true _ HR3.out HC3'.out HW9.out (by decide) aw_same) ?_
  rintro e w10 ⟨rfl, hb⟩
  have HB10 := Lib.hid (HB9.out.trans (hb.mono HB9.out.size))
  have HC10 := Lib.hid (Kd.C_below HC9.out hb)
  have HW10 := Lib.hid (Kd.C_below HW9.out hb)
  clear hb
  go_wp2_with fail
  go_ret
  exact ⟨rfl, HB10.out⟩
def scrimlaw05_awake.f : Option Bool := some true
theorem scrimlaw05_awake.calls (r : Bool) (w : World) (h : scrimlaw05_awake.f = some r) : Calls Tryz.prog 23 #[] w fun e w' => e = .returned (.bool r) ∧ Below w.heap.size w w' := by
  unfold scrimlaw05_awake.f at h
  injection h with h
  subst h
  exact awakeN_calls w
end Go.Proofs.YtkjgnkmnngaioaaGreat.Q
namespace Go.Proofs.YtkjgnkmnngaioaaGreat.Q
open Go.RowKit Go.Proofs.YtkjgnkmnngaioaaGreatW.PrintWords Go.Proofs.YtkjgnkmnngaioaaGreatW.PrintLast Go.Proofs.YtkjgnkmnngaioaaGreatW.PrintMore
attribute [local go_sem] max2_int min2_int max_two min_two max_three min_three max_four min_four   -- for this text's walks alone
set_option linter.unusedVariables false
set_option linter.unusedSimpArgs false
mutual
def scrimlaw05_TreeTexts.j0 : Nat → List (S46) → Bool → Option (Bool)
  | 0, _, _ => none
  | k + 1, x0, x27 => if x27 = true then (some true) else ((tree_Build.f x0).bind fun bt173 => (if bt173.2 = 0 then (scrimlaw05_TreeTexts.l0 k bt173.1 (⟨#[]⟩ : ByteArray) (⟨#[]⟩ : ByteArray) 1 x0 (x0.length : Int) 0) else (some ((bt173.1.length : Int) == 0))))
def scrimlaw05_TreeTexts.l0 : Nat → List (S49) → ByteArray → ByteArray → Int → List (S46) → Int → Int → Option (Bool)
  | 0, _, _, _, _, _, _, _ => none
  | k + 1, x5, x7, x8, x9, x38, x39, x40 => if x40 < x39 then (if 0 ≤ x40 then (if x40 < (x38.length : Int) then (if ((rd_T46 x38 x40).f0) = 3 then (if x7.size + ((rd_T46 x38 x40).f2).size ≤ 9223372036854775807 then (if ((rd_T46 x38 x40).f0) = 1 then (if ((rd_T46 x38 x40).f1).toList = ([114, 111, 111, 116] : List UInt8) then (scrimlaw05_TreeTexts.l0 k x5 (x7 ++ ((rd_T46 x38 x40).f2)) x8 x9 x38 x39 (wrap64 (x40 + 1))) else (scrimlaw05_TreeTexts.l0 k x5 (x7 ++ ((rd_T46 x38 x40).f2)) x8 (wrap64 (x9 + 1)) x38 x39 (wrap64 (x40 + 1)))) else (scrimlaw05_TreeTexts.l0 k x5 (x7 ++ ((rd_T46 x38 x40).f2)) x8 x9 x38 x39 (wrap64 (x40 + 1)))) else (none)) else (if ((rd_T46 x38 x40).f0) = 1 then (if ((rd_T46 x38 x40).f1).toList = ([114, 111, 111, 116] : List UInt8) then (scrimlaw05_TreeTexts.l0 k x5 x7 x8 x9 x38 x39 (wrap64 (x40 + 1))) else (scrimlaw05_TreeTexts.l0 k x5 x7 x8 (wrap64 (x9 + 1)) x38 x39 (wrap64 (x40 + 1)))) else (scrimlaw05_TreeTexts.l0 k x5 x7 x8 x9 x38 x39 (wrap64 (x40 + 1))))) else (none)) else (none)) else (scrimlaw05_TreeTexts.l1 k x7 x8 x9 x5 (x5.length : Int) 0)
def scrimlaw05_TreeTexts.l1 : Nat → ByteArray → ByteArray → Int → List (S49) → Int → Int → Option (Bool)
  | 0, _, _, _, _, _, _ => none
  | k + 1, x7, x8, x9, x62, x63, x64 => if x64 < x63 then (if 0 ≤ x64 then (if x64 < (x62.length : Int) then (if x8.size + ((rd_T49 x62 x64).f2).size ≤ 9223372036854775807 then (if ((rd_T49 x62 x64).f1).toList = ([] : List UInt8) then (scrimlaw05_TreeTexts.l1 k x7 (x8 ++ ((rd_T49 x62 x64).f2)) x9 x62 x63 (wrap64 (x64 + 1))) else (scrimlaw05_TreeTexts.l1 k x7 (x8 ++ ((rd_T49 x62 x64).f2)) (wrap64 (x9 - 1)) x62 x63 (wrap64 (x64 + 1)))) else (none)) else (none)) else (none)) else (if x7.toList = x8.toList then (some (x9 == 0)) else (some false))
end
def scrimlaw05_TreeTexts.f (k : Nat) (l0 : List (S46)) : Option (Bool) := (scrimlaw05_awake.f).bind fun t168 => (if t168 = true then ((scrimlaw05_own.f k l0).bind fun bt169 => (if bt169.2 > 20000 then (scrimlaw05_TreeTexts.j0 k l0 true) else (scrimlaw05_TreeTexts.j0 k l0 (decide ((l0.length : Int) > 300))))) else (some false))
end Go.Proofs.YtkjgnkmnngaioaaGreat.Q
namespace Go.Proofs.YtkjgnkmnngaioaaGreat.Q
open Go.RowKit Go.IntWalk Go.Proofs.YtkjgnkmnngaioaaGreat.Mem Go.Proofs.YtkjgnkmnngaioaaGreatW.PrintWords Go.Proofs.YtkjgnkmnngaioaaGreatW.PrintLast Go.Proofs.YtkjgnkmnngaioaaGreatW.PrintMore
set_option linter.unusedVariables false
set_option linter.unusedSimpArgs false
theorem rdt_at {l : List Tk} {i : Nat} (h : i < l.length) : rd_T46 l (i : Int) = l[i] := by
  unfold rd_T46
  rw [Int.toNat_natCast, List.getD_eq_getElem?_getD, List.getElem?_eq_getElem h]
  rfl
theorem wr1 {i n : Nat} (h : i < n) (hn : n ≤ 4611686018427387904) : wrap64 ((i : Int) + 1) = ((i + 1 : Nat) : Int) := by rw [wrap64_in _ (by omega)]; rfl
theorem own_wrap (s a : Nat) (n : Int) (hs : s ≤ 140737488351232) (ha : a ≤ 140737488351232) (h0 : 0 ≤ n) (h1 : n ≤ 20000) : wrap64 (n + wrap64 (wrap64 (1 + (s : Int)) + wrap64 (30 * (a : Int)))) = n + (1 + (s : Int) + 30 * (a : Int)) := by
  have b1 : (s : Int) ≤ 140737488351232 := by omega
  have b2 : (a : Int) ≤ 140737488351232 := by omega
  have b3 : (0 : Int) ≤ (s : Int) := by omega
  have b4 : (0 : Int) ≤ (a : Int) := by omega
  generalize (s : Int) = x at *
  generalize (a : Int) = y at *
  have c1 : -9223372036854775808 ≤ 1 + x ∧ 1 + x ≤ 9223372036854775807 := by omega
  have c2 : -9223372036854775808 ≤ 30 * y ∧ 30 * y ≤ 9223372036854775807 := by omega
  have c3 : -9223372036854775808 ≤ 1 + x + 30 * y ∧ 1 + x + 30 * y ≤ 9223372036854775807 := by omega
  have c4 : -9223372036854775808 ≤ n + (1 + x + 30 * y) ∧ n + (1 + x + 30 * y) ≤ 9223372036854775807 := by omega
  rw [wrap64_in _ c1, wrap64_in _ c2, wrap64_in _ c3, wrap64_in _ c4]
/-- What own counts. -/
theorem own_law (l : List Tk) (hl : l.length < 2199023255552) (hg : ∀ (i : Nat), i < l.length → (rd_T46 l (i : Int)).f2.size ≤ 140737488351232 ∧ (rd_T46 l (i : Int)).f3.length ≤ 140737488351232) :
    ∀ (d i : Nat) (x4 : List S71) (n : Int) (k : Nat), i + d = l.length → x4.length = i → 0 ≤ n → n ≤ 5000000000000000 → d < k →
    ∃ out m, scrimlaw05_own.l0 k l x4 n (i : Int) = some (out, m) ∧ n ≤ m ∧ (m ≤ 20000 → ∀ (j : Nat), i ≤ j → j < l.length → ((rd_T46 l (j : Int)).f2.size : Int) ≤ m ∧ ((rd_T46 l (j : Int)).f3.length : Int) ≤ m) := by
  intro d
  induction d with
  | zero =>
    intro i x4 n k hi h4 h0 h1 hk
    obtain ⟨k, rfl⟩ : ∃ k', k = k' + 1 := ⟨k - 1, by omega⟩
    rw [scrimlaw05_own.l0, if_neg (by omega)]
    exact ⟨_, _, rfl, Int.le_refl _, fun _ j _ _ => by omega⟩
  | succ d ih =>
    intro i x4 n k hi h4 h0 h1 hk
    obtain ⟨k, rfl⟩ : ∃ k', k = k' + 1 := ⟨k - 1, by omega⟩
    rw [scrimlaw05_own.l0, if_pos (by omega)]
    by_cases hn : n ≤ 20000
    · have hx4 : x4.length < 2199023255552 := by omega
      rw [if_pos hn, if_pos (show (0 : Int) ≤ (i : Int) by omega), if_pos hx4]
      obtain ⟨g2, g3⟩ := hg i (by omega)
      clear hg
      generalize hs : (rd_T46 l (i : Int)).f2.size = s at g2 ⊢
      generalize ha : (rd_T46 l (i : Int)).f3.length = a at g3 ⊢
      rw [own_wrap s a n g2 g3 h0 hn, wr1 (n := l.length) (by omega) (by omega)]
      obtain ⟨out, m, r1, r2, r3⟩ := ih (i + 1) (x4 ++ [⟨(rd_T46 l (i : Int)).f0, (rd_T46 l (i : Int)).f1, (rd_T46 l (i : Int)).f2, (rd_T46 l (i : Int)).f3⟩]) (n + (1 + (s : Int) + 30 * (a : Int))) k (by omega) (by rw [List.length_append, h4]; rfl) (by omega) (by omega) (by omega)
      refine ⟨out, m, r1, by omega, fun hm j h5 h6 => ?_⟩
      by_cases hj : j = i
      · subst hj
        rw [hs, ha]
        omega
      · exact r3 hm j (by omega) h6
    · rw [if_neg hn]
      exact ⟨_, _, rfl, Int.le_refl _, fun h => by omega⟩
/-- What is good about tokens. -/
def goodTs (l : List Tk) : Prop := (∀ x ∈ l, goodW46 x) ∧ l.length * Tryz.prog.bytesOf 46 ≤ reachBytes ∧ l.length ≤ maxLen
theorem bytes_tok : Tryz.prog.bytesOf 46 = 64 := by kernel_rfl
theorem bytes_att : Tryz.prog.bytesOf 70 = 32 := by kernel_rfl
theorem goodTs.len {l : List Tk} (h : goodTs l) : l.length < 2199023255552 := by
  have := h.2.1
  rw [bytes_tok] at this
  have hr : reachBytes = 140737488351232 := by kernel_rfl
  omega
theorem goodTs.each {l : List Tk} (h : goodTs l) (i : Nat) (hi : i < l.length) : (rd_T46 l (i : Int)).f2.size ≤ 140737488351232 ∧ (rd_T46 l (i : Int)).f3.length ≤ 140737488351232 := by
  rw [rdt_at hi]
  obtain ⟨_, _, g2, _, g4, _⟩ := h.1 _ (List.getElem_mem hi)
  have hr : reachBytes = 140737488351232 := by kernel_rfl
  rw [bytes_att] at g4
  omega
theorem goodTs.ok {l : List Tk} (h : goodTs l) (hl : l.length ≤ 1000000) (hs : ∀ (j : Nat), j < l.length → ((rd_T46 l (j : Int)).f2.size : Int) ≤ 20000 ∧ ((rd_T46 l (j : Int)).f3.length : Int) ≤ 20000) : okTs l := by
  have hr : reachBytes = 140737488351232 := by kernel_rfl
  refine ⟨hl, fun t ht => ?_⟩
  obtain ⟨_, g1, g2, g3, _, _⟩ := h.1 t ht
  obtain ⟨j, hj, rfl⟩ := List.mem_iff_getElem.1 ht
  have := hs j hj
  rw [rdt_at hj] at this
  exact ⟨by omega, by omega, by omega, fun x hx => by have := (g3 x hx).1; omega⟩
theorem opTs : Go.Proofs.YtkjgnkmnngaioaaGreat.Open.OpensW Tryz.prog 23 (Kd.slice 46 k46) goodTs := Go.Proofs.YtkjgnkmnngaioaaGreat.Open.opensW_slice Tryz.underlying23 (by kernel_rfl) opW46
end Go.Proofs.YtkjgnkmnngaioaaGreat.Q
namespace Go.Proofs.YtkjgnkmnngaioaaGreat.Q
open Go.RowKit Go.Proofs.YtkjgnkmnngaioaaGreat.Mem Go.Proofs.YtkjgnkmnngaioaaGreatW.PrintWords
set_option linter.unusedVariables false
set_option linter.unusedSimpArgs false
/-- Which sign begins, behind its first byte. -/
def lkL : List UInt8 → Option Nat
  | [] => none
  | c :: r => match lkI c with
    | none => none
    | some i => if (px i).data.toList.isPrefixOf r = true then some i else none
def tlL : Nat → List UInt8 → List UInt8
  | 0, _ => []
  | _ + 1, [] => []
  | d + 1, c :: r => if c.toNat = 38 then (match lkL r with
      | some a => (vs a).data.toList ++ tlL d (r.drop (1 + (px a).size))
      | none => c :: tlL d r)
    else c :: tlL d r
theorem tl_list (s : ByteArray) : (tl s).data.toList = s.data.toList.drop 1 := by
  unfold tl
  rw [Lib.extract_data]
  exact List.take_of_length_le (by simp)
theorem hpB_list (s p : ByteArray) : hpB s p = p.data.toList.isPrefixOf s.data.toList := by
  have h := Lib.hasPrefix_raw s p
  unfold Lib.hasPrefix at h
  rw [← h]
  unfold hpB
  by_cases hs : p.size ≤ s.size
  · rw [if_pos hs, decide_eq_true hs, Bool.true_and]
  · rw [if_neg hs, decide_eq_false hs, Bool.false_and]
theorem lkF_list (s : ByteArray) : lkF s = lkL (s.data.toList.drop 1) := by
  unfold lkF
  have h1 := tl_list s
  have h2 : (tl s).size = (s.data.toList.drop 1).length := by rw [← h1]; simp
  cases hd : s.data.toList.drop 1 with
  | nil =>
    rw [hd] at h2
    rw [dif_neg (by rw [h2]; simp)]
    rfl
  | cons c r =>
    rw [hd] at h1 h2
    have h3 : 0 < (tl s).size := by rw [h2]; simp
    have h4 : (tl s)[0] = c := by
      have h5 : (tl s).data.toList[0]? = some c := by rw [h1]; rfl
      have h6 : (tl s).data.toList[0]? = some ((tl s)[0]) := by
        rw [List.getElem?_eq_getElem (by simpa using h3)]
        rfl
      exact Option.some.inj (h6.symm.trans h5)
    rw [dif_pos h3, h4]
    have h7 : (tl (tl s)).data.toList = r := by rw [tl_list, h1]; rfl
    simp only [lkL]
    cases lkI c with
    | none => rfl
    | some i =>
      dsimp only
      rw [hpB_list, h7]
theorem tellN_list (s : ByteArray) : ∀ (d i : Nat), tellN s d i = tlL d (s.data.toList.drop i)
  | 0, i => by rw [tellN]; rfl
  | d + 1, i => by
    have hl : s.data.toList.length = s.size := by simp
    rw [tellN]
    by_cases h : i < s.size
    · have hd : s.data.toList.drop i = s[i] :: s.data.toList.drop (i + 1) := List.drop_eq_getElem_cons (by omega)
      rw [dif_pos h, hd, tlL, lkF_list]
      have h1 : (s.extract i s.size).data.toList.drop 1 = s.data.toList.drop (i + 1) := by
        rw [Lib.extract_data, List.take_of_length_le (by simp), List.drop_drop]
      rw [h1]
      by_cases hc : s[i].toNat = 38
      · rw [if_pos hc, if_pos hc]
        cases hk : lkL (s.data.toList.drop (i + 1)) with
        | none =>
          show s[i] :: tellN s d (i + 1) = _
          rw [tellN_list s d (i + 1)]
        | some a =>
          show (vs a).data.toList ++ tellN s d (i + (2 + (px a).size)) = _
          show _ = (vs a).data.toList ++ tlL d (List.drop (1 + (px a).size) (List.drop (i + 1) s.data.toList))
          rw [tellN_list s d, List.drop_drop]
          rw [show i + (2 + (px a).size) = i + 1 + (1 + (px a).size) by omega]
      · rw [if_neg hc, if_neg hc, tellN_list s d (i + 1)]
    · rw [dif_neg h, List.drop_of_length_le (by omega)]
      rfl
/-- What a text tells. -/
def tellL (l : List UInt8) : List UInt8 := tlL l.length l
theorem tellF_list (s : ByteArray) : tellF s 0 = tellL s.data.toList := by
  unfold tellF tellL
  rw [tellN_list, List.drop_zero]
  simp
theorem tellF_st (l : List UInt8) : tellF (st l) 0 = tellL l := tellF_list (st l)
end Go.Proofs.YtkjgnkmnngaioaaGreat.Q
namespace Go.Proofs.YtkjgnkmnngaioaaGreat.Q
open Go.RowKit Go.Proofs.YtkjgnkmnngaioaaGreat.Mem Go.Proofs.YtkjgnkmnngaioaaGreatW.PrintWords
set_option linter.unusedVariables false
set_option linter.unusedSimpArgs false
theorem byte_all {p : UInt8 → Bool} (h : ∀ n : Fin 256, p (UInt8.ofNat n.val) = true) (c : UInt8) : p c = true := by
  have := h ⟨c.toNat, c.toNat_lt⟩
  simpa using this
theorem low_inN (c : UInt8) : (!inN c || inN (low c)) = true := byte_all (p := fun c => !inN c || inN (low c)) (by decide +kernel) c
theorem low_ltr (c : UInt8) : (ltr (low c) == ltr c) = true := byte_all (p := fun c => ltr (low c) == ltr c) (by decide +kernel) c
theorem low_low (c : UInt8) : (low (low c) == low c) = true := byte_all (p := fun c => low (low c) == low c) (by decide +kernel) c
theorem tw_all {p : UInt8 → Bool} : ∀ {l : List UInt8}, (∀ c ∈ l, p c = true) → l.takeWhile p = l
  | [], _ => rfl
  | c :: l, h => by rw [List.takeWhile_cons, if_pos (h c (by simp)), tw_all (fun d hd => h d (by simp [hd]))]
theorem tw_take {p : UInt8 → Bool} : ∀ {l : List UInt8}, ∀ c ∈ l.take (l.takeWhile p).length, p c = true
  | [], c, h => by simp at h
  | d :: l, c, h => by
    rw [List.takeWhile_cons] at h
    split at h
    · rw [List.length_cons, List.take_succ_cons] at h
      rcases List.mem_cons.1 h with h | h
      · rw [h]; assumption
      · exact tw_take c h
    · simp at h
theorem nameB_low {l : List UInt8} {k : Nat} (h : nmF l = some k) : nameB (lows (l.take k)) = true := by
  have hs := nmF_some h
  have hk : k = (l.takeWhile inN).length := hs.1
  have h1 : ∀ c ∈ l.take k, inN c = true := by rw [hk]; exact tw_take
  have hlen : (lows (l.take k)).length = k := by unfold lows; rw [List.length_map, List.length_take]; omega
  have h2 : nmLen (lows (l.take k)) = k := by
    unfold nmLen
    rw [tw_all (fun c hc => by
      unfold lows at hc
      obtain ⟨d, hd, rfl⟩ := List.mem_map.1 hc
      have := low_inN d
      rw [h1 d hd] at this
      simpa using this), hlen]
  have h3 : ltr ((lows (l.take k)).headD 0) = true := by
    cases l with
    | nil => have h5 := hs.2.2.2.1; have h6 := hs.2.1; simp at h5; omega
    | cons c l =>
      obtain ⟨k, rfl⟩ : ∃ m, k = m + 1 := ⟨k - 1, by have := hs.2.1; omega⟩
      have h4 := low_ltr c
      have h5 := hs.2.2.2.2
      simp only [List.headD_cons] at h5
      rw [h5] at h4
      simpa [lows] using h4
  have h4 : lows (lows (l.take k)) = lows (l.take k) := by
    unfold lows
    rw [List.map_map]
    apply List.map_congr_left
    intro c _
    simpa using low_low c
  unfold nameB
  rw [h4, decide_eq_true rfl, Bool.and_true, decide_eq_true]
  unfold nmF
  rw [h2, h3, if_neg (by have := hs.2.1; have := hs.2.2.1; simp; omega), hlen]
/-- Attributes may be. -/
def okA (as_ : List S70) : Prop := as_.Pairwise (fun x y => x.f0 ≠ y.f0) ∧ ∀ x ∈ as_, nameB x.f0.data.toList = true
theorem eqS_iff (a b : ByteArray) : eqS a b = true ↔ a = b := by
  unfold eqS
  rw [decide_eq_true_iff]
  constructor
  · intro h
    rw [ByteArray.toList_eq, ByteArray.toList_eq] at h
    exact ByteArray.ext (Array.toList_inj.1 h)
  · intro h; rw [h]
theorem okA_add {as_ : List S70} (h : okA as_) {key v : ByteArray} (hk : nameB key.data.toList = true) : okA (addA as_ key v) := by
  unfold addA
  split
  · exact h
  · rename_i hn
    refine ⟨List.pairwise_append.2 ⟨h.1, List.pairwise_singleton _ _, fun x hx y hy => ?_⟩, fun x hx => ?_⟩
    · rw [List.mem_singleton] at hy
      subst hy
      intro e
      exact hn (List.any_eq_true.2 ⟨x, hx, (eqS_iff _ _).2 e⟩)
    · rcases List.mem_append.1 hx with hx | hx
      · exact h.2 x hx
      · rw [List.mem_singleton] at hx
        subst hx
        exact hk
theorem okA_opL {l : List UInt8} : ∀ {f o : Nat} {as_ : List S70} {r : List S70 × Nat}, okA as_ → opL l f o as_ = some r → okA r.1
  | 0, _, _, _, _, h => by cases h
  | f + 1, o, as_, r, ha, h => by
    rw [opL] at h
    split at h
    · injection h with h
      subst h
      exact ha
    · split at h
      · cases h
      · rename_i k hk
        split at h
        · cases h
        · split at h
          · exact okA_opL (okA_add ha (nameB_low hk)) h
          · split at h
            · cases h
            · exact okA_opL (okA_add ha (nameB_low hk)) h
/-- A token that is no text may be. -/
def okM (t : S46) : Prop := (t.f0 = 1 ∨ t.f0 = 2) ∧ nameB t.f1.data.toList = true ∧ t.f2.data.toList = [] ∧ (t.f0 = 2 → t.f3 = []) ∧ okA t.f3
theorem okM_tk {l : List UInt8} {t : S46} {u : Nat} (h : tkF l = some (t, u)) : okM t := by
  unfold tkF at h
  split at h
  · rename_i k u' hc
    injection h with h
    injection h with h1 h2
    subst h1
    unfold clF at hc
    split at hc
    · cases hc
    · split at hc
      · cases hc
      · split at hc
        · cases hc
        · rename_i hk
          split at hc
          · injection hc with hc
            injection hc with hc1 hc2
            subst hc1
            exact ⟨.inr rfl, nameB_low hk, rfl, fun _ => rfl, List.Pairwise.nil, fun x hx => by cases hx⟩
          · cases hc
  · split at h
    · rename_i hc k as_ u' ho
      injection h with h
      injection h with h1 h2
      subst h1
      unfold opF at ho
      split at ho
      · cases ho
      · rename_i hk
        obtain ⟨r, hr, he⟩ := Option.map_eq_some_iff.1 ho
        obtain ⟨r1, r2⟩ := r
        injection he with he1 he2
        injection he2 with he2 he3
        subst he1 he2 he3
        exact ⟨.inl rfl, nameB_low hk, rfl, (fun h => absurd (show (1 : Int) = 2 from h) (by decide)), okA_opL (r := (r1, r2)) ⟨List.Pairwise.nil, fun x hx => by cases hx⟩ hr⟩
    · cases h
/-- A text may be. -/
def okX (t : S46) : Prop := t.f0 = 3 ∧ t.f1.data.toList = [] ∧ t.f2.data.toList ≠ [] ∧ t.f3 = []
/-- Tokens may be. -/
def okT : List S46 → Prop := fun ts => ∀ i t, ts[i]? = some t → okM t ∨ (okX t ∧ ∀ j t', i = j + 1 → ts[j]? = some t' → t'.f0 ≠ 3)
theorem okT_snoc {ts : List S46} (h : okT ts) {t : S46} (ht : okM t ∨ (okX t ∧ ∀ t', ts.getLast? = some t' → t'.f0 ≠ 3)) : okT (ts ++ [t]) := by
  intro i x hx
  rcases Nat.lt_or_ge i ts.length with hi | hi
  · rw [List.getElem?_append_left hi] at hx
    rcases h i x hx with h1 | ⟨h1, h2⟩
    · exact .inl h1
    · refine .inr ⟨h1, fun j t' hj ht' => h2 j t' hj ?_⟩
      rwa [List.getElem?_append_left (by omega)] at ht'
  · have hi' : i = ts.length := by
      have := (List.getElem?_eq_some_iff.1 hx).1
      simp at this
      omega
    subst hi'
    have : t = x := by simpa using hx
    subst this
    rcases ht with h1 | ⟨h1, h2⟩
    · exact .inl h1
    · refine .inr ⟨h1, fun j t' hj ht' => h2 t' ?_⟩
      rw [List.getElem?_append_left (by omega)] at ht'
      rw [List.getLast?_eq_getElem?, hj, Nat.add_sub_cancel]
      exact ht'
theorem tlL_ne : ∀ {d : Nat} {l : List UInt8}, 0 < d → l ≠ [] → tlL d l ≠ []
  | 0, _, h, _ => by omega
  | d + 1, [], _, h => absurd rfl h
  | d + 1, c :: l, _, _ => by
    rw [tlL]
    split
    · split
      · rename_i a _
        have hv : (vs a).data.toList ≠ [] ∨ 4 ≤ a := by
          rcases Nat.lt_or_ge a 4 with h | h
          · have : a = 0 ∨ a = 1 ∨ a = 2 ∨ a = 3 := by omega
            rcases this with rfl | rfl | rfl | rfl <;> (left; decide)
          · exact .inr h
        rename_i hk
        rcases hv with hv | hv
        · intro h
          exact hv (List.append_eq_nil_iff.1 h).1
        · exfalso
          unfold lkL at hk
          split at hk
          · cases hk
          · split at hk
            · cases hk
            · rename_i i hi
              split at hk
              · injection hk with hk
                subst hk
                unfold lkI at hi
                split at hi
                · injection hi with hi; omega
                · split at hi
                  · injection hi with hi; omega
                  · split at hi
                    · injection hi with hi; omega
                    · split at hi
                      · injection hi with hi; omega
                      · cases hi
              · cases hk
      · simp
    · simp
theorem okT_end {ts : List S46} {tx : List UInt8} (h : okT ts) (hl : ∀ t', ts.getLast? = some t' → t'.f0 ≠ 3) : okT (endT ts tx) := by
  unfold endT
  split
  · exact h
  · rename_i hx
    refine okT_snoc h (.inr ⟨⟨rfl, rfl, ?_, rfl⟩, hl⟩)
    show (st (tellF (st tx) 0)).data.toList ≠ []
    rw [tellF_st]
    exact tlL_ne (List.length_pos_iff.2 hx) hx
theorem okT_rd {l : List UInt8} : ∀ {f o : Nat} {ts : List S46} {tx : List UInt8}, okT ts → (∀ t', ts.getLast? = some t' → t'.f0 ≠ 3) → okT (rdL l f o ts tx)
  | 0, _, _, _, h, hl => okT_end h hl
  | f + 1, o, ts, tx, h, hl => by
    rw [rdL]
    split
    · exact okT_end h hl
    · split
      · split
        · rename_i t u ht
          have hm := okM_tk ht
          refine okT_rd (okT_snoc (okT_end h hl) (.inl hm)) (fun t' ht' => ?_)
          rw [List.getLast?_append] at ht'
          have : t = t' := by simpa using ht'
          subst this
          rcases hm.1 with h1 | h1 <;> rw [h1] <;> decide
        · exact okT_rd h hl
      · exact okT_rd h hl
theorem okT_read (l : List UInt8) : okT (readF l) := okT_rd (fun i t h => by simp at h) (fun t' h => by simp at h)
end Go.Proofs.YtkjgnkmnngaioaaGreat.Q
namespace Go.Proofs.YtkjgnkmnngaioaaGreat.Q
open Go.RowKit Go.Proofs.YtkjgnkmnngaioaaGreat.Mem Go.Proofs.YtkjgnkmnngaioaaGreatW.PrintWords
set_option linter.unusedVariables false
set_option linter.unusedSimpArgs false
theorem nameB_parts {n : List UInt8} (h : nameB n = true) : 0 < n.length ∧ n.length ≤ 20 ∧ (∀ c ∈ n, inN c = true) ∧ lows n = n ∧ ltr (n.headD 0) = true := by
  unfold nameB at h
  rw [Bool.and_eq_true, decide_eq_true_iff, decide_eq_true_iff] at h
  have h1 := nmF_some h.1
  refine ⟨h1.2.1, h1.2.2.1, ?_, h.2, h1.2.2.2.2⟩
  have h2 : n.length = (n.takeWhile inN).length := h1.1
  have h3 : n.take (n.takeWhile inN).length = n := by rw [← h2]; exact List.take_length
  intro c hc
  exact tw_take c (by rw [h3]; exact hc)
/-- An attribute, written. -/
def atW (a : S70) : List UInt8 := 32 :: (a.f0.data.toList ++ (61 :: 34 :: (signF 4 a.f1.data.toList ++ [34])))
def atsW (as_ : List S70) : List UInt8 := as_.flatMap atW
/-- What is written. -/
def wrF (name : List UInt8) (as_ : List S70) (text : List UInt8) : List UInt8 := 60 :: (name ++ (atsW as_ ++ 62 :: (signF 3 text ++ (60 :: 47 :: (name ++ [62])))))
end Go.Proofs.YtkjgnkmnngaioaaGreat.Q
namespace Go.Proofs.YtkjgnkmnngaioaaGreat.Q
open Go.RowKit Go.IntWalk Go.Proofs.YtkjgnkmnngaioaaGreat.Mem Go.Proofs.YtkjgnkmnngaioaaGreatW.PrintWords Go.Proofs.YtkjgnkmnngaioaaGreatW.PrintLast Go.Proofs.YtkjgnkmnngaioaaGreatW.PrintMore
set_option linter.unusedVariables false
set_option linter.unusedSimpArgs false
theorem tlL_le : ∀ (d : Nat) (l : List UInt8), (tlL d l).length ≤ l.length
  | 0, l => by rw [tlL]; exact Nat.zero_le _
  | d + 1, [] => Nat.le_refl _
  | d + 1, c :: r => by
    rw [tlL]
    split
    · split
      · rename_i a _
        have h1 := tlL_le d (r.drop (1 + (px a).size))
        have h2 : (vs a).data.toList.length ≤ 1 := by
          rcases a with _ | _ | _ | _ | a
          · decide
          · decide
          · decide
          · decide
          · show em.data.toList.length ≤ 1; decide
        rw [List.length_append, List.length_cons]
        rw [List.length_drop] at h1
        omega
      · have := tlL_le d r; simp; omega
    · have := tlL_le d r; simp; omega
theorem addA_len (l : List At) (k v : ByteArray) : (addA l k v).length ≤ l.length + 1 := by
  unfold addA
  split
  · omega
  · simp
theorem opL_len {l : List UInt8} : ∀ (f o : Nat) (as_ : List At) (r : List At × Nat), opL l f o as_ = some r → r.1.length ≤ as_.length + f
  | 0, o, as_, r, h => by rw [opL] at h; cases h
  | f + 1, o, as_, r, h => by
    rw [opL] at h
    split at h
    · injection h with h; subst h; show as_.length ≤ _; omega
    · split at h
      · cases h
      · split at h
        · cases h
        · have key : ∀ (o' : Nat) (k v : ByteArray), opL l f o' (addA as_ k v) = some r → r.1.length ≤ as_.length + (f + 1) := fun o' k v hh => by
            have := opL_len f _ _ r hh
            have := addA_len as_ k v
            omega
          split at h
          · exact key _ _ _ h
          · split at h
            · cases h
            · exact key _ _ _ h
theorem tkF_len {l : List UInt8} {t : Tk} {u : Nat} (h : tkF l = some (t, u)) : t.f2.size = 0 ∧ t.f3.length ≤ l.length + 1 := by
  unfold tkF at h
  split at h
  · injection h with h
    injection h with h _
    subst h
    exact ⟨rfl, Nat.zero_le _⟩
  · split at h
    · rename_i k as_ u' ho
      injection h with h
      injection h with h _
      subst h
      refine ⟨rfl, ?_⟩
      unfold opF at ho
      split at ho
      · cases ho
      · rw [Option.map_eq_some_iff] at ho
        obtain ⟨r, hr, he⟩ := ho
        have := opL_len _ _ _ _ hr
        injection he with _ he
        injection he with he _
        simp at this
        show as_.length ≤ _
        rw [← he]
        omega
    · cases h
def smT (n : Nat) (t : Tk) : Prop := t.f2.size ≤ n ∧ t.f3.length ≤ n + 1
theorem endT_sm {ts : List Tk} {tx : List UInt8} {n : Nat} (h : ∀ t ∈ ts, smT n t) (hx : tx.length ≤ n) : (∀ t ∈ endT ts tx, smT n t) ∧ (endT ts tx).length ≤ ts.length + 1 := by
  unfold endT
  split
  · exact ⟨h, Nat.le_succ _⟩
  · refine ⟨fun t ht => ?_, by simp⟩
    rcases List.mem_append.1 ht with ht | ht
    · exact h t ht
    · rw [List.mem_singleton.1 ht]
      refine ⟨?_, Nat.zero_le _⟩
      show (tellF (st tx) 0).toArray.size ≤ n
      rw [tellF_st, List.size_toArray]
      have := tlL_le tx.length tx
      unfold tellL
      omega
theorem rdL_len {l : List UInt8} : ∀ (f o : Nat) (ts : List Tk) (tx : List UInt8), (∀ t ∈ ts, smT l.length t) → tx.length ≤ o → o ≤ l.length → (∀ t ∈ rdL l f o ts tx, smT l.length t) ∧ (rdL l f o ts tx).length ≤ ts.length + 2 * f + 1
  | 0, o, ts, tx, h, hx, ho => by
    rw [rdL]
    have := endT_sm h (Nat.le_trans hx ho)
    exact ⟨this.1, by omega⟩
  | f + 1, o, ts, tx, h, hx, ho => by
    rw [rdL]
    split
    · have := endT_sm h (Nat.le_trans hx ho)
      exact ⟨this.1, by omega⟩
    · rename_i c hc
      have hol : o < l.length := (List.getElem?_eq_some_iff.1 hc).1
      have step : (∀ t ∈ rdL l f (o + 1) ts (tx ++ [c]), smT l.length t) ∧ (rdL l f (o + 1) ts (tx ++ [c])).length ≤ ts.length + 2 * (f + 1) + 1 := by
        have := rdL_len f (o + 1) ts (tx ++ [c]) h (by simp; omega) hol
        exact ⟨this.1, by omega⟩
      split
      · split
        · rename_i t u ht
          have he := endT_sm h (Nat.le_trans hx ho)
          have hl := tkF_len ht
          have hu : u ≤ (l.drop o).length := (tkF_le ht).1
          rw [List.length_drop] at hu hl
          have hn : ∀ t' ∈ endT ts tx ++ [t], smT l.length t' := fun t' ht' => by
            rcases List.mem_append.1 ht' with ht' | ht'
            · exact he.1 t' ht'
            · rw [List.mem_singleton.1 ht']; exact ⟨by omega, by omega⟩
          have := rdL_len f (o + u) (endT ts tx ++ [t]) [] hn (Nat.zero_le _) (by omega)
          refine ⟨this.1, ?_⟩
          have h2 := this.2
          rw [List.length_append, List.length_singleton] at h2
          omega
        · exact step
      · exact step
theorem nameB_size {s : ByteArray} (h : nameB s.data.toList = true) : s.size ≤ 20 := by
  have := (nameB_parts h).2.1
  simpa using this
theorem okTs_read {l : List UInt8} (hl : l.length ≤ 4000) : okTs (readF l) := by
  have h := rdL_len (l := l) (l.length + 1) 0 [] [] (fun t ht => by cases ht) (Nat.le_refl _) (Nat.zero_le _)
  refine ⟨by have := h.2; unfold readF; simp at this; omega, fun t ht => ?_⟩
  have h1 := h.1 t ht
  obtain ⟨i, hi, he⟩ := List.getElem_of_mem ht
  rcases okT_read l i t (by rw [List.getElem?_eq_getElem hi, he]) with hm | hx
  · refine ⟨by have := nameB_size hm.2.1; omega, by have := h1.1; omega, by have := h1.2; omega, fun x hx => by have := nameB_size (hm.2.2.2.2.2 x hx); omega⟩
  · obtain ⟨hx, -⟩ := hx
    refine ⟨?_, by have := h1.1; omega, by have := h1.2; omega, fun x h2 => by rw [hx.2.2.2] at h2; cases h2⟩
    have : t.f1.size = 0 := by
      have := congrArg List.length hx.2.1
      simpa using this
    omega
def GoodN (l : List Nd) (e : Int) : Prop := (e = 0 ∧ 1 ≤ l.length ∧ l.length ≤ 60 ∧ (∃ nx, Doc l nx) ∧ okMy l) ∨ (e ≠ 0 ∧ l = [])
theorem Doc.okMy {l : List Nd} {nx : Nat → Nat} (h : Doc l nx) (h3 : ∀ x ∈ l, x.f3.length ≤ 1000000) : okMy l := fun x hx => by
  obtain ⟨i, hi, he⟩ := List.getElem_of_mem hx
  have e : ndAt l i = x := by unfold ndAt; rw [List.getD_eq_getElem?_getD, List.getElem?_eq_getElem hi]; exact he
  have h3x := h3 x hx
  by_cases h0 : i = 0
  · subst h0
    have := h.root
    rw [e] at this
    obtain ⟨-, r1, -, r3⟩ := this
    refine ⟨?_, by omega, fun y hy => by rw [List.length_eq_zero_iff.1 r3] at hy; cases hy⟩
    have hs : x.f1.size = 4 := by
      rw [ByteArray.toList_eq] at r1
      have := congrArg List.length r1
      simpa [rootL] using this
    omega
  · have h1 := h.one i (by omega) hi
    rw [e] at h1
    unfold oneF at h1
    by_cases ht : x.f1.toList = []
    · rw [if_pos ht] at h1
      simp only [Bool.and_eq_true, decide_eq_true_iff] at h1
      have hs : x.f1.size = 0 := by
        rw [ByteArray.toList_eq] at ht
        have := congrArg List.length ht
        simpa using this
      exact ⟨by omega, by omega, fun y hy => by rw [List.length_eq_zero_iff.1 h1.1.2] at hy; cases hy⟩
    · rw [if_neg ht] at h1
      simp only [Bool.and_eq_true, decide_eq_true_iff] at h1
      refine ⟨by have := nameB_size h1.1.1.1.1; omega, by omega, fun y hy => ?_⟩
      have ha := h1.1.2
      unfold attrsF at ha
      rw [List.all_eq_true] at ha
      obtain ⟨j, hj, hje⟩ := List.getElem_of_mem hy
      have := ha j (List.mem_range.2 hj)
      unfold attrOk at this
      rw [Bool.and_eq_true] at this
      have e2 : atAt x.f3 j = y := by unfold atAt; rw [List.getD_eq_getElem?_getD, List.getElem?_eq_getElem hj]; exact hje
      rw [e2] at this
      have := nameB_size this.1
      omega
theorem good_build {ts : List Tk} (h : okTs ts) : GoodN (buildF ts).1 (buildF ts).2 := by
  by_cases he : (buildF ts).2 = 0
  · obtain ⟨nx, hd⟩ := build_doc ts (fun t ht => (h.2 t ht).2.1) he
    have hn := build_ns ts (fun t ht => ⟨(h.2 t ht).2.1, (h.2 t ht).2.2.1⟩)
    exact .inl ⟨he, hd.pos, hd.len, ⟨nx, hd⟩, hd.okMy (fun x hx => (hn.2 x hx).1)⟩
  · exact .inr ⟨he, bdF_err ts _ _ he⟩
theorem good_read {s : ByteArray} (h : s.size ≤ 5000) : ∃ l e, tree_Read.f s = some (l, e) ∧ GoodN l e := by
  unfold tree_Read.f token_Read.f
  rw [if_pos (by omega)]
  by_cases h4 : s.size ≤ 4000
  · have hok := okTs_read (l := s.data.toList) (by simpa using h4)
    rw [if_pos h4, Option.bind_some, if_pos rfl]
    have hb : tree_Build.f (readF s.data.toList) = some (buildF (readF s.data.toList)) := if_pos hok
    refine ⟨_, _, ?_, good_build hok⟩
    show (tree_Build.f (readF s.data.toList)).bind _ = _
    rw [hb, Option.bind_some]
  · rw [if_neg h4, Option.bind_some, if_neg (by decide)]
    exact ⟨_, _, rfl, .inr ⟨by decide, rfl⟩⟩
set_option maxRecDepth 100000 in
set_option maxHeartbeats 8000000 in
theorem treeMay_walk (A0 : Option Addr) (c0 : Nat) (l0 : List Tk) (a1 : ByteArray) (w : World) (hr0 : Kd.C k46 w A0 l0.length l0) (hc0 : l0.length ≤ c0) (g0 : goodTs l0) (g1 : a1.size ≤ 140737488351232) :
    Calls Tryz.prog 4 #[.slice A0 l0.length c0, .string a1] w fun e w' => e = .returned (.bool true) ∧ Below w.heap.size w w' := by
  have HR := Lib.hid hr0
  have HC := Lib.hid hc0
  have HG := Lib.hid g0
  clear hr0 hc0 g0
  go_enter Tryz.func4, Tryz.ntmps4
  go_wp2_with (go_at_call 23; refine (scrimlaw05_awake.calls true _ rfl).mono ?_; rintro e w1 ⟨rfl, hb⟩; have HB1 := Lib.hid hb; have HR1 := Lib.hid (Kd.C_below HR.out hb); clear hb)
  obtain ⟨out, m, r1, r2, r3⟩ := own_law l0 HG.out.len HG.out.each l0.length 0 [] 0 (l0.length + 1) (by omega) rfl (by omega) (by omega) (by omega)
  have HO3 := Lib.hid r3
  clear r3
  refine (scrimlaw05_own.calls (l0.length + 1) (fun k_ => k_ < w1.heap.size) A0 c0 l0 out m _ (Kd.V_mk HC.out (Kd.C_F k46_heap HR1.out)) r1).mono ?_
  rintro e w2 ⟨v0, rfl, hn, hb⟩
  obtain ⟨A7, c7, rfl, -, -⟩ := Kd.N_reads hn
  have HB2 := Lib.hid (HB1.out.trans (hb.mono HB1.out.size))
  have HR2 := Lib.hid (Kd.C_below HR1.out hb)
  clear hn hb r1 HB1 HR1
  by_cases h1 : m > 20000
  · go_wp2_with fail
    go_ret
    exact ⟨rfl, HB2.out⟩
  have h1' : m ≤ 20000 := by omega
  clear h1
  by_cases h2 : (l0.length : Int) > 300
  · go_wp2_with fail
    go_ret
    exact ⟨rfl, HB2.out⟩
  have h2' : (l0.length : Int) ≤ 300 := by omega
  clear h2
  by_cases h3 : (a1.size : Int) > 5000
  · go_wp2_with fail
    go_ret
    exact ⟨rfl, HB2.out⟩
  have h3' : (a1.size : Int) ≤ 5000 := by omega
  clear h3
  have hsz := HO3.out h1'
  have hok := HG.out.ok (by omega) (fun j hj => by have := hsz j (Nat.zero_le _) hj; omega)
  have hb0 : tree_Build.f l0 = some ((buildF l0).1, (buildF l0).2) := if_pos hok
  have hg := good_build hok
  obtain ⟨rl, re, hrd, hgr⟩ := good_read (s := a1) (by omega)
  obtain ⟨bl, hbl⟩ : ∃ bl, bl = (buildF l0).1 := ⟨_, rfl⟩
  obtain ⟨be, hbe⟩ : ∃ be, be = (buildF l0).2 := ⟨_, rfl⟩
  rw [← hbl, ← hbe] at hb0 hg
  have HB0 := Lib.hid hb0
  have HRD := Lib.hid hrd
  have HGB := Lib.hid hg
  have HGR := Lib.hid hgr
  clear hsz hok hb0 hg hrd hgr hbl hbe
  go_wp2_with fail
  refine Calls.mono (tree_Build.calls A0 c0 l0 bl be _ HR2.out HC.out HB0.out) ?_
  rintro e w3 ⟨v3, rfl, hs, hb⟩
  have HB3 := Lib.hid (HB2.out.trans (hb.mono HB2.out.size))
  obtain ⟨Ab, cb, rfl, hcb, hrb⟩ := Kd.S_reads hs
  have HCB := Lib.hid hcb
  have HRB := Lib.hid hrb
  clear hs hb hcb hrb
  go_wp2_with fail
  refine Calls.mono (tree_Read.calls a1 rl re _ HRD.out) ?_
  rintro e w4 ⟨v4, rfl, hs, hb⟩
  have HB4 := Lib.hid (HB3.out.trans (hb.mono HB3.out.size))
  have HRB4 := Lib.hid (Kd.C_below HRB.out hb)
  obtain ⟨Ar, cr, rfl, hcr, hrr⟩ := Kd.S_reads hs
  have HCR := Lib.hid hcr
  have HRR := Lib.hid hrr
  clear hs hb hcr hrr HRB HB3
  have HZ := Lib.hid (Below.refl w4.heap.size w4)
  have mayC : ∀ (A : Option Addr) (c : Nat) (l : List Nd), GoodN l 0 → Kd.C k49 w4 A l.length l → l.length ≤ c → 1 ≤ l.length ∧ l.length ≤ 60 ∧ (∀ W : World, Below w4.heap.size w4 W → Calls Tryz.prog 27 #[.slice A l.length c] W fun e w' => e = .returned (.bool true) ∧ Below W.heap.size W w') ∧ ∀ W : World, Below w4.heap.size w4 W → Calls Tryz.prog 28 #[.slice A l.length c] W fun e w' => e = .returned (.bool true) ∧ Below W.heap.size W w' := fun A c l hg hC hc => by
    rcases hg with ⟨-, h1, h60, ⟨nx, hd⟩, hmy⟩ | ⟨h0, -⟩
    · refine ⟨h1, h60, fun W hW => ?_, fun W hW => tmay_calls A c l nx W hd (Kd.C_below hC hW) hc hmy⟩
      have := rmay_calls A c l W (Kd.C_below hC hW) hc (by omega) hmy
      rw [hd.may] at this
      exact this
    · exact absurd rfl h0
  have MC := Lib.hid mayC
  clear mayC
  have nil : ∀ (l : List Nd) (e : Int), GoodN l e → ¬ e = 0 → l.length = 0 := fun l e hg h0 => by
    rcases hg with ⟨h, -⟩ | ⟨-, h⟩
    · exact absurd h h0
    · rw [h]; rfl
  have NI := Lib.hid nil
  clear nil
  by_cases hb : be = 0
  · obtain ⟨b1, b60, c1, c2⟩ := MC.out Ab cb bl (hb ▸ HGB.out) HRB4.out HCB.out
    have C1 := Lib.hid c1
    have C2 := Lib.hid c2
    have vb : (be == 0) = true := by rw [beq_iff_eq]; exact hb
    have vb' : (be != 0) = false := by rw [bne_eq_false_iff_eq]; exact hb
    have vl : (0 : Int) < (bl.length : Int) := by omega
    have vln : decide (0 < bl.length) = true := decide_eq_true (by omega)
    clear c1 c2 hb
    by_cases hr : re = 0
    · obtain ⟨r1, r60, c1, c2⟩ := MC.out Ar cr rl (hr ▸ HGR.out) HRR.out HCR.out
      have C3 := Lib.hid c1
      have C4 := Lib.hid c2
      have vr : (re == 0) = true := by rw [beq_iff_eq]; exact hr
      have vr' : (re != 0) = false := by rw [bne_eq_false_iff_eq]; exact hr
      have vlr : (0 : Int) < (rl.length : Int) := by omega
      have vlrn : decide (0 < rl.length) = true := decide_eq_true (by omega)
      clear c1 c2 hr
      go_wp2_with (first
        | (go_at_call 27; (with_reducible refine (C1.out _ HZ.out).mono ?_); rintro e w5 ⟨rfl, hb5⟩; have HZ2 := Lib.hid (HZ.out.trans (hb5.mono HZ.out.size)); clear HZ hb5; have HZ := HZ2; clear HZ2)
        | (go_at_call 28; (with_reducible refine (C2.out _ HZ.out).mono ?_); rintro e w5 ⟨rfl, hb5⟩; have HZ2 := Lib.hid (HZ.out.trans (hb5.mono HZ.out.size)); clear HZ hb5; have HZ := HZ2; clear HZ2)
        | (go_at_call 27; (with_reducible refine (C3.out _ HZ.out).mono ?_); rintro e w5 ⟨rfl, hb5⟩; have HZ2 := Lib.hid (HZ.out.trans (hb5.mono HZ.out.size)); clear HZ hb5; have HZ := HZ2; clear HZ2)
        | (go_at_call 28; (with_reducible refine (C4.out _ HZ.out).mono ?_); rintro e w5 ⟨rfl, hb5⟩; have HZ2 := Lib.hid (HZ.out.trans (hb5.mono HZ.out.size)); clear HZ hb5; have HZ := HZ2; clear HZ2))
      go_ret
      exact ⟨rfl, HB4.out.trans (HZ.out.mono HB4.out.size)⟩
    · have vlr0 := NI.out _ _ HGR.out hr
      have vlr : ¬ (0 : Int) < (rl.length : Int) := by omega
      have vlrn : decide (0 < rl.length) = false := decide_eq_false (by omega)
      clear vlr0
      have vr : (re == 0) = false := by rw [beq_eq_false_iff_ne]; exact hr
      have vr' : (re != 0) = true := by rw [bne_iff_ne]; exact hr
      clear hr
      go_wp2_with (first
        | (go_at_call 27; (with_reducible refine (C1.out _ HZ.out).mono ?_); rintro e w5 ⟨rfl, hb5⟩; have HZ2 := Lib.hid (HZ.out.trans (hb5.mono HZ.out.size)); clear HZ hb5; have HZ := HZ2; clear HZ2)
        | (go_at_call 28; (with_reducible refine (C2.out _ HZ.out).mono ?_); rintro e w5 ⟨rfl, hb5⟩; have HZ2 := Lib.hid (HZ.out.trans (hb5.mono HZ.out.size)); clear HZ hb5; have HZ := HZ2; clear HZ2))
      go_ret
      exact ⟨rfl, HB4.out.trans (HZ.out.mono HB4.out.size)⟩
  · have vlb0 := NI.out _ _ HGB.out hb
    have vl : ¬ (0 : Int) < (bl.length : Int) := by omega
    have vln : decide (0 < bl.length) = false := decide_eq_false (by omega)
    clear vlb0
    have vb : (be == 0) = false := by rw [beq_eq_false_iff_ne]; exact hb
    have vb' : (be != 0) = true := by rw [bne_iff_ne]; exact hb
    clear hb
    by_cases hr : re = 0
    · obtain ⟨r1, r60, c1, c2⟩ := MC.out Ar cr rl (hr ▸ HGR.out) HRR.out HCR.out
      have C3 := Lib.hid c1
      have C4 := Lib.hid c2
      have vr : (re == 0) = true := by rw [beq_iff_eq]; exact hr
      have vr' : (re != 0) = false := by rw [bne_eq_false_iff_eq]; exact hr
      have vlr : (0 : Int) < (rl.length : Int) := by omega
      have vlrn : decide (0 < rl.length) = true := decide_eq_true (by omega)
      clear c1 c2 hr
      go_wp2_with (first
        | (go_at_call 27; (with_reducible refine (C3.out _ HZ.out).mono ?_); rintro e w5 ⟨rfl, hb5⟩; have HZ2 := Lib.hid (HZ.out.trans (hb5.mono HZ.out.size)); clear HZ hb5; have HZ := HZ2; clear HZ2)
        | (go_at_call 28; (with_reducible refine (C4.out _ HZ.out).mono ?_); rintro e w5 ⟨rfl, hb5⟩; have HZ2 := Lib.hid (HZ.out.trans (hb5.mono HZ.out.size)); clear HZ hb5; have HZ := HZ2; clear HZ2))
      go_ret
      exact ⟨rfl, HB4.out.trans (HZ.out.mono HB4.out.size)⟩
    · have vlr0 := NI.out _ _ HGR.out hr
      have vlr : ¬ (0 : Int) < (rl.length : Int) := by omega
      have vlrn : decide (0 < rl.length) = false := decide_eq_false (by omega)
      clear vlr0
      have vr : (re == 0) = false := by rw [beq_eq_false_iff_ne]; exact hr
      have vr' : (re != 0) = true := by rw [bne_iff_ne]; exact hr
      clear hr
      go_wp2_with fail
      go_ret
      exact ⟨rfl, HB4.out⟩
end Go.Proofs.YtkjgnkmnngaioaaGreat.Q
namespace Go.Proofs.YtkjgnkmnngaioaaGreat.treeMay
open Go.ChangeShapes Go.WideShapes Go.ChangeAt Go.RowKit Go.Proofs.YtkjgnkmnngaioaaGreat.Open Go.Proofs.YtkjgnkmnngaioaaGreat.Q Go.Proofs.YtkjgnkmnngaioaaGreatW.PrintWords
open Go.ChangeMaps (open_string shut_string)
set_option linter.unusedVariables false
theorem own : ownKnob Tryz.prog.godebug = none := by kernel_rfl
theorem laidOut : laidOutB Tryz.prog = true := by kernel_rfl
set_option maxRecDepth 100000 in
theorem lifted (os : Os) (started : os.Started) (H : Type) (enc : TypeId × Value → H) :
    ReturnsInHanded {} Tryz.checked os 4 .any (Rows.treeMaySpec.pre6 enc Tryz.prog Tryz.f4 Rows.treeMayRow.domain false) (Rows.treeMaySpec.post enc Tryz.prog Tryz.f4 false true false false) := by
  refine returnsInHanded_of_change_sized (C := Tryz.checked) own started (by kernel_rfl) Tryz.func4
    (ChangeSpec.witness6 (enc := enc) (C := Tryz.checked) false ⟨#[], #[.slice none 0 0, .string ByteArray.empty], []⟩ 8 (by kernel_rfl) (by kernel_rfl) (by kernel_rfl) (by kernel_rfl)) ?_
  intro W base args ds gs before hval0 hW hcnd hsz0 _
  have hsz : (DataW.weightsEach Tryz.prog (Tryz.f4.params.toList ++ Rows.treeMaySpec.plain.varTypes Tryz.prog) (ds ++ gs)).all (· ≤ reachBytes) = true := hsz0
  have hval : ∀ (j : Nat) t v, Tryz.f4.params[j]? = some t → args[j]? = some v → Value.okWide Tryz.prog W .any base t v := hval0
  have hW' := hW
  obtain ⟨p, q, hA0, hV, rfl, hfz, hnd⟩ := hW
  have hA : DataW.TrodAll enc Tryz.prog W 0 (fun _ => true) true Tryz.f4.params.toList args.toList ds p := hA0
  rw [Tryz.params4] at hA hval hsz
  obtain ⟨v0, vs0, d0, ds0, p0, q0, hargs, rfl, rfl, h0, r0⟩ := trodAll_cons hA
  obtain ⟨v1, vs1, d1, ds1, p1, q1, rfl, rfl, rfl, h1, r1⟩ := trodAll_cons r0
  obtain ⟨rfl, rfl, rfl⟩ := trodAll_nil r1
  obtain rfl : args = #[v0, v1] := by cases args; simp_all
  obtain ⟨rfl, rfl⟩ := trodVars_none hV
  have lt0 : ∀ x ∈ p0, x.block < W.heap.size := by obtain ⟨m, hm⟩ := h0; exact DataW.trod_lt m _ _ _ hm
  obtain ⟨A0, len0, c0, rfl⟩ := okWide_slice Tryz.underlying23 (hval 0 23 v0 rfl rfl)
  obtain ⟨l0, ⟨A0', c0', cs0, hc0, hr0⟩, g0⟩ := Q.opTs.of h0 (fun n hn => by simpa using List.all_eq_true.1 hsz n (DataW.weights_mem_each (j := 0) rfl rfl n hn))
  simp only [Value.cells, List.cons.injEq, Value.slice.injEq, and_true] at cs0
  obtain ⟨rfl, rfl, rfl⟩ := cs0
  obtain ⟨a1, rfl, rfl, rfl, g1⟩ := open_string Tryz.underlying9 (hval 1 9 v1 rfl rfl) h1
  have w1 : a1.size ≤ 140737488351232 := by
    have z := sized_string hsz (j := 1) (t := 9) rfl rfl
    rw [Array.length_toList] at z
    exact z
  clear hA0 hval0 hsz0 hsz
  refine (Q.treeMay_walk A0 c0 l0 a1 W hr0 hc0 g0 w1).mono fun e W' ⟨he, bel⟩ => ?_
  subst he
  exact ⟨_, rfl, _, _, _, [], _, [], hW', trodAll_mk1 (shut_bool Tryz.underlying4 _), (trodAll_cons_mk (Below.trod laidOut (by kernel_rfl) (of_decide_eq_true (by kernel_rfl)) h0 bel lt0) (trodAll_cons_mk (shut_string Tryz.underlying9 g1) trodAll_mk0)), rfl, bel.frame _, fun h => by cases h⟩
theorem over : Rows.treeMayRow.holds Tryz.pinned (OpenSpec.ofChange Rows.treeMaySpec) :=
  OpenClaim.holds_of_wide 4 Tryz.f4 rfl rfl rfl rfl rfl rfl rfl ⟨rfl, rfl, rfl, rfl, rfl⟩ rfl rfl rfl rfl rfl (by kernel_rfl) Tryz.func4 (by kernel_rfl)
    (of_decide_eq_true (by kernel_rfl)) (by unfold Func.isWrapper; first | (rw [if_pos (by decide +kernel)]; kernel_rfl) | (rw [if_neg (by decide +kernel)]; exact ⟨rfl, rfl⟩))
    (fun os started H enc _ => lifted os started H enc)
theorem proved : Rows.TreeMaySaid := over
end Go.Proofs.YtkjgnkmnngaioaaGreat.treeMay
namespace Go.Proofs.YtkjgnkmnngaioaaGreat
/-- The row, under a short name, for the claim. -/
theorem treeMay_holds : Rows.TreeMaySaid := treeMay.proved
end Go.Proofs.YtkjgnkmnngaioaaGreat
