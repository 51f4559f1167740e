/- The rows of pieces: what goes through them (rows, an iterator), as a contract for every loop body. -/
import Derived.Test.YthkipbnigokcfaaLnB
import Derived.RangeFuncNested
import Derived.RangeFuncBound
import Derived.RangeFuncCalls
import Derived.RangeFuncLeaves
import Derived.RangeFuncFrom
import Derived.Shelf.Abstract
import Derived.OwnWalkIn
import Derived.TacticsInMore
import Derived.LoopNIn
import Derived.LoopIn
namespace Go.Proofs.Ythkipbnigokcfaa.Q
open Go.RowKit Go.Shelf Go.IntWalk Go.Proofs.Ythkipbnigokcfaa.Mem Go.Proofs.YthkipbnigokcfaaW.PrintWords Go.Proofs.YthkipbnigokcfaaW.PrintLast Go.Proofs.YthkipbnigokcfaaW.PrintMore
set_option linter.unusedVariables false
set_option linter.unusedSimpArgs false
attribute [local go_sem] Oper.semAt_some

/-- A row: where it begins, and how many. -/
abbrev Rw (L : Nat) := { x : Nat × Nat // 0 < x.2 ∧ x.1 + x.2 ≤ L }
def mkR (L from_ n : Nat) : List (Rw L) := if h : 0 < n ∧ from_ + n ≤ L then [⟨(from_, n), h⟩] else []
def itr (l : List Pc) : Nat → List (Rw l.length) × Nat
  | 0 => ([], 0)
  | k + 1 => if k + 1 < l.length ∧ (pc l (k + 1)).f5 = false then itr l k else ((itr l k).1 ++ mkR l.length (itr l k).2 (k + 1 - (itr l k).2), k + 1)
theorem itr_le (l : List Pc) : ∀ k, (itr l k).2 ≤ k ∧ (itr l k).1.length ≤ k
  | 0 => ⟨Nat.le_refl _, Nat.le_refl _⟩
  | k + 1 => by
    have := itr_le l k
    unfold itr
    split
    · omega
    · refine ⟨Nat.le_refl _, ?_⟩
      have : (mkR l.length (itr l k).2 (k + 1 - (itr l k).2)).length ≤ 1 := by unfold mkR; split <;> simp
      simp; omega
theorem mkR_one {L from_ n : Nat} (h : 0 < n ∧ from_ + n ≤ L) : mkR L from_ n = [⟨(from_, n), h⟩] := by unfold mkR; rw [dif_pos h]
def encR (A : Option Addr) {L : Nat} (x : Rw L) : Array Value := #[.int .i64 (x.1.1 : Int), .slice (A.map (·.add (x.1.1 * 6))) x.1.2 x.1.2]

theorem rows_calls (A : Option Addr) (n c : Nat) (w : World) :
    Calls Try.prog 18 #[.slice A n c] w fun e w' => e = .returned (.func (.func 24) #[] #[.pointer (some ⟨w.heap.size, 0, none⟩)]) ∧ w' = w.alloc (.cells #[.slice A n c] 22) := by
  go_enter Try.func18, Try.ntmps18
  go_wp2
  go_ret
  exact ⟨rfl, rfl⟩

def ItEnd (l : List Pc) (J Jx : List (Rw l.length) → World → Prop) (W' : World) : Prop := (∃ k ys, k = l.length ∧ ys = (itr l k).1 ∧ J ys W') ∨ (∃ pre, True ∧ Jx pre W')
/-- What a round that goes on keeps: what lay below, and the box of the pieces. -/
def KpB (n0 Bs : Nat) (W W' : World) : Prop := Below n0 W W' ∧ ∀ (cs : Array Value) (T : TypeId), Blk W Bs cs T → Blk W' Bs cs T
theorem itr_skip {l : List Pc} {k : Nat} (h : k + 1 < l.length) (hb : (pc l (k + 1)).f5 = false) : itr l (k + 1) = itr l k := by
  rw [itr, if_pos ⟨h, hb⟩]
theorem itr_take {l : List Pc} {k : Nat} (hk : k + 1 ≤ l.length) (h : ¬ (k + 1 < l.length ∧ (pc l (k + 1)).f5 = false)) :
    itr l (k + 1) = ((itr l k).1 ++ [⟨((itr l k).2, k + 1 - (itr l k).2), by have := (itr_le l k).1; simp; omega⟩], k + 1) := by
  rw [itr, if_neg h, mkR_one (by have := (itr_le l k).1; omega)]

set_option maxRecDepth 100000 in
set_option maxHeartbeats 4000000 in
theorem rows_in (F : Fence) (n : Nat) (h24 : F.fn 24) (hro : F.round = none) (hn : 1 ≤ n) (r Bs : Nat) (ad : Addr) (c : Nat) (l : List Pc) (w0 : World) (hC : Kd.C k32 w0 (some ad) l.length l) (hL : l.length ≤ 1000000) (hc : l.length ≤ c)
    (J Jx : List (Rw l.length) → World → Prop)
    (hY : ∀ pre x W, J pre W → pre.length < l.length → YieldAt F (n - 1) Try.prog r (encR (some ad) x) W fun e W' =>
      (e = .returned (.bool true) ∧ J (pre ++ [x]) W' ∧ KpB w0.heap.size Bs W W') ∨ (e = .returned (.bool false) ∧ Jx (pre ++ [x]) W'))
    (W : World) (hW : Below w0.heap.size w0 W) (hBs : Blk W Bs #[.slice (some ad) l.length c] 22) (h0 : J [] W) :
    CallsIn F n Try.prog 24 #[.func (.yield r) #[] #[], .pointer (some ⟨Bs, 0, none⟩)] W fun e W' => (∃ v, e = .returned v) ∧ ItEnd l J Jx W' := by
  have HC := Lib.hid hC
  have HY := Lib.hid hY
  have HBS := Lib.hid hBs
  have HW := Lib.hid hW
  have hi1 : (1 : Int) ≤ 1 := Int.le_refl _
  clear hC hY hBs hW
  refine callsIn_of_wp Try.func24 rfl h24 ?_ hro
  simp only [Try.ntmps24, List.size_toArray, List.length_cons, List.length_nil, Nat.reduceAdd, Nat.reduceSub, Array.replicate_succ, Array.replicate_zero, List.push_toArray, List.append_toArray, List.nil_append, List.cons_append]
  gi_wp2
  gi_loopw [3, 4] (fun f i wr => ∃ k : Nat, k ≤ l.length ∧ i = .int .i64 ((k : Int) + 1) ∧ f = .int .i64 ((itr l k).2 : Nat) ∧ J (itr l k).1 wr ∧ Hid (Below w0.heap.size w0 wr) ∧ Hid (Blk wr Bs #[.slice (some ad) l.length c] 22))
    (fun _ i _ => l.length + 1 - (intOf i).toNat)
  case atStart => exact ⟨0, Nat.zero_le _, by simp, rfl, h0, HW, HBS⟩
  case round =>
    obtain ⟨k, hk, rfl, rfl, hJs, HB, HX⟩ := hrel
    have y0 := HX.out.cell 0
    simp only [List.getElem?_toArray, List.getElem?_cons_zero] at y0
    by_cases hlt : k < l.length
    · by_cases hb : k + 1 < l.length ∧ (pc l (k + 1)).f5 = false
      · obtain ⟨hb1, hb2⟩ := hb
        have hit := Lib.hid (itr_skip hb1 hb2)
        obtain ⟨ad', h', -, -, -, -, -, e5⟩ := at_T32 (Kd.C_below HC.out HB.out) ((k + 1 : Nat) : Int) (by omega) (by omega)
        obtain rfl := Option.some.inj h'
        have hrd : rd_T32 l ((k + 1 : Nat) : Int) = pc l (k + 1) := by unfold rd_T32 pc; rw [Int.toNat_natCast]
        rw [hrd, hb2, Int.toNat_natCast] at e5
        have i1 : (k : Int) + 1 < (l.length : Int) := by omega
        have i2 : (0 : Int) ≤ (k : Int) + 1 := by omega
        have i3 : ((k : Int) + 1).toNat = k + 1 := by omega
        clear h' hrd hb2
        gi_wp2
        go_roundw
        case rel => exact ⟨k + 1, by omega, by go_num, by rw [hit.out], by rw [hit.out]; exact hJs, HB, HX⟩
        case measure => simp [intOf]; omega
      · have hit := Lib.hid (itr_take (show k + 1 ≤ l.length by omega) hb)
        have hfr := (itr_le l k).1
        have hpl := (itr_le l k).2
        obtain ⟨fn, tmps, assign, body, hy, hR⟩ := HY.out (itr l k).1 ⟨((itr l k).2, k + 1 - (itr l k).2), by simp; omega⟩ wr hJs (by omega)
        simp only [encR, Option.map_some] at hy
        obtain ⟨f, hf⟩ : ∃ f, f = (itr l k).2 := ⟨_, rfl⟩
        rw [← hf] at hy hfr ⊢
        have HF := Lib.hid hf
        have HR := Lib.hid hR
        clear hf hR
        have i1 : (0 : Int) ≤ (f : Int) := by omega
        have i2 : (f : Int) ≤ (k : Int) + 1 := by omega
        have i3 : (k : Int) + 1 ≤ (c : Int) := by omega
        have i4 : ((k : Int) + 1).toNat = k + 1 := by omega
        have i5 : (k : Int) + 1 ≤ (l.length : Int) := by omega
        rcases Nat.lt_or_ge (k + 1) l.length with hk1 | hk1
        · obtain ⟨ad', h', -, -, -, -, -, e5⟩ := at_T32 (Kd.C_below HC.out HB.out) ((k + 1 : Nat) : Int) (by omega) (by omega)
          obtain rfl := Option.some.inj h'
          have hrd : rd_T32 l ((k + 1 : Nat) : Int) = pc l (k + 1) := by unfold rd_T32 pc; rw [Int.toNat_natCast]
          have hbt : (pc l (k + 1)).f5 = true := by
            cases hq : (pc l (k + 1)).f5 with
            | true => rfl
            | false => exact (hb ⟨hk1, hq⟩).elim
          rw [hrd, hbt, Int.toNat_natCast] at e5
          have i6 : (k : Int) + 1 < (l.length : Int) := by omega
          clear h' hrd hbt hb
          gi_wp2
          refine HR.out.mono ?_
          rintro e W3 (⟨rfl, hJ3, hk3⟩ | ⟨rfl, hJx3⟩)
          · have HJ3 := Lib.hid hJ3
            have HB3 := Lib.hid hk3.1
            have HX3 := Lib.hid (hk3.2 _ _ HX.out)
            clear hJ3 hk3
            gi_wp2
            go_roundw
            case rel => exact ⟨k + 1, by omega, by go_num, by rw [hit.out]; simp, by rw [hit.out]; simpa only [HF.out] using HJ3.out, Lib.hid (HB.out.trans HB3.out), HX3⟩
            case measure => simp [intOf]; omega
          · gi_wp2
            refine bodyPost_ret (results_none rfl _ _ _) rfl ?_
            exact ⟨⟨_, rfl⟩, .inr ⟨_, trivial, hJx3⟩⟩
        · have hk2 : k + 1 = l.length := by omega
          have i6 : decide ((k : Int) + 1 < (l.length : Int)) = false := decide_eq_false (by omega)
          clear hb hk2
          gi_wp2
          refine HR.out.mono ?_
          rintro e W3 (⟨rfl, hJ3, hk3⟩ | ⟨rfl, hJx3⟩)
          · have HJ3 := Lib.hid hJ3
            have HB3 := Lib.hid hk3.1
            have HX3 := Lib.hid (hk3.2 _ _ HX.out)
            clear hJ3 hk3
            gi_wp2
            go_roundw
            case rel => exact ⟨k + 1, by omega, by go_num, by rw [hit.out]; simp, by rw [hit.out]; simpa only [HF.out] using HJ3.out, Lib.hid (HB.out.trans HB3.out), HX3⟩
            case measure => simp [intOf]; omega
          · gi_wp2
            refine bodyPost_ret (results_none rfl _ _ _) rfl ?_
            exact ⟨⟨_, rfl⟩, .inr ⟨_, trivial, hJx3⟩⟩
    · have hkl : Hid (k = l.length) := Lib.hid (by omega)
      have i6 : ¬ ((k : Int) + 1 ≤ (l.length : Int)) := by omega
      gi_wp2
      go_end0
      exact ⟨⟨_, rfl⟩, .inl ⟨_, _, hkl.out, rfl, hJs⟩⟩
end Go.Proofs.Ythkipbnigokcfaa.Q
