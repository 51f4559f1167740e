/- The reference's meter. -/
import Derived.Test.YtgppemaekgnnfaaMt3
import Derived.Test.YtgppemaekgnnfaaWMore
namespace Go.Proofs.Ytgppemaekgnnfaa.Mt
open Go.RowKit Go.Proofs.Ytgppemaekgnnfaa.Mem Go.Proofs.YtgppemaekgnnfaaW.PrintWords Go.Proofs.YtgppemaekgnnfaaW.PrintLast Go.Proofs.YtgppemaekgnnfaaW.PrintMore
set_option linter.unusedVariables false
attribute [local go_sem] max2_int min2_int max_two min_two max_three min_three

theorem rbound_calls (a b c : Int) (w : World) :
    Calls Try.prog 15 #[.int .i64 a, .int .i64 b, .int .i64 c] w fun e w' => e = .returned (.int .i64 (boundF a b c)) ∧ w = w' := by
  by_cases h : (bad a || bad b || bad c) = true
  · have hf : boundF a b c = 0 := by unfold boundF; rw [if_pos h]
    rw [hf]
    have H : Hid ((a < 0 ∨ 1048576 < a) ∨ (b < 0 ∨ 1048576 < b) ∨ (c < 0 ∨ 1048576 < c)) := by
      unfold Hid
      unfold bad at h
      simp at h
      omega
    clear h hf
    go_enter Try.func15, Try.ntmps15
    go_wp2
    all_goals first | (go_ret; exact ⟨rfl, rfl⟩) | (exfalso; have := H.out; (repeat' split at *) <;> omega)
  · have hf : boundF a b c = a * (b + a) + c + 1 := by unfold boundF; rw [if_neg h, Int.mul_add]
    rw [hf]
    simp only [Bool.or_eq_true, not_or, Bool.not_eq_true] at h
    obtain ⟨⟨ha, hb⟩, hc⟩ := h
    obtain ⟨a0, a1⟩ := bad_bd ha
    obtain ⟨b0, b1⟩ := bad_bd hb
    obtain ⟨c0, c1⟩ := bad_bd hc
    have m0 := Int.mul_nonneg a0 (show 0 ≤ b + a by omega)
    have m1 : a * (b + a) ≤ 1048576 * 2097152 := Int.mul_le_mul a1 (by omega) (by omega) (by decide)
    have m2 : a * (b + a) ≤ 2199023255552 := Int.le_trans m1 (by decide)
    clear ha hb hc hf m1
    go_enter Try.func15, Try.ntmps15
    go_wp2
    all_goals first | (go_ret; exact ⟨rfl, rfl⟩) | (exfalso; (repeat' split at *) <;> omega)

/-- The reference's meter in memory. -/
def RMtr (w : World) (b : Nat) (lim lf : Int) (ov : Bool) : Prop := Blk w b #[.int .i64 lim, .int .i64 lf, .bool ov] 35

structure RNewP (n : Int) (w : World) (e : Ending) (w' : World) : Prop where
  e : e = .returned (.tuple #[.pointer (some ⟨w.heap.size, 0, none⟩), .int .i64 0])
  blk : RMtr w' w.heap.size n n false
  below : Below w.heap.size w w'
theorem rnew_ok (n : Int) (w : World) (l0 : 0 ≤ n) (l1 : n ≤ 1099511627776) : Calls Try.prog 13 #[.int .i64 n] w (RNewP n w) := by
  go_enter Try.func13, Try.ntmps13
  go_wp2
  go_ret2
  exact ⟨rfl, Blk.alloc _ _ _, (Below.refl _ _).alloc (Nat.le_refl _) _⟩
theorem rnew_no (n : Int) (w : World) (h : n < 0 ∨ 1099511627776 < n) : Calls Try.prog 13 #[.int .i64 n] w fun e w' => e = .returned (.tuple #[.pointer none, .int .i64 1]) ∧ w = w' := by
  by_cases h0 : n < 0
  · clear h
    go_enter Try.func13, Try.ntmps13
    go_wp2
    go_ret2
    exact ⟨rfl, rfl⟩
  · have h1 : 1099511627776 < n := by omega
    clear h
    go_enter Try.func13, Try.ntmps13
    go_wp2
    go_ret2
    exact ⟨rfl, rfl⟩

structure RTakeP (b : Nat) (lim lf' : Int) (ov' r : Bool) (w : World) (e : Ending) (w' : World) : Prop where
  e : e = .returned (.bool r)
  blk : RMtr w' b lim lf' ov'
  but : But b w w'
set_option maxHeartbeats 400000 in
theorem rtake_calls (b : Nat) (lim tk n : Int) (ov : Bool) (w : World) (hb : RMtr w b lim (lim - tk) ov) (l1 : lim ≤ 1099511627776) (t0 : 0 ≤ tk) (t1 : tk ≤ lim) (n1 : n ≤ 9223372036854775807) :
    Calls Try.prog 17 #[.pointer (some ⟨b, 0, none⟩), .int .i64 n] w (RTakeP b lim (lim - takeT lim tk ov n) (takeO lim tk ov n) (takeR lim tk ov n) w) := by
  have h0 := hb.cell 0
  have h1 := hb.cell 1
  have h2 := hb.cell 2
  have f0 := hb.free 0
  have f1 := hb.free 1
  have f2 := hb.free 2
  simp at h0 h1 h2
  have HB := Lib.hid hb
  clear hb
  cases ov
  · by_cases hn : n < 0
    · simp [takeT, takeO, takeR, hn]
      go_enter Try.func17, Try.ntmps17
      go_wp2
      go_ret
      exact ⟨rfl, HB.out, But.refl _ _⟩
    · by_cases hm : n > lim - tk
      · have hnm : ¬ n ≤ lim - tk := by omega
        have e : lim - lim = 0 := by omega
        simp [takeT, takeO, takeR, hn, hm, hnm]
        go_enter Try.func17, Try.ntmps17
        go_wp2
        go_ret
        exact ⟨rfl, (HB.out.set 2 _).set 1 _, ((But.refl _ _).setCell _ _).setCell _ _⟩
      · have hnm : n ≤ lim - tk := by omega
        simp [takeT, takeO, takeR, hn, hm, hnm]
        go_enter Try.func17, Try.ntmps17
        go_wp2
        go_ret
        have e : lim - tk - n = lim - (tk + n) := by omega
        have hs := HB.out.set 1 (.int .i64 (lim - tk - n))
        refine ⟨rfl, ?_, (But.refl _ _).setCell _ _⟩
        rw [e] at hs
        rw [e]
        exact hs
  · simp [takeT, takeO, takeR]
    go_enter Try.func17, Try.ntmps17
    go_wp2
    go_ret
    exact ⟨rfl, HB.out, But.refl _ _⟩
end Go.Proofs.Ytgppemaekgnnfaa.Mt
