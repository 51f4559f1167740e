/- The functions of package meter, and of its reference: what each computes, and that the Go code computes it. -/
import Derived.Test.YtgppemaekgnnfaaProg
import Derived.Test.YtgppemaekgnnfaaMem
import Derived.WalkKit
import Derived.OwnWalk
import Derived.KernelRfl
import Derived.RowKit3
import Derived.Deep.QuietTactic
import Derived.BigQuiet
import Derived.WideLaws
import Derived.Deep.LoopGhost
namespace Go.Proofs.Ytgppemaekgnnfaa.Mt
open Go.RowKit Go.Proofs.Ytgppemaekgnnfaa.Mem
set_option linter.unusedVariables false

/-- What a meter has taken behind a take, whether it is over, and what it answers. -/
def takeT (lim tk : Int) (ov : Bool) (n : Int) : Int := if ov = true then tk else if n < 0 then tk else if n > lim - tk then lim else tk + n
def takeO (lim tk : Int) (ov : Bool) (n : Int) : Bool := if ov = true then true else if n < 0 then false else decide (n > lim - tk)
def takeR (lim tk : Int) (ov : Bool) (n : Int) : Bool := if ov = true then false else if n < 0 then false else decide (n ≤ lim - tk)

theorem takeT_bd {lim tk n : Int} {ov : Bool} (h0 : 0 ≤ tk) (h1 : tk ≤ lim) : 0 ≤ takeT lim tk ov n ∧ takeT lim tk ov n ≤ lim := by
  unfold takeT; split
  · omega
  · split
    · omega
    · split <;> omega

/-- A meter in memory. -/
def Mtr (w : World) (b : Nat) (lim tk : Int) (ov : Bool) : Prop := Blk w b #[.int .i64 lim, .int .i64 tk, .bool ov] 50

structure TakeP (b : Nat) (lim tk' : Int) (ov' r : Bool) (w : World) (e : Ending) (w' : World) : Prop where
  e : e = .returned (.bool r)
  blk : Mtr w' b lim tk' ov'
  but : But b w w'

theorem taken_calls (b : Nat) (lim tk : Int) (ov : Bool) (w : World) (hb : Mtr w b lim tk ov) :
    Calls Try.prog 18 #[.pointer (some ⟨b, 0, none⟩)] w fun e w' => e = .returned (.int .i64 tk) ∧ w = w' := by
  have h1 := hb.cell 1
  simp at h1
  clear hb
  go_enter Try.func18, Try.ntmps18
  go_wp2
  go_ret
  exact ⟨rfl, rfl⟩

theorem over_calls (b : Nat) (lim tk : Int) (ov : Bool) (w : World) (hb : Mtr w b lim tk ov) :
    Calls Try.prog 20 #[.pointer (some ⟨b, 0, none⟩)] w fun e w' => e = .returned (.bool ov) ∧ w = w' := by
  have h1 := hb.cell 2
  simp at h1
  clear hb
  go_enter Try.func20, Try.ntmps20
  go_wp2
  go_ret
  exact ⟨rfl, rfl⟩

theorem left_calls (b : Nat) (lim tk : Int) (ov : Bool) (w : World) (hb : Mtr w b lim tk ov) (l1 : lim ≤ 1099511627776) (t0 : 0 ≤ tk) (t1 : tk ≤ lim) :
    Calls Try.prog 19 #[.pointer (some ⟨b, 0, none⟩)] w fun e w' => e = .returned (.int .i64 (lim - tk)) ∧ ∃ n, w.drewN n = w' := by
  have h0 := hb.cell 0
  have h1 := hb.cell 1
  simp at h0 h1
  clear hb
  go_enter Try.func19, Try.ntmps19
  go_wp2
  go_quiet (fail)
  go_wp2
  go_ret
  exact ⟨rfl, _, rfl⟩

set_option maxHeartbeats 400000 in
theorem take_calls (b : Nat) (lim tk n : Int) (ov : Bool) (w : World) (hb : Mtr w b lim tk ov) (l1 : lim ≤ 1099511627776) (t0 : 0 ≤ tk) (t1 : tk ≤ lim) (n1 : n ≤ 9223372036854775807) :
    Calls Try.prog 16 #[.pointer (some ⟨b, 0, none⟩), .int .i64 n] w (TakeP b lim (takeT lim tk ov n) (takeO lim tk ov n) (takeR lim tk ov n) w) := by
  have h0 := hb.cell 0
  have h1 := hb.cell 1
  have h2 := hb.cell 2
  have f0 := hb.free 0
  have f1 := hb.free 1
  have f2 := hb.free 2
  simp at h0 h1 h2
  have HB := Lib.hid hb
  clear hb
  cases ov
  · by_cases hn : n < 0
    · simp [takeT, takeO, takeR, hn]
      go_enter Try.func16, Try.ntmps16
      go_wp2
      go_ret
      exact ⟨rfl, HB.out, But.refl _ _⟩
    · by_cases hm : n > lim - tk
      · have hnm : ¬ n ≤ lim - tk := by omega
        simp [takeT, takeO, takeR, hn, hm, hnm]
        go_enter Try.func16, Try.ntmps16
        go_wp2_with (go_at_call 19; refine (left_calls _ _ _ _ _ HB.out (by assumption) (by assumption) (by assumption)).mono ?_; rintro e w' ⟨rfl, nq, rfl⟩)
        go_ret
        exact ⟨rfl, ((HB.out.drewN _).set 1 _).set 2 _, (((But.refl _ _).drewN _).setCell _ _).setCell _ _⟩
      · have hnm : n ≤ lim - tk := by omega
        simp [takeT, takeO, takeR, hn, hm, hnm]
        go_enter Try.func16, Try.ntmps16
        go_wp2_with (go_at_call 19; refine (left_calls _ _ _ _ _ HB.out (by assumption) (by assumption) (by assumption)).mono ?_; rintro e w' ⟨rfl, nq, rfl⟩)
        go_ret
        exact ⟨rfl, (HB.out.drewN _).set 1 _, ((But.refl _ _).drewN _).setCell _ _⟩
  · simp [takeT, takeO, takeR]
    go_enter Try.func16, Try.ntmps16
    go_wp2
    go_ret
    exact ⟨rfl, HB.out, But.refl _ _⟩

structure NewP (n : Int) (w : World) (e : Ending) (w' : World) : Prop where
  e : e = .returned (.tuple #[.pointer (some ⟨w.heap.size, 0, none⟩), .int .i64 0])
  blk : Mtr w' w.heap.size n 0 false
  below : Below w.heap.size w w'

theorem new_ok (n : Int) (w : World) (l0 : 0 ≤ n) (l1 : n ≤ 1099511627776) : Calls Try.prog 12 #[.int .i64 n] w (NewP n w) := by
  go_enter Try.func12, Try.ntmps12
  go_wp2
  go_ret2
  exact ⟨rfl, Blk.alloc _ _ _, (Below.refl _ _).alloc (Nat.le_refl _) _⟩
theorem new_no (n : Int) (w : World) (h : n < 0 ∨ 1099511627776 < n) : Calls Try.prog 12 #[.int .i64 n] w fun e w' => e = .returned (.tuple #[.pointer none, .int .i64 1]) ∧ w = w' := by
  by_cases h0 : n < 0
  · clear h
    go_enter Try.func12, Try.ntmps12
    go_wp2
    go_ret2
    exact ⟨rfl, rfl⟩
  · have h1 : 1099511627776 < n := by omega
    clear h
    go_enter Try.func12, Try.ntmps12
    go_wp2
    go_ret2
    exact ⟨rfl, rfl⟩

/-! ### Bound -/
def bad (n : Int) : Bool := decide (n < 0) || decide (1048576 < n)
def boundF (a b c : Int) : Int := if bad a || bad b || bad c then 0 else a * b + a * a + c + 1

theorem bad_calls (n : Int) (w : World) : Calls Try.prog 38 #[.int .i64 n] w fun e w' => e = .returned (.bool (bad n)) ∧ w = w' := by
  by_cases h0 : n < 0
  · have hb : bad n = true := by simp [bad, h0]
    rw [hb]; clear hb
    go_enter Try.func38, Try.ntmps38
    go_wp2
    go_ret
    exact ⟨rfl, rfl⟩
  · by_cases h1 : 1048576 < n
    · have hb : bad n = true := by simp [bad, h1]
      rw [hb]; clear hb
      go_enter Try.func38, Try.ntmps38
      go_wp2
      go_ret
      exact ⟨rfl, rfl⟩
    · have hb : bad n = false := by simp [bad, h0, h1]
      rw [hb]; clear hb
      go_enter Try.func38, Try.ntmps38
      go_wp2
      go_ret
      exact ⟨rfl, rfl⟩
end Go.Proofs.Ytgppemaekgnnfaa.Mt
