/- The reference's May and Move: what each computes, and that the Go code computes it. -/
import Derived.Test.YtnjheeoogglnaaaRcG
import Derived.Test.YtnjheeoogglnaaaRfS
namespace Go.Proofs.Ytnjheeoogglnaaa.Q
open Go.RowKit Go.Proofs.Ytnjheeoogglnaaa.Mem Go.Proofs.YtnjheeoogglnaaaW.PrintWords Go.Proofs.YtnjheeoogglnaaaW.PrintLast Go.Proofs.YtnjheeoogglnaaaW.PrintMore
set_option linter.unusedVariables false
set_option linter.unusedSimpArgs false

def get4 (x y wd h : Int) (k : Nat) : Int := match k with | 0 => x | 1 => y | 2 => wd | _ => h
/-- The first so many may be. -/
def may4 (x y wd h : Int) (k : Nat) : Bool := match k with | 0 => true | 1 => clB x | 2 => clB x && clB y | 3 => clB x && clB y && clB wd | _ => clB x && clB y && clB wd && clB h
set_option maxHeartbeats 1000000 in
theorem rmay_calls (x y wd h : Int) (w : World) : Calls Try.prog 35 #[.agg #[.int .i64 x, .int .i64 y, .int .i64 wd, .int .i64 h]] w fun e w' => e = .returned (.bool (mayB x y wd h)) ∧ Below w.heap.size w w' := by
  go_enter Try.func35, Try.ntmps35
  go_wp2_with fail
  have A0 : Hid (Blk ((w.alloc (.cells #[.int .i64 x, .int .i64 y, .int .i64 wd, .int .i64 h] 50)).alloc (.cells #[.int .i64 x, .int .i64 y, .int .i64 wd, .int .i64 h] 2)) w.heap.size #[.int .i64 x, .int .i64 y, .int .i64 wd, .int .i64 h] 50) := (Blk.alloc w _ _).alloc_old _
  have A1 : Hid (Blk ((w.alloc (.cells #[.int .i64 x, .int .i64 y, .int .i64 wd, .int .i64 h] 50)).alloc (.cells #[.int .i64 x, .int .i64 y, .int .i64 wd, .int .i64 h] 2)) (w.heap.size + 1) #[.int .i64 x, .int .i64 y, .int .i64 wd, .int .i64 h] 2) := Blk.alloc_at _ _ _ (by simp)
  have A2 : Hid (Below w.heap.size w ((w.alloc (.cells #[.int .i64 x, .int .i64 y, .int .i64 wd, .int .i64 h] 50)).alloc (.cells #[.int .i64 x, .int .i64 y, .int .i64 wd, .int .i64 h] 2))) := ((Below.refl _ _).alloc (Nat.le_refl _) _).alloc (by simp) _
  generalize (w.alloc (.cells #[.int .i64 x, .int .i64 y, .int .i64 wd, .int .i64 h] 50)).alloc (.cells #[.int .i64 x, .int .i64 y, .int .i64 wd, .int .i64 h] 2) = W at A0 A1 A2 ⊢
  go_loop [4] (fun i => ∃ k : Nat, k ≤ 4 ∧ i = .int .i64 k ∧ Hid (may4 x y wd h k = true)) (fun i => 4 - (intOf i).toNat)
  case atStart => exact ⟨0, by decide, rfl, Lib.hid rfl⟩
  case round =>
    obtain ⟨k, hk, rfl, HM⟩ := hrel
    by_cases hlt : k < 4
    · have hc : W.cell? ⟨w.heap.size + 1, k, none⟩ = some (.int .i64 (get4 x y wd h k)) := by
        rw [A1.out.cell k]
        rcases k with _ | _ | _ | _ | k
        · rfl
        · rfl
        · rfl
        · rfl
        · omega
      have hs : Hid (may4 x y wd h (k + 1) = (may4 x y wd h k && clB (get4 x y wd h k))) := by
        rcases k with _ | _ | _ | _ | k
        · simp [Hid, may4, get4]
        · simp [Hid, may4, get4]
        · simp [Hid, may4, get4]
        · simp [Hid, may4, get4]
        · omega
      have hf : Hid (clB (get4 x y wd h k) = false → mayB x y wd h = false) := by
        unfold Hid mayB
        intro hb
        rcases k with _ | _ | _ | _ | k
        · simp only [get4] at hb; simp [hb]
        · simp only [get4] at hb; simp [hb]
        · simp only [get4] at hb; simp [hb]
        · simp only [get4] at hb; simp [hb]
        · omega
      generalize get4 x y wd h k = v at *
      rcases (show clB v = false ∨ clB v = true by cases clB v <;> simp) with hb | hb
      · have HB := Lib.hid hb
        clear hb
        go_wp2_with (go_at_call 49; refine (rclamp_calls _ _).mono ?_; rintro e w' ⟨rfl, rfl⟩; rw [HB.out])
        go_ret
        exact ⟨ret_b (hf.out HB.out).symm, A2.out⟩
      · have HB := Lib.hid hb
        clear hb
        go_wp2_with (go_at_call 49; refine (rclamp_calls _ _).mono ?_; rintro e w' ⟨rfl, rfl⟩; rw [HB.out])
        go_round
        case rel => exact ⟨k + 1, by omega, by go_num, Lib.hid (by rw [hs.out, HM.out, HB.out]; rfl)⟩
        case measure => simp [intOf]; omega
    · have hk4 : k = 4 := by omega
      have hm : Hid (mayB x y wd h = (decide (0 ≤ wd) && decide (0 ≤ h))) := by
        unfold Hid mayB
        have h4 := HM.out
        rw [hk4] at h4
        simp only [may4] at h4
        rw [h4, Bool.true_and]
      clear hk4
      have c2 := A0.out.cell 2
      have c3 := A0.out.cell 3
      simp only [List.getElem?_toArray, List.getElem?_cons_zero, List.getElem?_cons_succ] at c2 c3
      go_wp2
      all_goals (go_ret; exact ⟨ret_b (by rw [hm.out]; first | (simp [*]; done) | (simp [*]; omega)), A2.out⟩)

def scrimref02_May.f (a0_0 a0_1 a0_2 a0_3 : Int) : Option (Bool) := some (mayB a0_0 a0_1 a0_2 a0_3)
theorem scrimref02_May.calls (a0_0 : Int) (a0_1 : Int) (a0_2 : Int) (a0_3 : Int) (r : Bool) (w : World) (h : scrimref02_May.f a0_0 a0_1 a0_2 a0_3 = some r) :
    Calls Try.prog 35 #[.agg #[.int .i64 a0_0, .int .i64 a0_1, .int .i64 a0_2, .int .i64 a0_3]] w fun e w' => e = .returned (.bool r) ∧ Below w.heap.size w w' := by
  have h' : mayB a0_0 a0_1 a0_2 a0_3 = r := Option.some.inj h
  subst h'
  exact rmay_calls a0_0 a0_1 a0_2 a0_3 w

/-! ### Move -/
def MvC (w0 : World) (x y wd h x' y' : Int) : Nat → World → Prop
  | 0 => fun w => Blk w w0.heap.size #[.int .i64 x, .int .i64 y, .int .i64 wd, .int .i64 h] 50 ∧ Blk w (w0.heap.size + 1) #[.int .i64 0, .int .i64 0, .int .i64 0, .int .i64 0] 50 ∧ Below w0.heap.size w0 w
  | _ => fun w => Blk w w0.heap.size #[.int .i64 x, .int .i64 y, .int .i64 wd, .int .i64 h] 50 ∧ Blk w (w0.heap.size + 1) #[.int .i64 x', .int .i64 y', .int .i64 wd, .int .i64 h] 50 ∧ Below w0.heap.size w0 w
theorem raddS_calls (a b : Int) (w : World) : Calls Try.prog 43 #[.int .i64 a, .int .i64 b] w fun e w' => e = .returned (.tuple #[.int .i64 (sA a b), .bool (sAe a b)]) ∧ w = w' := radd_calls a b w

theorem rmove_no (x y wd h a b : Int) (w : World) (hm : mayB x y wd h = false) : Calls Try.prog 27 #[.agg #[.int .i64 x, .int .i64 y, .int .i64 wd, .int .i64 h], .int .i64 a, .int .i64 b] w (MoveP 0 0 0 0 false w) := by
  have HM := Lib.hid hm
  clear hm
  go_enter Try.func27, Try.ntmps27
  go_wp2_with fail
  refine (rmay_calls _ _ _ _ _).mono ?_
  rintro e w1 ⟨rfl, hb⟩
  rw [HM.out]
  have B1 := Lib.hid ((((Below.refl _ _).alloc (Nat.le_refl _) _).alloc (by simp) _).trans (hb.mono (by simp; omega)))
  have hz : w.heap.size + 1 < w1.heap.size := by have := hb.size; simp at this; omega
  have R := Lib.hid (Blk.below (Blk.alloc (w.alloc (.cells #[.int .i64 x, .int .i64 y, .int .i64 wd, .int .i64 h] 50)) #[.int .i64 0, .int .i64 0, .int .i64 0, .int .i64 0] 50) hb (by simp))
  have c0 := R.out.cell 0
  have c1 := R.out.cell 1
  have c2 := R.out.cell 2
  have c3 := R.out.cell 3
  have f0 := R.out.free 0
  have f1 := R.out.free 1
  have f2 := R.out.free 2
  have f3 := R.out.free 3
  simp at c0 c1 c2 c3 f0 f1 f2 f3
  clear hb
  go_wp2_with fail
  exact bodyPost_ret (v := .tuple #[.agg #[.int .i64 0, .int .i64 0, .int .i64 0, .int .i64 0], .bool false]) (by simp [results, Try.results27, go_sem, c0, c1, c2, c3]) rfl ⟨rfl, by repeat (first | exact B1.out | refine Below.setCell ?_ (Nat.le_refl _) _ | refine Below.setCell ?_ (by simp) _)⟩

set_option maxHeartbeats 2000000 in
theorem rmove_yes (x y wd h a b : Int) (w : World) (hm : mayB x y wd h = true) : Calls Try.prog 27 #[.agg #[.int .i64 x, .int .i64 y, .int .i64 wd, .int .i64 h], .int .i64 a, .int .i64 b] w
    (MoveP (sA x a) (sA y b) wd h (sAe x a && sAe y b) w) := by
  have HM := Lib.hid hm
  clear hm
  rcases (show sAe x a = false ∨ sAe x a = true by cases sAe x a <;> simp) with he | he
  · skip
    have HE := Lib.hid he
    clear he
    go_enter Try.func27, Try.ntmps27
    go_wp2_with fail
    refine (rmay_calls _ _ _ _ _).mono ?_
    rintro e w1 ⟨rfl, hb⟩
    rw [HM.out]
    have hz : w.heap.size + 1 < w1.heap.size := by have := hb.size; simp at this; omega
    have T1 : Hid (MvC w x y wd h (sA x a) (sA y b) 0 w1) := Lib.hid
      ⟨Blk.below ((Blk.alloc w _ _).alloc_old _) hb (by simp; omega), Blk.below (Blk.alloc_at (b := w.heap.size + 1) (w.alloc (.cells #[.int .i64 x, .int .i64 y, .int .i64 wd, .int .i64 h] 50)) #[.int .i64 0, .int .i64 0, .int .i64 0, .int .i64 0] 50 (by simp)) hb (by simp),
       (((Below.refl _ _).alloc (Nat.le_refl _) _).alloc (by simp) _).trans (hb.mono (by simp; omega))⟩
    have c0 := T1.out.1.cell 0
    have c1 := T1.out.1.cell 1
    simp only [List.getElem?_toArray, List.getElem?_cons_zero, List.getElem?_cons_succ] at c0 c1
    clear hb
    go_wp2_with fail
    refine (raddS_calls _ _ _).mono ?_
    rintro e w' ⟨rfl, rfl⟩
    rw [HE.out]
    go_wp2_with fail
    refine (raddS_calls _ _ _).mono ?_
    rintro e w' ⟨rfl, rfl⟩
    clear c0 c1
    have c2 := T1.out.1.cell 2
    have c3 := T1.out.1.cell 3
    have d0 := T1.out.2.1.cell 0
    have d1 := T1.out.2.1.cell 1
    have d2 := T1.out.2.1.cell 2
    have d3 := T1.out.2.1.cell 3
    have f0 := T1.out.2.1.free 0
    have f1 := T1.out.2.1.free 1
    have f2 := T1.out.2.1.free 2
    have f3 := T1.out.2.1.free 3
    simp only [List.getElem?_toArray, List.getElem?_cons_zero, List.getElem?_cons_succ] at c2 c3 d0 d1 d2 d3
    go_wp2_with fail
    exact bodyPost_ret (v := .tuple #[.agg #[.int .i64 (sA x a), .int .i64 (sA y b), .int .i64 wd, .int .i64 h], .bool false])
      (by simp [results, Try.results27, go_sem, d0, d1, d2, d3]) rfl ⟨by rw [HE.out]; rfl, (((T1.out.2.2.setCell (by simp) _).setCell (by simp) _).setCell (by simp) _).setCell (by simp) _⟩
  · skip
    have HE := Lib.hid he
    clear he
    go_enter Try.func27, Try.ntmps27
    go_wp2_with fail
    refine (rmay_calls _ _ _ _ _).mono ?_
    rintro e w1 ⟨rfl, hb⟩
    rw [HM.out]
    have hz : w.heap.size + 1 < w1.heap.size := by have := hb.size; simp at this; omega
    have T1 : Hid (MvC w x y wd h (sA x a) (sA y b) 0 w1) := Lib.hid
      ⟨Blk.below ((Blk.alloc w _ _).alloc_old _) hb (by simp; omega), Blk.below (Blk.alloc_at (b := w.heap.size + 1) (w.alloc (.cells #[.int .i64 x, .int .i64 y, .int .i64 wd, .int .i64 h] 50)) #[.int .i64 0, .int .i64 0, .int .i64 0, .int .i64 0] 50 (by simp)) hb (by simp),
       (((Below.refl _ _).alloc (Nat.le_refl _) _).alloc (by simp) _).trans (hb.mono (by simp; omega))⟩
    have c0 := T1.out.1.cell 0
    have c1 := T1.out.1.cell 1
    simp only [List.getElem?_toArray, List.getElem?_cons_zero, List.getElem?_cons_succ] at c0 c1
    clear hb
    go_wp2_with fail
    refine (raddS_calls _ _ _).mono ?_
    rintro e w' ⟨rfl, rfl⟩
    rw [HE.out]
    go_wp2_with fail
    refine (raddS_calls _ _ _).mono ?_
    rintro e w' ⟨rfl, rfl⟩
    clear c0 c1
    have c2 := T1.out.1.cell 2
    have c3 := T1.out.1.cell 3
    have d0 := T1.out.2.1.cell 0
    have d1 := T1.out.2.1.cell 1
    have d2 := T1.out.2.1.cell 2
    have d3 := T1.out.2.1.cell 3
    have f0 := T1.out.2.1.free 0
    have f1 := T1.out.2.1.free 1
    have f2 := T1.out.2.1.free 2
    have f3 := T1.out.2.1.free 3
    simp only [List.getElem?_toArray, List.getElem?_cons_zero, List.getElem?_cons_succ] at c2 c3 d0 d1 d2 d3
    go_wp2_with fail
    exact bodyPost_ret (v := .tuple #[.agg #[.int .i64 (sA x a), .int .i64 (sA y b), .int .i64 wd, .int .i64 h], .bool (sAe y b)])
      (by simp [results, Try.results27, go_sem, d0, d1, d2, d3]) rfl ⟨by rw [HE.out]; rfl, (((T1.out.2.2.setCell (by simp) _).setCell (by simp) _).setCell (by simp) _).setCell (by simp) _⟩

def scrimref02_Move.f (a0_0 a0_1 a0_2 a0_3 a1 a2 : Int) : Option (Int × Int × Int × Int × Bool) := some (moveF a0_0 a0_1 a0_2 a0_3 a1 a2)
theorem scrimref02_Move.calls (a0_0 : Int) (a0_1 : Int) (a0_2 : Int) (a0_3 : Int) (a1 : Int) (a2 : Int) (r1 : Int) (r2 : Int) (r3 : Int) (r4 : Int) (r5 : Bool) (w : World) (h : scrimref02_Move.f a0_0 a0_1 a0_2 a0_3 a1 a2 = some (r1, r2, r3, r4, r5)) :
    Calls Try.prog 27 #[.agg #[.int .i64 a0_0, .int .i64 a0_1, .int .i64 a0_2, .int .i64 a0_3], .int .i64 a1, .int .i64 a2] w fun e w' => e = .returned (.tuple #[.agg #[.int .i64 r1, .int .i64 r2, .int .i64 r3, .int .i64 r4], .bool r5]) ∧ Below w.heap.size w w' := by
  have h' : moveF a0_0 a0_1 a0_2 a0_3 a1 a2 = (r1, r2, r3, r4, r5) := Option.some.inj h
  clear h
  unfold moveF at h'
  by_cases hm : mayB a0_0 a0_1 a0_2 a0_3 = true
  · rw [if_pos hm] at h'
    simp only [Prod.mk.injEq] at h'
    obtain ⟨rfl, rfl, rfl, rfl, rfl⟩ := h'
    exact (rmove_yes a0_0 a0_1 a0_2 a0_3 a1 a2 w hm).mono fun e w' hp => ⟨hp.e, hp.below⟩
  · rw [if_neg hm] at h'
    simp only [Prod.mk.injEq] at h'
    obtain ⟨rfl, rfl, rfl, rfl, rfl⟩ := h'
    exact (rmove_no a0_0 a0_1 a0_2 a0_3 a1 a2 w (by simpa using hm)).mono fun e w' hp => ⟨hp.e, hp.below⟩
end Go.Proofs.Ytnjheeoogglnaaa.Q
