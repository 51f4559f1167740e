/- The function Inset of package rect: what it computes, and that the Go code computes it. -/
import Derived.Test.YtnjheeoogglnaaaRc
namespace Go.Proofs.Ytnjheeoogglnaaa.Q
open Go.RowKit Go.Proofs.Ytnjheeoogglnaaa.Mem Go.Proofs.YtnjheeoogglnaaaW.PrintWords Go.Proofs.YtnjheeoogglnaaaW.PrintLast Go.Proofs.YtnjheeoogglnaaaW.PrintMore
set_option linter.unusedVariables false
set_option linter.unusedSimpArgs false
attribute [local go_sem] max2_int min2_int max_two min_two

theorem inset_no (x y wd h t r b l : Int) (w : World) (hm : mayB x y wd h = false) : Calls Try.prog 28 #[.agg #[.int .i64 x, .int .i64 y, .int .i64 wd, .int .i64 h], .int .i64 t, .int .i64 r, .int .i64 b, .int .i64 l] w (MoveP 0 0 0 0 false w) := by
  have HM := Lib.hid hm
  clear hm
  go_enter Try.func28, Try.ntmps28
  go_wp2_with fail
  refine (may_calls _ _ _ _ _).mono ?_
  rintro e w1 ⟨rfl, hb⟩
  rw [HM.out]
  have B1 := Lib.hid ((((Below.refl _ _).alloc (Nat.le_refl _) _).alloc (by simp) _).trans (hb.mono (by simp; omega)))
  have hz : w.heap.size + 1 < w1.heap.size := by have := hb.size; simp at this; omega
  have R := Lib.hid (Blk.below (Blk.alloc (w.alloc (.cells #[.int .i64 x, .int .i64 y, .int .i64 wd, .int .i64 h] 50)) #[.int .i64 0, .int .i64 0, .int .i64 0, .int .i64 0] 50) hb (by simp))
  have c0 := R.out.cell 0
  have c1 := R.out.cell 1
  have c2 := R.out.cell 2
  have c3 := R.out.cell 3
  have f0 := R.out.free 0
  have f1 := R.out.free 1
  have f2 := R.out.free 2
  have f3 := R.out.free 3
  simp at c0 c1 c2 c3 f0 f1 f2 f3
  clear hb
  go_wp2_with fail
  exact bodyPost_ret (v := .tuple #[.agg #[.int .i64 0, .int .i64 0, .int .i64 0, .int .i64 0], .bool false]) (by simp [results, Try.results28, go_sem, c0, c1, c2, c3]) rfl ⟨rfl, by repeat (first | exact B1.out | refine Below.setCell ?_ (Nat.le_refl _) _ | refine Below.setCell ?_ (by simp) _)⟩

/-- A sum, a difference, and whether each is exact. -/
def sA (a b : Int) : Int := cl (cl a + cl b)
def sAe (a b : Int) : Bool := clB a && clB b && clB (cl a + cl b)
def sS (a b : Int) : Int := cl (cl a - cl b)
def sSe (a b : Int) : Bool := clB a && clB b && clB (cl a - cl b)
def ab (n : Int) : Int := if n < 0 then 0 else n
theorem addS_calls (a b : Int) (w : World) : Calls Try.prog 42 #[.int .i64 a, .int .i64 b] w fun e w' => e = .returned (.tuple #[.int .i64 (sA a b), .bool (sAe a b)]) ∧ w = w' := add_calls a b w
theorem subS_calls (a b : Int) (w : World) : Calls Try.prog 45 #[.int .i64 a, .int .i64 b] w fun e w' => e = .returned (.tuple #[.int .i64 (sS a b), .bool (sSe a b)]) ∧ w = w' := sub_calls a b w
theorem aboveS_calls (b : Nat) (n : Int) (exact rough : Bool) (w : World) (hb : Blk w b #[.bool rough] 72) :
    Calls Try.prog 44 #[.pointer (some ⟨b, 0, none⟩), .int .i64 n, .bool exact] w (OfP (ab n) b (rough || !(exact && decide (0 ≤ n))) w) := above_calls b n exact rough w hb

/-- Which of the sums of an inset weren't exact: was one? -/
def insR (x y wd h t r b l : Int) : Bool :=
  false || !sAe x l || !sAe y t || !sSe wd l || !(sSe (sS wd l) r && decide (0 ≤ sS (sS wd l) r)) || !sSe h t || !(sSe (sS h t) b && decide (0 ≤ sS (sS h t) b))

set_option maxHeartbeats 2000000 in
theorem inset_yes (x y wd h t r b l : Int) (w : World) (hm : mayB x y wd h = true) : Calls Try.prog 28 #[.agg #[.int .i64 x, .int .i64 y, .int .i64 wd, .int .i64 h], .int .i64 t, .int .i64 r, .int .i64 b, .int .i64 l] w
    (MoveP (sA x l) (sA y t) (ab (sS (sS wd l) r)) (ab (sS (sS h t) b)) (!insR x y wd h t r b l) w) := by
  have HM := Lib.hid hm
  clear hm
  go_enter Try.func28, Try.ntmps28
  go_wp2_with fail
  refine (may_calls _ _ _ _ _).mono ?_
  rintro e w1 ⟨rfl, hb⟩
  rw [HM.out]
  have hz : w.heap.size + 1 < w1.heap.size := by have := hb.size; simp at this; omega
  have T0 : Hid (Three w w1.heap.size x y wd h false (w1.alloc (.cells #[.bool false] 72))) := Lib.hid
    ⟨(Blk.below ((Blk.alloc w _ _).alloc_old _) hb (by simp; omega)).alloc_old _, (Blk.below (Blk.alloc_at (b := w.heap.size + 1) (w.alloc (.cells #[.int .i64 x, .int .i64 y, .int .i64 wd, .int .i64 h] 50)) #[.int .i64 0, .int .i64 0, .int .i64 0, .int .i64 0] 50 (by simp)) hb (by simp)).alloc_old _, Blk.alloc _ _ _, hz,
     ((((Below.refl _ _).alloc (Nat.le_refl _) _).alloc (by simp) _).trans (hb.mono (by simp; omega))).alloc (by omega) _⟩
  clear hb
  have c := T0.out.rr.cell 0
  simp at c
  go_wp2_with fail
  refine (addS_calls _ _ _).mono ?_
  rintro e w' ⟨rfl, rfl⟩
  clear c
  go_wp2_with fail
  refine (of_calls _ _ _ _ _ T0.out.ss).mono ?_
  rintro e v1 hp
  have T1 := Lib.hid (T0.out.of hp)
  obtain rfl := hp.e
  clear hp
  obtain ⟨r1, hr1⟩ : ∃ q : Bool, (false || !sAe x l) = q := ⟨_, rfl⟩
  rw [hr1] at T1
  have R1 := Lib.hid hr1
  clear hr1
  have f := T1.out.rr.free 0
  have g := T1.out.rr.cell 0
  simp at g
  have T2 := Lib.hid (T1.out.set (x' := sA x l) (y' := y) (wd' := wd) (h' := h) 0 (.int .i64 (sA x l)) rfl)
  have c := T2.out.rr.cell 1
  simp at c
  go_wp2_with fail
  refine (addS_calls _ _ _).mono ?_
  rintro e w' ⟨rfl, rfl⟩
  clear c f g
  go_wp2_with fail
  refine (of_calls _ _ _ _ _ T2.out.ss).mono ?_
  rintro e v3 hp
  have T3 := Lib.hid (T2.out.of hp)
  obtain rfl := hp.e
  clear hp
  obtain ⟨r2, hr2⟩ : ∃ q : Bool, (r1 || !sAe y t) = q := ⟨_, rfl⟩
  rw [hr2] at T3
  have R2 := Lib.hid hr2
  clear hr2
  have f := T3.out.rr.free 1
  have g := T3.out.rr.cell 1
  simp at g
  have T4 := Lib.hid (T3.out.set (x' := sA x l) (y' := sA y t) (wd' := wd) (h' := h) 1 (.int .i64 (sA y t)) rfl)
  as_aux_lemma =>
    have c := T4.out.rr.cell 2
    simp at c
    go_wp2_with fail
    refine (subS_calls _ _ _).mono ?_
    rintro e w' ⟨rfl, rfl⟩
    clear c f g
    go_wp2_with fail
    refine (of_calls _ _ _ _ _ T4.out.ss).mono ?_
    rintro e v5 hp
    have T5 := Lib.hid (T4.out.of hp)
    obtain rfl := hp.e
    clear hp
    obtain ⟨r3, hr3⟩ : ∃ q : Bool, (r2 || !sSe wd l) = q := ⟨_, rfl⟩
    rw [hr3] at T5
    have R3 := Lib.hid hr3
    clear hr3
    go_wp2_with fail
    refine (subS_calls _ _ _).mono ?_
    rintro e w' ⟨rfl, rfl⟩
    go_wp2_with fail
    refine (aboveS_calls _ _ _ _ _ T5.out.ss).mono ?_
    rintro e v6 hp
    have T6 := Lib.hid (T5.out.of hp)
    obtain rfl := hp.e
    clear hp
    obtain ⟨r4, hr4⟩ : ∃ q : Bool, (r3 || !(sSe (sS wd l) r && decide (0 ≤ sS (sS wd l) r))) = q := ⟨_, rfl⟩
    rw [hr4] at T6
    have R4 := Lib.hid hr4
    clear hr4
    have f := T6.out.rr.free 2
    have g := T6.out.rr.cell 2
    simp at g
    have T7 := Lib.hid (T6.out.set (x' := sA x l) (y' := sA y t) (wd' := ab (sS (sS wd l) r)) (h' := h) 2 (.int .i64 (ab (sS (sS wd l) r))) rfl)
    as_aux_lemma =>
      have c := T7.out.rr.cell 3
      simp at c
      go_wp2_with fail
      refine (subS_calls _ _ _).mono ?_
      rintro e w' ⟨rfl, rfl⟩
      clear c f g
      go_wp2_with fail
      refine (of_calls _ _ _ _ _ T7.out.ss).mono ?_
      rintro e v8 hp
      have T8 := Lib.hid (T7.out.of hp)
      obtain rfl := hp.e
      clear hp
      obtain ⟨r5, hr5⟩ : ∃ q : Bool, (r4 || !sSe h t) = q := ⟨_, rfl⟩
      rw [hr5] at T8
      have R5 := Lib.hid hr5
      clear hr5
      go_wp2_with fail
      refine (subS_calls _ _ _).mono ?_
      rintro e w' ⟨rfl, rfl⟩
      go_wp2_with fail
      refine (aboveS_calls _ _ _ _ _ T8.out.ss).mono ?_
      rintro e v9 hp
      have T9 := Lib.hid (T8.out.of hp)
      obtain rfl := hp.e
      clear hp
      obtain ⟨r6, hr6⟩ : ∃ q : Bool, (r5 || !(sSe (sS h t) b && decide (0 ≤ sS (sS h t) b))) = q := ⟨_, rfl⟩
      rw [hr6] at T9
      have R6 := Lib.hid hr6
      clear hr6
      have f := T9.out.rr.free 3
      have g := T9.out.rr.cell 3
      simp at g
      have T10 := Lib.hid (T9.out.set (x' := sA x l) (y' := sA y t) (wd' := ab (sS (sS wd l) r)) (h' := ab (sS (sS h t) b)) 3 (.int .i64 (ab (sS (sS h t) b))) rfl)
      as_aux_lemma =>
        go_wp2_with fail
        clear f g
        generalize v9.setCell ⟨w.heap.size, 3, none⟩ (.int .i64 (ab (sS (sS h t) b))) = w4 at T10 ⊢
        have T' := T10
        clear T0 T1 T2 T3 T4 T5 T6 T7 T8 T9 T10
        have hc := fun q => (Fin.cells (w0 := w) (sb := w1.heap.size) (x := sA x l) (y := sA y t) (wd := ab (sS (sS wd l) r)) (h := ab (sS (sS h t) b)) (rough := r6) q)
        have c0 := fun q => (hc q).1
        have c1 := fun q => (hc q).2.1
        have c2 := fun q => (hc q).2.2.1
        have c3 := fun q => (hc q).2.2.2.1
        have c4 := fun q => (hc q).2.2.2.2
        clear hc
        have t0 : Fin w w1.heap.size (sA x l) (sA y t) (ab (sS (sS wd l) r)) (ab (sS (sS h t) b)) r6 0 w4.drew := ⟨T'.out.rr, T'.out.oo, T'.out.ss, T'.out.lt, T'.out.below.drew⟩
        have ne : Nonempty (Mix.Wd (Fin w w1.heap.size (sA x l) (sA y t) (ab (sS (sS wd l) r)) (ab (sS (sS h t) b)) r6) 0) := ⟨⟨w4.drew, 0, Nat.le_refl _, t0⟩⟩
        refine Mix.wp_region_mix (C := Fin w w1.heap.size (sA x l) (sA y t) (ab (sS (sS wd l) r)) (ab (sS (sS h t) b)) r6) [6] (by kernel_rfl) (by kernel_rfl) t0 ?_
        iterate 6 (refine Mix.mix_still (by decide) (fun K hK => ?_); go_simp; refine hK _ ?_; clear hK K)
        refine Mix.mix_turn (by decide) (fun K hK => ?_)
        go_simp
        refine ⟨⟨undef, fun yw hy => ?_⟩, hK _ ?_⟩
        · have t : Three w w1.heap.size (sA x l) (sA y t) (ab (sS (sS wd l) r)) (ab (sS (sS h t) b)) r6 yw := hy
          have d0 := t.oo.cell 0
          have d1 := t.oo.cell 1
          have d2 := t.oo.cell 2
          have d3 := t.oo.cell 3
          have f0 := t.oo.free 0
          have f1 := t.oo.free 1
          have f2 := t.oo.free 2
          have f3 := t.oo.free 3
          simp only [List.getElem?_toArray, List.getElem?_cons_zero, List.getElem?_cons_succ] at d0 d1 d2 d3
          have hs := Fin.store hy
          clear c0 c1 c2 c3 c4 ne t0 t hy
          go_simp
          all_goals exact hs
        clear hK K
        iterate 1 (refine Mix.mix_still (by decide) (fun K hK => ?_); go_simp; refine hK _ ?_; clear hK K)
        refine Mix.mix_nil ?_
        intro w' hw'
        have hw' : Fin w w1.heap.size (sA x l) (sA y t) (ab (sS (sS wd l) r)) (ab (sS (sS h t) b)) r6 1 w' := hw'
        have d0 := hw'.2.1.cell 0
        have d1 := hw'.2.1.cell 1
        have d2 := hw'.2.1.cell 2
        have d3 := hw'.2.1.cell 3
        simp only [List.getElem?_toArray, List.getElem?_cons_zero, List.getElem?_cons_succ] at d0 d1 d2 d3
        clear c0 c1 c2 c3 c4 ne t0
        have HW := Lib.hid hw'
        clear hw'
        go_wp2
        have hw' := HW.out
        exact bodyPost_ret (v := .tuple #[.agg #[.int .i64 (sA x l), .int .i64 (sA y t), .int .i64 (ab (sS (sS wd l) r)), .int .i64 (ab (sS (sS h t) b))], .bool (!r6)])
          (by simp [results, Try.results28, go_sem, d0, d1, d2, d3]) rfl
          ⟨by unfold insR; rw [R1.out, R2.out, R3.out, R4.out, R5.out, R6.out], hw'.2.2.2⟩
end Go.Proofs.Ytnjheeoogglnaaa.Q
