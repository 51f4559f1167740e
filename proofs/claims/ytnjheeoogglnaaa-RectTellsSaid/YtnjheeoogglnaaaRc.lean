/- The functions of package rect that hand function values about (Move): what each computes, and that the Go code computes it. -/
import Derived.Test.YtnjheeoogglnaaaFxS
import Derived.Test.YtnjheeoogglnaaaMem
import Derived.Test.YtnjheeoogglnaaaQx0
import Derived.Test.YtnjheeoogglnaaaMix
import Derived.Deep.QuietTactic
import Derived.BigQuiet
import Derived.RegionTactic
import Derived.BigRegion
namespace Go.Proofs.Ytnjheeoogglnaaa.Q
open Go.RowKit Go.Proofs.Ytnjheeoogglnaaa.Mem Go.Proofs.YtnjheeoogglnaaaW.PrintWords Go.Proofs.YtnjheeoogglnaaaW.PrintLast Go.Proofs.YtnjheeoogglnaaaW.PrintMore
set_option linter.unusedVariables false
set_option linter.unusedSimpArgs false
attribute [local go_sem] max2_int min2_int max_two min_two

theorem ret_b {a b : Bool} (h : a = b) : Ending.returned (.bool a) = .returned (.bool b) := by rw [h]
theorem within_calls (n : Int) (w : World) : Calls Try.prog 48 #[.int .i64 n] w fun e w' => e = .returned (.bool (clB n)) ∧ w = w' := by
  by_cases h1 : n < -1099511627776
  · have hb := (cl_low h1).2
    rw [hb]; clear hb
    go_enter Try.func48, Try.ntmps48
    go_wp2
    go_ret
    exact ⟨rfl, rfl⟩
  · by_cases h2 : 1099511627776 < n
    · have hb := (cl_high h2).2
      rw [hb]; clear hb
      go_enter Try.func48, Try.ntmps48
      go_wp2
      go_ret
      exact ⟨ret_b (by simp; omega), rfl⟩
    · have hb := (cl_in h1 h2).2
      rw [hb]; clear hb
      go_enter Try.func48, Try.ntmps48
      go_wp2
      go_ret
      exact ⟨rfl, rfl⟩

/-- May a place be? -/
def mayB (x y w h : Int) : Bool := clB x && clB y && clB w && clB h && decide (0 ≤ w) && decide (0 ≤ h)

set_option maxHeartbeats 400000 in
theorem may_calls (x y wd h : Int) (w : World) : Calls Try.prog 34 #[.agg #[.int .i64 x, .int .i64 y, .int .i64 wd, .int .i64 h]] w fun e w' => e = .returned (.bool (mayB x y wd h)) ∧ Below w.heap.size w w' := by
  go_enter Try.func34, Try.ntmps34
  go_wp2_with (go_at_call 48; refine (within_calls _ _).mono ?_; rintro e w' ⟨rfl, rfl⟩)
  all_goals (go_ret; exact ⟨ret_b (by first | (simp [mayB, *]; done) | (simp [mayB, *]; omega)), (Below.refl _ _).alloc (Nat.le_refl _) _⟩)

/-! ### The sums, and whether all were exact -/
structure OfP (n : Int) (b : Nat) (rough : Bool) (w : World) (e : Ending) (w' : World) : Prop where
  e : e = .returned (.int .i64 n)
  blk : Blk w' b #[.bool rough] 72
  but : But b w w'
  size : w'.heap.size = w.heap.size
theorem of_calls (b : Nat) (n : Int) (exact rough : Bool) (w : World) (hb : Blk w b #[.bool rough] 72) :
    Calls Try.prog 41 #[.pointer (some ⟨b, 0, none⟩), .int .i64 n, .bool exact] w (OfP n b (rough || !exact) w) := by
  have h0 := hb.cell 0
  have f0 := hb.free 0
  simp at h0
  have HB := Lib.hid hb
  clear hb
  cases rough
  · go_enter Try.func41, Try.ntmps41
    go_wp2
    go_ret
    exact ⟨rfl, HB.out.set 0 _, (But.refl _ _).setCell _ _, by simp [World.setCell]⟩
  · go_enter Try.func41, Try.ntmps41
    go_wp2
    go_ret
    exact ⟨rfl, HB.out.set 0 _, (But.refl _ _).setCell _ _, by simp [World.setCell]⟩
theorem above_calls (b : Nat) (n : Int) (exact rough : Bool) (w : World) (hb : Blk w b #[.bool rough] 72) :
    Calls Try.prog 44 #[.pointer (some ⟨b, 0, none⟩), .int .i64 n, .bool exact] w (OfP (if n < 0 then 0 else n) b (rough || !(exact && decide (0 ≤ n))) w) := by
  have HB := Lib.hid hb
  clear hb
  by_cases hn : n < 0
  · have hn' : ¬ 0 ≤ n := by omega
    have hd := decide_eq_false hn'
    rw [if_pos hn, hd]
    clear hn'
    cases exact
    all_goals
      go_enter Try.func44, Try.ntmps44
      go_wp2_with fail
      refine (of_calls _ _ _ _ _ HB.out).mono ?_
      rintro e w' ⟨rfl, h1, h2, h3⟩
      have H1 := Lib.hid h1
      have H2 := Lib.hid h2
      have H3 := Lib.hid h3
      clear h1 h2 h3
      go_wp2
      go_ret
      exact ⟨rfl, by have := H1.out; first | exact this | simpa using this, H2.out, H3.out⟩
  · have hn' : 0 ≤ n := by omega
    rw [if_neg hn, decide_eq_true hn']
    cases exact
    all_goals
      go_enter Try.func44, Try.ntmps44
      go_wp2_with fail
      refine (of_calls _ _ _ _ _ HB.out).mono ?_
      rintro e w' ⟨rfl, h1, h2, h3⟩
      have H1 := Lib.hid h1
      have H2 := Lib.hid h2
      have H3 := Lib.hid h3
      clear h1 h2 h3
      go_wp2
      go_ret
      exact ⟨rfl, by have := H1.out; first | exact this | simpa using this, H2.out, H3.out⟩

/-! ### Move -/
theorem move_no (x y wd h a b : Int) (w : World) (hm : mayB x y wd h = false) : Calls Try.prog 26 #[.agg #[.int .i64 x, .int .i64 y, .int .i64 wd, .int .i64 h], .int .i64 a, .int .i64 b] w fun e w' =>
    e = .returned (.tuple #[.agg #[.int .i64 0, .int .i64 0, .int .i64 0, .int .i64 0], .bool false]) ∧ Below w.heap.size w w' := by
  have HM := Lib.hid hm
  clear hm
  go_enter Try.func26, Try.ntmps26
  go_wp2_with fail
  refine (may_calls _ _ _ _ _).mono ?_
  rintro e w1 ⟨rfl, hb⟩
  rw [HM.out]
  have B1 := Lib.hid ((((Below.refl _ _).alloc (Nat.le_refl _) _).alloc (by simp) _).trans (hb.mono (by simp; omega)))
  have hz : w.heap.size + 1 < w1.heap.size := by have := hb.size; simp at this; omega
  have R := Lib.hid (Blk.below (Blk.alloc (w.alloc (.cells #[.int .i64 x, .int .i64 y, .int .i64 wd, .int .i64 h] 50)) #[.int .i64 0, .int .i64 0, .int .i64 0, .int .i64 0] 50) hb (by simp))
  have c0 := R.out.cell 0
  have c1 := R.out.cell 1
  have c2 := R.out.cell 2
  have c3 := R.out.cell 3
  have f0 := R.out.free 0
  have f1 := R.out.free 1
  have f2 := R.out.free 2
  have f3 := R.out.free 3
  simp at c0 c1 c2 c3 f0 f1 f2 f3
  clear hb
  go_wp2_with fail
  exact bodyPost_ret (v := .tuple #[.agg #[.int .i64 0, .int .i64 0, .int .i64 0, .int .i64 0], .bool false]) (by simp [results, Try.results26, go_sem, c0, c1, c2, c3]) rfl ⟨rfl, by repeat (first | exact B1.out | refine Below.setCell ?_ (Nat.le_refl _) _ | refine Below.setCell ?_ (by simp) _)⟩

/-- Two places in memory, and the sums, as the functions keep them. -/
structure Three (w0 : World) (s : Nat) (x y wd h : Int) (rough : Bool) (w : World) : Prop where
  rr : Blk w w0.heap.size #[.int .i64 x, .int .i64 y, .int .i64 wd, .int .i64 h] 50
  oo : Blk w (w0.heap.size + 1) #[.int .i64 0, .int .i64 0, .int .i64 0, .int .i64 0] 50
  ss : Blk w s #[.bool rough] 72
  lt : w0.heap.size + 1 < s
  below : Below w0.heap.size w0 w

theorem Three.of {w0 : World} {s : Nat} {x y wd h n : Int} {r r' : Bool} {w w' : World} {e : Ending} (t : Three w0 s x y wd h r w) (p : OfP n s r' w e w') : Three w0 s x y wd h r' w' :=
  ⟨p.but.blk t.rr (by have := t.lt; omega), p.but.blk t.oo (by have := t.lt; omega), p.blk, t.lt, t.below.trans (p.but.below (by have := t.lt; omega) t.below.size)⟩
theorem Three.set {w0 : World} {s : Nat} {x y wd h x' y' wd' h' : Int} {r : Bool} {w : World} (t : Three w0 s x y wd h r w) (i : Nat) (v : Value)
    (hv : (#[.int .i64 x, .int .i64 y, .int .i64 wd, .int .i64 h] : Array Value).setIfInBounds i v = #[.int .i64 x', .int .i64 y', .int .i64 wd', .int .i64 h']) : Three w0 s x' y' wd' h' r (w.setCell ⟨w0.heap.size, i, none⟩ v) :=
  ⟨hv ▸ t.rr.set i v, t.oo.setCell_other v (by simp), t.ss.setCell_other v (by have := t.lt; simp; omega), t.lt, t.below.setCell (Nat.le_refl _) v⟩

/-- The worlds round the last statement, which lays the result. -/
def Fin (w0 : World) (sb : Nat) (x y wd h : Int) (rough : Bool) : Nat → World → Prop
  | 0 => fun w => Three w0 sb x y wd h rough w
  | _ => fun w => Blk w w0.heap.size #[.int .i64 x, .int .i64 y, .int .i64 wd, .int .i64 h] 50 ∧ Blk w (w0.heap.size + 1) #[.int .i64 x, .int .i64 y, .int .i64 wd, .int .i64 h] 50 ∧ Blk w sb #[.bool rough] 72 ∧ Below w0.heap.size w0 w
theorem Fin.cells {w0 : World} {sb : Nat} {x y wd h : Int} {rough : Bool} (q : Mix.Wd (Fin w0 sb x y wd h rough) 0) :
    q.1.cell? ⟨w0.heap.size, 0, none⟩ = some (.int .i64 x) ∧ q.1.cell? ⟨w0.heap.size, 1, none⟩ = some (.int .i64 y) ∧ q.1.cell? ⟨w0.heap.size, 2, none⟩ = some (.int .i64 wd) ∧ q.1.cell? ⟨w0.heap.size, 3, none⟩ = some (.int .i64 h) ∧ q.1.cell? ⟨sb, 0, none⟩ = some (.bool rough) := by
  obtain ⟨w, i, _, hw⟩ := q
  have hb : Blk w w0.heap.size #[.int .i64 x, .int .i64 y, .int .i64 wd, .int .i64 h] 50 ∧ Blk w sb #[.bool rough] 72 := by
    rcases i with _ | i
    · exact ⟨hw.rr, hw.ss⟩
    · exact ⟨hw.1, hw.2.2.1⟩
  exact ⟨hb.1.cell 0, hb.1.cell 1, hb.1.cell 2, hb.1.cell 3, hb.2.cell 0⟩
theorem Fin.store {w0 : World} {sb : Nat} {x y wd h : Int} {rough : Bool} {w : World} (t : Fin w0 sb x y wd h rough 0 w) :
    Fin w0 sb x y wd h rough 1 ((((w.setCell ⟨w0.heap.size + 1, 0, none⟩ (.int .i64 x)).setCell ⟨w0.heap.size + 1, 1, none⟩ (.int .i64 y)).setCell ⟨w0.heap.size + 1, 2, none⟩ (.int .i64 wd)).setCell ⟨w0.heap.size + 1, 3, none⟩ (.int .i64 h)) := by
  have t : Three w0 sb x y wd h rough w := t
  have hl := t.lt
  exact ⟨(((t.rr.setCell_other _ (by simp)).setCell_other _ (by simp)).setCell_other _ (by simp)).setCell_other _ (by simp), (((t.oo.set 0 _).set 1 _).set 2 _).set 3 _,
    (((t.ss.setCell_other _ (by simp; omega)).setCell_other _ (by simp; omega)).setCell_other _ (by simp; omega)).setCell_other _ (by simp; omega),
    (((t.below.setCell (by simp) _).setCell (by simp) _).setCell (by simp) _).setCell (by simp) _⟩

structure MoveP (x y wd h : Int) (ok : Bool) (w : World) (e : Ending) (w' : World) : Prop where
  e : e = .returned (.tuple #[.agg #[.int .i64 x, .int .i64 y, .int .i64 wd, .int .i64 h], .bool ok])
  below : Below w.heap.size w w'

set_option maxHeartbeats 1000000 in
theorem move_yes (x y wd h a b : Int) (w : World) (hm : mayB x y wd h = true) : Calls Try.prog 26 #[.agg #[.int .i64 x, .int .i64 y, .int .i64 wd, .int .i64 h], .int .i64 a, .int .i64 b] w
    (MoveP (cl (cl x + cl a)) (cl (cl y + cl b)) wd h ((clB x && clB a && clB (cl x + cl a)) && (clB y && clB b && clB (cl y + cl b))) w) := by
  have HM := Lib.hid hm
  clear hm
  go_enter Try.func26, Try.ntmps26
  go_wp2_with fail
  refine (may_calls _ _ _ _ _).mono ?_
  rintro e w1 ⟨rfl, hb⟩
  rw [HM.out]
  have hz : w.heap.size + 1 < w1.heap.size := by have := hb.size; simp at this; omega
  have T1 : Hid (Three w w1.heap.size x y wd h false (w1.alloc (.cells #[.bool false] 72))) := Lib.hid
    ⟨(Blk.below ((Blk.alloc w _ _).alloc_old _) hb (by simp; omega)).alloc_old _, (Blk.below (Blk.alloc_at (b := w.heap.size + 1) (w.alloc (.cells #[.int .i64 x, .int .i64 y, .int .i64 wd, .int .i64 h] 50)) #[.int .i64 0, .int .i64 0, .int .i64 0, .int .i64 0] 50 (by simp)) hb (by simp)).alloc_old _, Blk.alloc _ _ _, hz,
     ((((Below.refl _ _).alloc (Nat.le_refl _) _).alloc (by simp) _).trans (hb.mono (by simp; omega))).alloc (by omega) _⟩
  have c0 := T1.out.rr.cell 0
  simp at c0
  clear hb
  go_wp2_with fail
  refine (add_calls _ _ _).mono ?_
  rintro e w' ⟨rfl, rfl⟩
  go_wp2_with fail
  clear c0
  refine (of_calls _ _ _ _ _ T1.out.ss).mono ?_
  rintro e w2 hp
  have T2 := Lib.hid (T1.out.of hp)
  obtain rfl := hp.e
  clear hp
  have f0 := T2.out.rr.free 0
  have c0 := T2.out.rr.cell 0
  simp at c0
  have c1 := T2.out.rr.cell 1
  simp at c1
  have T3 := Lib.hid (T2.out.set (x' := cl (cl x + cl a)) (y' := y) (wd' := wd) (h' := h) 0 (.int .i64 (cl (cl x + cl a))) rfl)
  go_wp2_with fail
  refine (add_calls _ _ _).mono ?_
  rintro e w' ⟨rfl, rfl⟩
  go_wp2_with fail
  clear c1 f0 c0
  refine (of_calls _ _ _ _ _ T3.out.ss).mono ?_
  rintro e w3 hp
  have T4 := Lib.hid (T3.out.of hp)
  obtain rfl := hp.e
  clear hp
  have f0 := T4.out.rr.free 1
  have c0 := T4.out.rr.cell 1
  simp at c0
  have T5 := Lib.hid (T4.out.set (x' := cl (cl x + cl a)) (y' := cl (cl y + cl b)) (wd' := wd) (h' := h) 1 (.int .i64 (cl (cl y + cl b))) rfl)
  go_wp2_with fail
  clear f0 c0
  generalize w3.setCell ⟨w.heap.size, 1, none⟩ (.int .i64 (cl (cl y + cl b))) = w4 at T5 ⊢
  have c0 := T5.out.rr.cell 0
  have c1 := T5.out.rr.cell 1
  have c2 := T5.out.rr.cell 2
  have c3 := T5.out.rr.cell 3
  have d0 := T5.out.oo.cell 0
  have d1 := T5.out.oo.cell 1
  have d2 := T5.out.oo.cell 2
  have d3 := T5.out.oo.cell 3
  have f0 := T5.out.oo.free 0
  have f1 := T5.out.oo.free 1
  have f2 := T5.out.oo.free 2
  have f3 := T5.out.oo.free 3
  have s0 := T5.out.ss.cell 0
  simp only [List.getElem?_toArray, List.getElem?_cons_zero, List.getElem?_cons_succ] at c0 c1 c2 c3 d0 d1 d2 d3 s0
  go_region
  go_wp2
  exact bodyPost_ret (v := .tuple #[.agg #[.int .i64 (cl (cl x + cl a)), .int .i64 (cl (cl y + cl b)), .int .i64 wd, .int .i64 h], .bool ((clB x && clB a && clB (cl x + cl a)) && (clB y && clB b && clB (cl y + cl b)))])
    (by simp [results, Try.results26, go_sem, d0, d1, d2, d3]) rfl
    ⟨rfl, by repeat (first | exact T5.out.below | refine Below.setCell ?_ (Nat.le_refl _) _ | refine Below.setCell ?_ (by simp) _ | refine Below.drew ?_)⟩
end Go.Proofs.Ytnjheeoogglnaaa.Q
