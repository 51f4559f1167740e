/- The reference's Inset: what it computes, and that the Go code computes it. -/
import Derived.Test.YtnjheeoogglnaaaRcM
import Derived.Test.YtnjheeoogglnaaaRcN
namespace Go.Proofs.Ytnjheeoogglnaaa.Q
open Go.RowKit Go.IntWalk Go.Proofs.Ytnjheeoogglnaaa.Mem Go.Proofs.YtnjheeoogglnaaaW.PrintWords Go.Proofs.YtnjheeoogglnaaaW.PrintLast Go.Proofs.YtnjheeoogglnaaaW.PrintMore
set_option linter.unusedVariables false
set_option linter.unusedSimpArgs false

theorem rsubS_calls (a b : Int) (w : World) : Calls Try.prog 47 #[.int .i64 a, .int .i64 b] w fun e w' => e = .returned (.tuple #[.int .i64 (sS a b), .bool (sSe a b)]) ∧ w = w' := rsub_calls a b w
/-- A number less two others, and whether that is exact. -/
def lessB (n a b : Int) : Bool := sSe n a && (sSe (sS n a) b && decide (0 ≤ sS (sS n a) b))
theorem rless_calls (n a b : Int) (w : World) : Calls Try.prog 46 #[.int .i64 n, .int .i64 a, .int .i64 b] w fun e w' => e = .returned (.tuple #[.int .i64 (ab (sS (sS n a) b)), .bool (lessB n a b)]) ∧ w = w' := by
  have WK : ∀ (e1 e2 : Bool), sSe n a = e1 → sSe (sS n a) b = e2 → Calls Try.prog 46 #[.int .i64 n, .int .i64 a, .int .i64 b] w fun e w' => e = .returned (.tuple #[.int .i64 (if sS (sS n a) b < 0 then 0 else sS (sS n a) b), .bool (if sS (sS n a) b < 0 then false else e1 && e2)]) ∧ w = w' := by
    intro e1 e2 h1 h2
    have H1 := Lib.hid h1
    have H2 := Lib.hid h2
    clear h1 h2
    by_cases h : sS (sS n a) b < 0
    · rw [if_pos h, if_pos h]
      go_enter Try.func46, Try.ntmps46
      go_wp2_with fail
      refine (rsubS_calls _ _ _).mono ?_
      rintro e w' ⟨rfl, rfl⟩
      go_wp2_with fail
      refine (rsubS_calls _ _ _).mono ?_
      rintro e w' ⟨rfl, rfl⟩
      go_wp2_with fail
      go_ret2
      exact ⟨rfl, rfl⟩
    · rw [if_neg h, if_neg h]
      rcases e1 with _ | _ <;> rcases e2 with _ | _
      all_goals
        go_enter Try.func46, Try.ntmps46
        go_wp2_with fail
        refine (rsubS_calls _ _ _).mono ?_
        rintro e w' ⟨rfl, rfl⟩
        rw [H1.out]
        go_wp2_with fail
        refine (rsubS_calls _ _ _).mono ?_
        rintro e w' ⟨rfl, rfl⟩
        rw [H2.out]
        go_wp2_with fail
        go_ret2
        exact ⟨rfl, rfl⟩
  have e1 : ab (sS (sS n a) b) = (if sS (sS n a) b < 0 then 0 else sS (sS n a) b) := rfl
  have e2 : lessB n a b = (if sS (sS n a) b < 0 then false else sSe n a && sSe (sS n a) b) := by
    unfold lessB
    by_cases h : sS (sS n a) b < 0
    · rw [if_pos h, decide_eq_false (by omega)]; simp
    · rw [if_neg h, decide_eq_true (by omega)]; simp
  rw [e1, e2]
  exact WK _ _ rfl rfl

set_option maxRecDepth 20000 in
set_option maxHeartbeats 4000000 in
theorem rinset_no (x y wd h t r b l : Int) (w : World) (hm : mayB x y wd h = false) : Calls Try.prog 29 #[.agg #[.int .i64 x, .int .i64 y, .int .i64 wd, .int .i64 h], .int .i64 t, .int .i64 r, .int .i64 b, .int .i64 l] w (MoveP 0 0 0 0 false w) := by
  have HM := Lib.hid hm
  clear hm
  go_enter Try.func29, Try.ntmps29
  go_wp2_with fail
  refine (scrimref02_Move.calls x y wd h l t 0 0 0 0 false _ (by unfold scrimref02_Move.f moveF; rw [HM.out]; rfl)).mono ?_
  rintro e w1 ⟨rfl, hb⟩
  have K1 : Hid (KT [(w.heap.size + 1, #[.int .i64 0, .int .i64 0, .int .i64 0, .int .i64 0], 50), (w.heap.size, #[.int .i64 x, .int .i64 y, .int .i64 wd, .int .i64 h], 50)] w1) := by
    have := (((KT.nil w).alloc #[.int .i64 x, .int .i64 y, .int .i64 wd, .int .i64 h] 50).alloc #[.int .i64 0, .int .i64 0, .int .i64 0, .int .i64 0] 50).below hb
    rw [World.size_alloc] at this
    exact this
  have B1 := Lib.hid ((((Below.refl w.heap.size w).alloc (Nat.le_refl _) _).alloc (by simp) _).trans (hb.mono (by simp; omega)))
  have z1 : w.heap.size + 1 < w1.heap.size := by have := hb.size; simp at this; omega
  clear hb
  have K2 := Lib.hid (K1.out.alloc #[.int .i64 0, .int .i64 0, .int .i64 0, .int .i64 0] 50)
  obtain ⟨a0, a1, a2, a3⟩ := K2.out.c (b := w.heap.size) (p := .int .i64 x) (q := .int .i64 y) (r := .int .i64 wd) (s := .int .i64 h) (T := 50) (by simp)
  go_wp2_with fail
  refine (rmay_calls _ _ _ _ _).mono ?_
  rintro e w2 ⟨rfl, hb⟩
  rw [HM.out]
  have B2 := Lib.hid ((B1.out.alloc (by omega) _).trans (hb.mono (by simp; omega)))
  have K3 := Lib.hid (K2.out.below hb)
  have z2 : w1.heap.size < w2.heap.size := by have := hb.size; simp at this; omega
  clear hb a0 a1 a2 a3
  have R := Lib.hid (K3.out (w.heap.size + 1, #[.int .i64 0, .int .i64 0, .int .i64 0, .int .i64 0], 50) (by simp))
  have c0 := R.out.cell 0
  have c1 := R.out.cell 1
  have c2 := R.out.cell 2
  have c3 := R.out.cell 3
  have f0 := R.out.free 0
  have f1 := R.out.free 1
  have f2 := R.out.free 2
  have f3 := R.out.free 3
  simp at c0 c1 c2 c3 f0 f1 f2 f3
  go_wp2_with fail
  exact bodyPost_ret (v := .tuple #[.agg #[.int .i64 0, .int .i64 0, .int .i64 0, .int .i64 0], .bool false]) (by simp [results, Try.results29, go_sem, c0, c1, c2, c3]) rfl
    ⟨rfl, (((B2.out.setCell (by simp) _).setCell (by simp) _).setCell (by simp) _).setCell (by simp) _⟩

set_option maxRecDepth 20000 in
set_option maxHeartbeats 8000000 in
theorem rinset_yes (x y wd h t r b l : Int) (o p q : Bool) (w : World) (hm : mayB x y wd h = true) (h1 : (sAe x l && sAe y t) = o) (h2 : lessB wd l r = p) (h3 : lessB h t b = q) :
    Calls Try.prog 29 #[.agg #[.int .i64 x, .int .i64 y, .int .i64 wd, .int .i64 h], .int .i64 t, .int .i64 r, .int .i64 b, .int .i64 l] w
      (MoveP (sA x l) (sA y t) (ab (sS (sS wd l) r)) (ab (sS (sS h t) b)) (o && p && q) w) := by
  have HM := Lib.hid hm
  have H1 := Lib.hid h1
  have H2 := Lib.hid h2
  have H3 := Lib.hid h3
  clear hm h1 h2 h3
  generalize hX : sA x l = X at *
  generalize hY : sA y t = Y at *
  generalize hWD : ab (sS (sS wd l) r) = WD at *
  generalize hHH : ab (sS (sS h t) b) = HH at *
  have HX := Lib.hid hX
  have HY := Lib.hid hY
  have HWD := Lib.hid hWD
  have HHH := Lib.hid hHH
  clear hX hY hWD hHH
  rcases o with _ | _ <;> rcases p with _ | _
  all_goals
    go_enter Try.func29, Try.ntmps29
    go_wp2_with fail
    refine (scrimref02_Move.calls x y wd h l t X Y wd h _ _ (by unfold scrimref02_Move.f moveF; rw [if_pos HM.out, H1.out, HX.out, HY.out])).mono ?_
    rintro e w1 ⟨rfl, hb⟩
    have K1 : Hid (KT [(w.heap.size + 1, #[.int .i64 0, .int .i64 0, .int .i64 0, .int .i64 0], 50), (w.heap.size, #[.int .i64 x, .int .i64 y, .int .i64 wd, .int .i64 h], 50)] w1) := by
      have := (((KT.nil w).alloc #[.int .i64 x, .int .i64 y, .int .i64 wd, .int .i64 h] 50).alloc #[.int .i64 0, .int .i64 0, .int .i64 0, .int .i64 0] 50).below hb
      rw [World.size_alloc] at this
      exact this
    have B1 := Lib.hid ((((Below.refl w.heap.size w).alloc (Nat.le_refl _) _).alloc (by simp) _).trans (hb.mono (by simp; omega)))
    have z1 : w.heap.size + 1 < w1.heap.size := by have := hb.size; simp at this; omega
    clear hb
    have K2 := Lib.hid (K1.out.alloc #[.int .i64 X, .int .i64 Y, .int .i64 wd, .int .i64 h] 50)
    obtain ⟨a0, a1, a2, a3⟩ := K2.out.c (b := w.heap.size) (p := .int .i64 x) (q := .int .i64 y) (r := .int .i64 wd) (s := .int .i64 h) (T := 50) (by simp)
    go_wp2_with fail
    refine (rmay_calls _ _ _ _ _).mono ?_
    rintro e w2 ⟨rfl, hb⟩
    rw [HM.out]
    have B2 := Lib.hid ((B1.out.alloc (by omega) _).trans (hb.mono (by simp; omega)))
    have K3 := Lib.hid (K2.out.below hb)
    have z2 : w1.heap.size < w2.heap.size := by have := hb.size; simp at this; omega
    clear hb a0 a1 a2 a3
    obtain ⟨a0, a1, a2, a3⟩ := K3.out.c (b := w.heap.size) (p := .int .i64 x) (q := .int .i64 y) (r := .int .i64 wd) (s := .int .i64 h) (T := 50) (by simp)
    go_wp2_with fail
    refine (rless_calls _ _ _ _).mono ?_
    rintro e w' ⟨rfl, rfl⟩
    rw [H2.out, HWD.out]
    go_wp2_with fail
    refine (rless_calls _ _ _ _).mono ?_
    rintro e w' ⟨rfl, rfl⟩
    rw [H3.out, HHH.out]
    obtain ⟨m0, m1, m2, m3⟩ := K3.out.c (b := w1.heap.size) (p := .int .i64 X) (q := .int .i64 Y) (r := .int .i64 wd) (s := .int .i64 h) (T := 50) (by simp)
    have R := Lib.hid (K3.out (w.heap.size + 1, #[.int .i64 0, .int .i64 0, .int .i64 0, .int .i64 0], 50) (by simp))
    have c0 := R.out.cell 0
    have c1 := R.out.cell 1
    have c2 := R.out.cell 2
    have c3 := R.out.cell 3
    have f0 := R.out.free 0
    have f1 := R.out.free 1
    have f2 := R.out.free 2
    have f3 := R.out.free 3
    simp at c0 c1 c2 c3 f0 f1 f2 f3
    go_wp2_with fail
    first
    | exact bodyPost_ret (v := .tuple #[.agg #[.int .i64 X, .int .i64 Y, .int .i64 WD, .int .i64 HH], .bool false]) (by simp [results, Try.results29, go_sem, c0, c1, c2, c3]) rfl
        ⟨rfl, (((B2.out.setCell (by simp) _).setCell (by simp) _).setCell (by simp) _).setCell (by simp) _⟩
    | exact bodyPost_ret (v := .tuple #[.agg #[.int .i64 X, .int .i64 Y, .int .i64 WD, .int .i64 HH], .bool q]) (by simp [results, Try.results29, go_sem, c0, c1, c2, c3]) rfl
        ⟨rfl, (((B2.out.setCell (by simp) _).setCell (by simp) _).setCell (by simp) _).setCell (by simp) _⟩

theorem ins_less (x y wd h t r b l : Int) : (!insR x y wd h t r b l) = ((sAe x l && sAe y t) && lessB wd l r && lessB h t b) := by
  unfold insR lessB
  cases sAe x l <;> cases sAe y t <;> cases sSe wd l <;> cases sSe (sS wd l) r <;> cases sSe h t <;> cases sSe (sS h t) b <;> simp
def scrimref02_Inset.f (a0_0 a0_1 a0_2 a0_3 a1 a2 a3 a4 : Int) : Option (Int × Int × Int × Int × Bool) := some (insetF a0_0 a0_1 a0_2 a0_3 a1 a2 a3 a4)
theorem scrimref02_Inset.calls (a0_0 : Int) (a0_1 : Int) (a0_2 : Int) (a0_3 : Int) (a1 : Int) (a2 : Int) (a3 : Int) (a4 : Int) (r1 : Int) (r2 : Int) (r3 : Int) (r4 : Int) (r5 : Bool) (w : World) (h : scrimref02_Inset.f a0_0 a0_1 a0_2 a0_3 a1 a2 a3 a4 = some (r1, r2, r3, r4, r5)) :
    Calls Try.prog 29 #[.agg #[.int .i64 a0_0, .int .i64 a0_1, .int .i64 a0_2, .int .i64 a0_3], .int .i64 a1, .int .i64 a2, .int .i64 a3, .int .i64 a4] w fun e w' => e = .returned (.tuple #[.agg #[.int .i64 r1, .int .i64 r2, .int .i64 r3, .int .i64 r4], .bool r5]) ∧ Below w.heap.size w w' := by
  have h' : insetF a0_0 a0_1 a0_2 a0_3 a1 a2 a3 a4 = (r1, r2, r3, r4, r5) := Option.some.inj h
  clear h
  unfold insetF at h'
  by_cases hm : mayB a0_0 a0_1 a0_2 a0_3 = true
  · rw [if_pos hm, ins_less] at h'
    simp only [Prod.mk.injEq] at h'
    obtain ⟨rfl, rfl, rfl, rfl, rfl⟩ := h'
    exact (rinset_yes a0_0 a0_1 a0_2 a0_3 a1 a2 a3 a4 _ _ _ w hm rfl rfl rfl).mono fun e w' hp => ⟨hp.e, hp.below⟩
  · rw [if_neg hm] at h'
    simp only [Prod.mk.injEq] at h'
    obtain ⟨rfl, rfl, rfl, rfl, rfl⟩ := h'
    exact (rinset_no a0_0 a0_1 a0_2 a0_3 a1 a2 a3 a4 w (by simpa using hm)).mono fun e w' hp => ⟨hp.e, hp.below⟩
end Go.Proofs.Ytnjheeoogglnaaa.Q
