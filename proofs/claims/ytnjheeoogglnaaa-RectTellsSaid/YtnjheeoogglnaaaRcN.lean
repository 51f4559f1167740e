/- RectInsets tells true: the code walked by hand (it takes an array). -/
import Derived.Test.YtnjheeoogglnaaaRcS
import Derived.Test.YtnjheeoogglnaaaQx3
namespace Go.Proofs.Ytnjheeoogglnaaa.Q
open Go.RowKit Go.IntWalk Go.Proofs.Ytnjheeoogglnaaa.Mem Go.Proofs.YtnjheeoogglnaaaW.PrintWords Go.Proofs.YtnjheeoogglnaaaW.PrintLast Go.Proofs.YtnjheeoogglnaaaW.PrintMore
set_option linter.unusedVariables false
set_option linter.unusedSimpArgs false
attribute [local go_sem] max2_I min2_I max_two min_two max_three min_three max_four min_four
attribute [local go_sem high] eqA50

theorem ab_of {n : Int} (h : 0 ≤ n) : ab n = n := by unfold ab; rw [if_neg (by omega)]
theorem ab_nonneg (n : Int) : 0 ≤ ab n := by unfold ab; split <;> omega
theorem insR_iff (x y wd h t r b l : Int) : insR x y wd h t r b l = false ↔
    sAe x l = true ∧ sAe y t = true ∧ sSe wd l = true ∧ (sSe (sS wd l) r = true ∧ 0 ≤ sS (sS wd l) r) ∧ sSe h t = true ∧ (sSe (sS h t) b = true ∧ 0 ≤ sS (sS h t) b) := by
  unfold insR
  simp only [Bool.or_eq_false_iff, Bool.not_eq_false', Bool.and_eq_true, decide_eq_true_eq, true_and, and_assoc]
structure InsGood (x y wd h t r b l : Int) : Prop where
  ht : -1099511627776 ≤ t ∧ t ≤ 1099511627776
  hr : -1099511627776 ≤ r ∧ r ≤ 1099511627776
  hb : -1099511627776 ≤ b ∧ b ≤ 1099511627776
  hl : -1099511627776 ≤ l ∧ l ≤ 1099511627776
  eq : insetF x y wd h t r b l = (x + l, y + t, wd - l - r, h - t - b, true)
  may : mayB (x + l) (y + t) (wd - l - r) (h - t - b) = true
theorem ins_good {x y wd h t r b l : Int} (hm : mayB x y wd h = true) (he : insR x y wd h t r b l = false) : InsGood x y wd h t r b l := by
  obtain ⟨h1, h2, h3, ⟨h4, h5⟩, h6, h7, h8⟩ := (insR_iff _ _ _ _ _ _ _ _).1 he
  have e3 := sS_of h3
  have e6 := sS_of h6
  rw [e3] at h4 h5
  rw [e6] at h7 h8
  have e4 := sS_of h4
  have e7 := sS_of h7
  rw [e4] at h5
  rw [e7] at h8
  have k1 := (sAe_iff _ _).1 h1
  have k2 := (sAe_iff _ _).1 h2
  have k4 := (sSe_iff _ _).1 h4
  have k7 := (sSe_iff _ _).1 h7
  refine ⟨k2.2.1, k4.2.1, k7.2.1, k1.2.1, ?_, ?_⟩
  · unfold insetF
    rw [if_pos hm, e3, e6, e4, e7, sA_of h1, sA_of h2, ab_of h5, ab_of h8, he]
    rfl
  · rw [mayB_iff]
    omega
theorem ins_zero {x y wd h : Int} (hm : mayB x y wd h = true) : rect_Inset.f x y wd h 0 0 0 0 = some (x, y, wd, h, true) := by
  have q := (mayB_iff _ _ _ _).1 hm
  have a1 : sAe x 0 = true := by rw [sAe_iff]; omega
  have a2 : sAe y 0 = true := by rw [sAe_iff]; omega
  have a3 : sSe wd 0 = true := by rw [sSe_iff]; omega
  have a4 : sSe h 0 = true := by rw [sSe_iff]; omega
  have b3 : sS wd 0 = wd := by rw [sS_of a3]; omega
  have b4 : sS h 0 = h := by rw [sS_of a4]; omega
  have G := ins_good (t := 0) (r := 0) (b := 0) (l := 0) hm (by rw [insR_iff, b3, b4, b3, b4]; exact ⟨a1, a2, a3, ⟨a3, q.2.2.1.1⟩, a4, a4, q.2.2.2.1⟩)
  unfold rect_Inset.f
  rw [G.eq]
  simp
theorem ins_nonneg (x y wd h t r b l : Int) : 0 ≤ (insetF x y wd h t r b l).2.2.1 ∧ 0 ≤ (insetF x y wd h t r b l).2.2.2.1 := by
  unfold insetF
  split
  · exact ⟨ab_nonneg _, ab_nonneg _⟩
  · exact ⟨Int.le_refl _, Int.le_refl _⟩
theorem ins_back {x y wd h t r b l : Int} (hm : mayB x y wd h = true) (G : InsGood x y wd h t r b l) (hb : (insetF (x + l) (y + t) (wd - l - r) (h - t - b) (-t) (-r) (-b) (-l)).2.2.2.2 = true) :
    insetF (x + l) (y + t) (wd - l - r) (h - t - b) (-t) (-r) (-b) (-l) = (x, y, wd, h, true) := by
  have hR : insR (x + l) (y + t) (wd - l - r) (h - t - b) (-t) (-r) (-b) (-l) = false := by
    unfold insetF at hb
    rw [if_pos G.may] at hb
    simpa using hb
  rw [(ins_good G.may hR).eq]
  simp only [Prod.mk.injEq, and_true]
  omega

/-- Places in memory that are known, of whatever types. -/
def KT (L : List (Nat × Array Value × TypeId)) (w : World) : Prop := ∀ p ∈ L, Blk w p.1 p.2.1 p.2.2
theorem KT.below {L : List (Nat × Array Value × TypeId)} {w w' : World} (h : KT L w) (b : Below w.heap.size w w') : KT L w' := fun p hp => (h p hp).below b (h p hp).lt
theorem KT.alloc {L : List (Nat × Array Value × TypeId)} {w : World} (h : KT L w) (cs : Array Value) (T : TypeId) : KT ((w.heap.size, cs, T) :: L) (w.alloc (.cells cs T)) := fun p hp => by
  rcases List.mem_cons.1 hp with rfl | hp
  · exact Blk.alloc _ _ _
  · exact (h p hp).alloc_old _
theorem KT.old {L : List (Nat × Array Value × TypeId)} {w : World} (h : KT L w) (o : Obj) : KT L (w.alloc o) := fun p hp => (h p hp).alloc_old _
theorem KT.nil (w : World) : KT [] w := fun p hp => by cases hp
theorem KT.c {L : List (Nat × Array Value × TypeId)} {w : World} (h : KT L w) {b : Nat} {p q r s : Value} {T : TypeId} (hm : (b, #[p, q, r, s], T) ∈ L) :
    w.cell? ⟨b, 0, none⟩ = some p ∧ w.cell? ⟨b, 1, none⟩ = some q ∧ w.cell? ⟨b, 2, none⟩ = some r ∧ w.cell? ⟨b, 3, none⟩ = some s :=
  ⟨(h _ hm).cell 0, (h _ hm).cell 1, (h _ hm).cell 2, (h _ hm).cell 3⟩

set_option maxRecDepth 20000 in
set_option maxHeartbeats 4000000 in
theorem insets_walk (a0_0 : Int) (a0_1 : Int) (a0_2 : Int) (a0_3 : Int) (a1_0 a1_1 a1_2 a1_3 : Int) (w : World) (g0_0 : ((Lit.int .i64 a0_0).wf = true)) (g0_1 : ((Lit.int .i64 a0_1).wf = true)) (g0_2 : ((Lit.int .i64 a0_2).wf = true)) (g0_3 : ((Lit.int .i64 a0_3).wf = true)) (g1_0 : (Lit.int .i64 a1_0).wf = true) (g1_1 : (Lit.int .i64 a1_1).wf = true) (g1_2 : (Lit.int .i64 a1_2).wf = true) (g1_3 : (Lit.int .i64 a1_3).wf = true) :
    Calls Try.prog 10 #[.agg #[.int .i64 a0_0, .int .i64 a0_1, .int .i64 a0_2, .int .i64 a0_3], .agg #[.int .i64 a1_0, .int .i64 a1_1, .int .i64 a1_2, .int .i64 a1_3]] w fun e w' => e = .returned (.bool true) ∧ Below w.heap.size w w' := by
  clear g0_0 g0_1 g0_2 g0_3 g1_0 g1_1 g1_2 g1_3
  go_enter Try.func10, Try.ntmps10
  go_wp2_with fail
  refine (rawake_calls _).mono ?_
  rintro e w1 ⟨rfl, hb⟩
  have K1 : Hid (KT [(w.heap.size + 1, #[.int .i64 a1_0, .int .i64 a1_1, .int .i64 a1_2, .int .i64 a1_3], 51), (w.heap.size, #[.int .i64 a0_0, .int .i64 a0_1, .int .i64 a0_2, .int .i64 a0_3], 50)] w1) := by
    have := (((KT.nil w).alloc #[.int .i64 a0_0, .int .i64 a0_1, .int .i64 a0_2, .int .i64 a0_3] 50).alloc #[.int .i64 a1_0, .int .i64 a1_1, .int .i64 a1_2, .int .i64 a1_3] 51).below hb
    rw [World.size_alloc] at this
    exact this
  have B1 := Lib.hid ((((Below.refl w.heap.size w).alloc (Nat.le_refl _) _).alloc (by simp) _).trans (hb.mono (by simp; omega)))
  have z1 : w.heap.size + 1 < w1.heap.size := by have := hb.size; simp at this; omega
  clear hb
  obtain ⟨a0, a1, a2, a3⟩ := K1.out.c (b := w.heap.size) (p := .int .i64 a0_0) (q := .int .i64 a0_1) (r := .int .i64 a0_2) (s := .int .i64 a0_3) (T := 50) (by simp)
  go_wp2_with fail
  rcases hm : mayB a0_0 a0_1 a0_2 a0_3 with _ | _
  · refine (rect_May.calls a0_0 a0_1 a0_2 a0_3 false _ (by rw [← hm]; rfl)).mono ?_
    rintro e w2 ⟨rfl, hb⟩
    have B2 := Lib.hid (B1.out.trans (hb.mono (by omega)))
    clear hb a0 a1 a2 a3
    go_wp2_with fail
    go_ret
    exact ⟨rfl, B2.out⟩
  refine (rect_May.calls a0_0 a0_1 a0_2 a0_3 true _ (by rw [← hm]; rfl)).mono ?_
  rintro e w2 ⟨rfl, hb⟩
  have B2 := Lib.hid (B1.out.trans (hb.mono (by omega)))
  have K2 := Lib.hid (K1.out.below hb)
  have z2 : w1.heap.size ≤ w2.heap.size := hb.size
  clear hb a0 a1 a2 a3
  obtain ⟨a0, a1, a2, a3⟩ := K2.out.c (b := w.heap.size) (p := .int .i64 a0_0) (q := .int .i64 a0_1) (r := .int .i64 a0_2) (s := .int .i64 a0_3) (T := 50) (by simp)
  obtain ⟨n0, n1, n2, n3⟩ := K2.out.c (b := w.heap.size + 1) (p := .int .i64 a1_0) (q := .int .i64 a1_1) (r := .int .i64 a1_2) (s := .int .i64 a1_3) (T := 51) (by simp)
  go_wp2_with fail
  obtain ⟨i0, i1, i2, i3, e, hI⟩ : ∃ i0 i1 i2 i3 e, insetF a0_0 a0_1 a0_2 a0_3 a1_0 a1_1 a1_2 a1_3 = (i0, i1, i2, i3, e) := ⟨_, _, _, _, _, rfl⟩
  have hn := ins_nonneg a0_0 a0_1 a0_2 a0_3 a1_0 a1_1 a1_2 a1_3
  rw [hI] at hn
  obtain ⟨hn2, hn3⟩ := hn
  dsimp only at hn2 hn3
  refine (rect_Inset.calls a0_0 a0_1 a0_2 a0_3 a1_0 a1_1 a1_2 a1_3 i0 i1 i2 i3 e _ (by rw [← hI]; rfl)).mono ?_
  rintro ee w3 ⟨rfl, hb⟩
  have B3 := Lib.hid (B2.out.trans (hb.mono (by omega)))
  have K3 := Lib.hid (K2.out.below hb)
  have z3 : w2.heap.size ≤ w3.heap.size := hb.size
  clear hb a0 a1 a2 a3 n0 n1 n2 n3
  obtain ⟨a0, a1, a2, a3⟩ := (K3.out.alloc #[.int .i64 i0, .int .i64 i1, .int .i64 i2, .int .i64 i3] 50).c (b := w.heap.size) (p := .int .i64 a0_0) (q := .int .i64 a0_1) (r := .int .i64 a0_2) (s := .int .i64 a0_3) (T := 50) (by simp)
  go_wp2_with fail
  refine (rect_Inset.calls a0_0 a0_1 a0_2 a0_3 0 0 0 0 a0_0 a0_1 a0_2 a0_3 true _ (ins_zero hm)).mono ?_
  rintro ee w4 ⟨rfl, hb⟩
  have B4 := Lib.hid ((B3.out.alloc (by omega) _).trans (hb.mono (by simp; omega)))
  have K4 := Lib.hid ((K3.out.alloc #[.int .i64 i0, .int .i64 i1, .int .i64 i2, .int .i64 i3] 50).below hb)
  have z4 : w3.heap.size < w4.heap.size := by have := hb.size; simp at this; omega
  clear hb a0 a1 a2 a3
  have K5 := Lib.hid (K4.out.alloc #[.int .i64 a0_0, .int .i64 a0_1, .int .i64 a0_2, .int .i64 a0_3] 50)
  have B5 := Lib.hid (B4.out.alloc (by omega) (.cells #[.int .i64 a0_0, .int .i64 a0_1, .int .i64 a0_2, .int .i64 a0_3] 50))
  obtain ⟨a0, a1, a2, a3⟩ := K5.out.c (b := w.heap.size) (p := .int .i64 a0_0) (q := .int .i64 a0_1) (r := .int .i64 a0_2) (s := .int .i64 a0_3) (T := 50) (by simp)
  obtain ⟨n0, n1, n2, n3⟩ := K5.out.c (b := w.heap.size + 1) (p := .int .i64 a1_0) (q := .int .i64 a1_1) (r := .int .i64 a1_2) (s := .int .i64 a1_3) (T := 51) (by simp)
  obtain ⟨m0, m1, m2, m3⟩ := K5.out.c (b := w3.heap.size) (p := .int .i64 i0) (q := .int .i64 i1) (r := .int .i64 i2) (s := .int .i64 i3) (T := 50) (by simp)
  have l2 : ¬ i2 < 0 := by omega
  have l3 : ¬ i3 < 0 := by omega
  rcases e with _ | _
  · go_wp2_with fail
    go_ret
    exact ⟨rfl, B5.out⟩
  have hR : insR a0_0 a0_1 a0_2 a0_3 a1_0 a1_1 a1_2 a1_3 = false := by
    have := congrArg (fun x => x.2.2.2.2) hI
    unfold insetF at this
    rw [if_pos hm] at this
    simpa using this
  have G := ins_good hm hR
  have hE := hI
  rw [G.eq] at hE
  simp only [Prod.mk.injEq, and_true] at hE
  obtain ⟨rfl, rfl, rfl, rfl⟩ := hE
  obtain ⟨b0, b1, b2, b3, g, hB⟩ : ∃ b0 b1 b2 b3 g, insetF (a0_0 + a1_3) (a0_1 + a1_0) (a0_2 - a1_3 - a1_1) (a0_3 - a1_0 - a1_2) (-a1_0) (-a1_1) (-a1_2) (-a1_3) = (b0, b1, b2, b3, g) := ⟨_, _, _, _, _, rfl⟩
  have v0 : wrap64 (-a1_0) = -a1_0 := wrap64_in _ (by have := G.ht; omega)
  have v1 : wrap64 (-a1_1) = -a1_1 := wrap64_in _ (by have := G.hr; omega)
  have v2 : wrap64 (-a1_2) = -a1_2 := wrap64_in _ (by have := G.hb; omega)
  have v3 : wrap64 (-a1_3) = -a1_3 := wrap64_in _ (by have := G.hl; omega)
  have K6 := K5
  by_cases hp : mnI (mnI (mnI a1_0 a1_1) a1_2) a1_3 ≥ 0
  · have hq : 0 ≤ a1_0 ∧ 0 ≤ a1_1 ∧ 0 ≤ a1_2 ∧ 0 ≤ a1_3 := by
      unfold mnI at hp
      repeat' split at hp
      all_goals omega
    obtain ⟨p0, p1, p2, p3⟩ := hq
    have q1 : ¬ a0_2 - a1_3 - a1_1 > a0_2 := by omega
    have q2 : ¬ a0_3 - a1_0 - a1_2 > a0_3 := by omega
    have q3 : ¬ a0_0 + a1_3 < a0_0 := by omega
    have q4 : ¬ a0_1 + a1_0 < a0_1 := by omega
    go_wp2_with fail
    refine (rect_Inset.calls (a0_0 + a1_3) (a0_1 + a1_0) (a0_2 - a1_3 - a1_1) (a0_3 - a1_0 - a1_2) (-a1_0) (-a1_1) (-a1_2) (-a1_3) b0 b1 b2 b3 g _ (by rw [← hB]; rfl)).mono ?_
    rintro ee w6 ⟨rfl, hb⟩
    have B6 := Lib.hid (B5.out.trans (hb.mono (by simp; omega)))
    have K6 := Lib.hid (K5.out.below hb)
    have z6 : w4.heap.size < w6.heap.size := by have := hb.size; simp at this; omega
    clear hb a0 a1 a2 a3 n0 n1 n2 n3 m0 m1 m2 m3
    have K7 := Lib.hid (K6.out.alloc #[.int .i64 b0, .int .i64 b1, .int .i64 b2, .int .i64 b3] 50)
    have B7 := Lib.hid (B6.out.alloc (by omega) (.cells #[.int .i64 b0, .int .i64 b1, .int .i64 b2, .int .i64 b3] 50))
    obtain ⟨a0, a1, a2, a3⟩ := K7.out.c (b := w.heap.size) (p := .int .i64 a0_0) (q := .int .i64 a0_1) (r := .int .i64 a0_2) (s := .int .i64 a0_3) (T := 50) (by simp)
    obtain ⟨m0, m1, m2, m3⟩ := K7.out.c (b := w3.heap.size) (p := .int .i64 (a0_0 + a1_3)) (q := .int .i64 (a0_1 + a1_0)) (r := .int .i64 (a0_2 - a1_3 - a1_1)) (s := .int .i64 (a0_3 - a1_0 - a1_2)) (T := 50) (by simp)
    go_wp2_with fail
    refine (rect_May.calls (a0_0 + a1_3) (a0_1 + a1_0) (a0_2 - a1_3 - a1_1) (a0_3 - a1_0 - a1_2) true _ (by rw [← G.may]; rfl)).mono ?_
    rintro ee w8 ⟨rfl, hb⟩
    have B8 := Lib.hid (B7.out.trans (hb.mono (by simp; omega)))
    have K8 := Lib.hid (K7.out.below hb)
    clear hb a0 a1 a2 a3 m0 m1 m2 m3
    rcases g with _ | _
    · go_wp2_with fail
      go_ret
      exact ⟨rfl, B8.out⟩
    · have hB' := hB
      rw [ins_back hm G (by rw [hB])] at hB'
      simp only [Prod.mk.injEq, and_true] at hB'
      obtain ⟨rfl, rfl, rfl, rfl⟩ := hB'
      obtain ⟨a0, a1, a2, a3⟩ := K8.out.c (b := w.heap.size) (p := .int .i64 a0_0) (q := .int .i64 a0_1) (r := .int .i64 a0_2) (s := .int .i64 a0_3) (T := 50) (by simp)
      obtain ⟨m0, m1, m2, m3⟩ := K8.out.c (b := w6.heap.size) (p := .int .i64 a0_0) (q := .int .i64 a0_1) (r := .int .i64 a0_2) (s := .int .i64 a0_3) (T := 50) (by simp)
      go_wp2_with fail
      go_ret
      exact ⟨rfl, B8.out⟩
  · go_wp2_with fail
    refine (rect_Inset.calls (a0_0 + a1_3) (a0_1 + a1_0) (a0_2 - a1_3 - a1_1) (a0_3 - a1_0 - a1_2) (-a1_0) (-a1_1) (-a1_2) (-a1_3) b0 b1 b2 b3 g _ (by rw [← hB]; rfl)).mono ?_
    rintro ee w6 ⟨rfl, hb⟩
    have B6 := Lib.hid (B5.out.trans (hb.mono (by simp; omega)))
    have K6 := Lib.hid (K5.out.below hb)
    have z6 : w4.heap.size < w6.heap.size := by have := hb.size; simp at this; omega
    clear hb a0 a1 a2 a3 n0 n1 n2 n3 m0 m1 m2 m3
    have K7 := Lib.hid (K6.out.alloc #[.int .i64 b0, .int .i64 b1, .int .i64 b2, .int .i64 b3] 50)
    have B7 := Lib.hid (B6.out.alloc (by omega) (.cells #[.int .i64 b0, .int .i64 b1, .int .i64 b2, .int .i64 b3] 50))
    obtain ⟨a0, a1, a2, a3⟩ := K7.out.c (b := w.heap.size) (p := .int .i64 a0_0) (q := .int .i64 a0_1) (r := .int .i64 a0_2) (s := .int .i64 a0_3) (T := 50) (by simp)
    obtain ⟨m0, m1, m2, m3⟩ := K7.out.c (b := w3.heap.size) (p := .int .i64 (a0_0 + a1_3)) (q := .int .i64 (a0_1 + a1_0)) (r := .int .i64 (a0_2 - a1_3 - a1_1)) (s := .int .i64 (a0_3 - a1_0 - a1_2)) (T := 50) (by simp)
    go_wp2_with fail
    refine (rect_May.calls (a0_0 + a1_3) (a0_1 + a1_0) (a0_2 - a1_3 - a1_1) (a0_3 - a1_0 - a1_2) true _ (by rw [← G.may]; rfl)).mono ?_
    rintro ee w8 ⟨rfl, hb⟩
    have B8 := Lib.hid (B7.out.trans (hb.mono (by simp; omega)))
    have K8 := Lib.hid (K7.out.below hb)
    clear hb a0 a1 a2 a3 m0 m1 m2 m3
    rcases g with _ | _
    · go_wp2_with fail
      go_ret
      exact ⟨rfl, B8.out⟩
    · have hB' := hB
      rw [ins_back hm G (by rw [hB])] at hB'
      simp only [Prod.mk.injEq, and_true] at hB'
      obtain ⟨rfl, rfl, rfl, rfl⟩ := hB'
      obtain ⟨a0, a1, a2, a3⟩ := K8.out.c (b := w.heap.size) (p := .int .i64 a0_0) (q := .int .i64 a0_1) (r := .int .i64 a0_2) (s := .int .i64 a0_3) (T := 50) (by simp)
      obtain ⟨m0, m1, m2, m3⟩ := K8.out.c (b := w6.heap.size) (p := .int .i64 a0_0) (q := .int .i64 a0_1) (r := .int .i64 a0_2) (s := .int .i64 a0_3) (T := 50) (by simp)
      go_wp2_with fail
      go_ret
      exact ⟨rfl, B8.out⟩
end Go.Proofs.Ytnjheeoogglnaaa.Q
