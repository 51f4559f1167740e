/- RectTells tells true: the code walked by hand (it takes an array). -/
import Derived.Test.YtnjheeoogglnaaaRcP
import Derived.Test.YtnjheeoogglnaaaOps
namespace Go.Proofs.Ytnjheeoogglnaaa.Q
open Go.RowKit Go.IntWalk Go.Proofs.Ytnjheeoogglnaaa.Mem Go.Proofs.YtnjheeoogglnaaaW.PrintWords Go.Proofs.YtnjheeoogglnaaaW.PrintLast Go.Proofs.YtnjheeoogglnaaaW.PrintMore
set_option linter.unusedVariables false
set_option linter.unusedSimpArgs false
attribute [local go_sem] max2_I min2_I max_two min_two
attribute [local go_sem high] eqA50
theorem KT.c0 {L : List (Nat × Array Value × TypeId)} {w : World} (h : KT L w) {b : Nat} {p q r s : Value} {T : TypeId} (hm : (b, #[p, q, r, s], T) ∈ L) : w.cell? ⟨b, 0, none⟩ = some p := (h.c hm).1
theorem KT.c1 {L : List (Nat × Array Value × TypeId)} {w : World} (h : KT L w) {b : Nat} {p q r s : Value} {T : TypeId} (hm : (b, #[p, q, r, s], T) ∈ L) : w.cell? ⟨b, 1, none⟩ = some q := (h.c hm).2.1
theorem KT.c2 {L : List (Nat × Array Value × TypeId)} {w : World} (h : KT L w) {b : Nat} {p q r s : Value} {T : TypeId} (hm : (b, #[p, q, r, s], T) ∈ L) : w.cell? ⟨b, 2, none⟩ = some r := (h.c hm).2.2.1
theorem KT.c3 {L : List (Nat × Array Value × TypeId)} {w : World} (h : KT L w) {b : Nat} {p q r s : Value} {T : TypeId} (hm : (b, #[p, q, r, s], T) ∈ L) : w.cell? ⟨b, 3, none⟩ = some s := (h.c hm).2.2.2
/-- The worlds of the last row: all places are known. -/
def TC (L : List (Nat × Array Value × TypeId)) (w0 : World) (_ : Nat) (w : World) : Prop := KT L w ∧ Below w0.heap.size w0 w

set_option maxRecDepth 100000 in
set_option maxHeartbeats 8000000 in
theorem tells_walk (a0_0 : Int) (a0_1 : Int) (a0_2 : Int) (a0_3 : Int) (a1_0 : Int) (a1_1 : Int) (a1_2 : Int) (a1_3 : Int) (a2_0 a2_1 a2_2 a2_3 : Int) (A0 : Option Addr) (c0 : Nat) (l0 : List S50) (w : World) (hr0 : Kd.C k50 w A0 l0.length l0) (hc0 : l0.length ≤ c0) :
    Calls Try.prog 6 #[.agg #[.int .i64 a0_0, .int .i64 a0_1, .int .i64 a0_2, .int .i64 a0_3], .agg #[.int .i64 a1_0, .int .i64 a1_1, .int .i64 a1_2, .int .i64 a1_3], .agg #[.int .i64 a2_0, .int .i64 a2_1, .int .i64 a2_2, .int .i64 a2_3], .slice A0 l0.length c0] w fun e w' => e = .returned (.bool true) ∧ Below w.heap.size w w' := by
  have HR := Lib.hid hr0
  have HC := Lib.hid hc0
  clear hr0 hc0
  go_enter Try.func6, Try.ntmps6
  go_wp2_with fail
  refine (rawake_calls _).mono ?_
  rintro ee w1 ⟨rfl, hb⟩
  have K1 : Hid (KT [(w.heap.size + 2, #[.int .i64 a2_0, .int .i64 a2_1, .int .i64 a2_2, .int .i64 a2_3], 51), (w.heap.size + 1, #[.int .i64 a1_0, .int .i64 a1_1, .int .i64 a1_2, .int .i64 a1_3], 50), (w.heap.size, #[.int .i64 a0_0, .int .i64 a0_1, .int .i64 a0_2, .int .i64 a0_3], 50)] w1) := by
    have := ((((KT.nil w).alloc #[.int .i64 a0_0, .int .i64 a0_1, .int .i64 a0_2, .int .i64 a0_3] 50).alloc #[.int .i64 a1_0, .int .i64 a1_1, .int .i64 a1_2, .int .i64 a1_3] 50).alloc #[.int .i64 a2_0, .int .i64 a2_1, .int .i64 a2_2, .int .i64 a2_3] 51).below hb
    simp only [World.size_alloc] at this
    exact this
  have B1 := Lib.hid (((((Below.refl w.heap.size w).alloc (Nat.le_refl _) _).alloc (by simp) _).alloc (by simp; omega) _).trans (hb.mono (by simp; omega)))
  have z1 : w.heap.size + 2 < w1.heap.size := by have := hb.size; simp at this; omega
  clear hb 
  by_cases hlen : 100 < l0.length
  · go_wp2_with fail
    go_ret
    exact ⟨rfl, B1.out⟩
  have hlen' : ¬ (100 : Int) < (l0.length : Int) := by omega
  have HL := Lib.hid hlen
  clear hlen
  obtain ⟨m0, m1, m2, m3, em, hM⟩ : ∃ m0 m1 m2 m3 em, moveF a0_0 a0_1 a0_2 a0_3 a2_0 a2_1 = (m0, m1, m2, m3, em) := ⟨_, _, _, _, _, rfl⟩
  obtain ⟨i0, i1, i2, i3, ei, hI⟩ : ∃ i0 i1 i2 i3 ei, insetF a0_0 a0_1 a0_2 a0_3 a2_0 a2_1 a2_2 a2_3 = (i0, i1, i2, i3, ei) := ⟨_, _, _, _, _, rfl⟩
  obtain ⟨t0, t1, t2, t3, et, hT⟩ : ∃ t0 t1 t2 t3 et, meetV a0_0 a0_1 a0_2 a0_3 a1_0 a1_1 a1_2 a1_3 = (t0, t1, t2, t3, et) := ⟨_, _, _, _, _, rfl⟩
  obtain ⟨u0, u1, u2, u3, eu, hU⟩ : ∃ u0 u1 u2 u3 eu, rect_Union.f l0 = some (u0, u1, u2, u3, eu) := ⟨_, _, _, _, _, rfl⟩
  obtain ⟨kU, hkU⟩ := runion_f l0 (by omega)
  rw [hU] at hkU
  obtain ⟨mm, hmm⟩ : ∃ mm, mayB a0_0 a0_1 a0_2 a0_3 = mm := ⟨_, rfl⟩
  obtain ⟨hh, hhh⟩ : ∃ hh, hasB a0_0 a0_1 a0_2 a0_3 a2_0 a2_1 = hh := ⟨_, rfl⟩
  have HhM := Lib.hid hM
  have HhI := Lib.hid hI
  have HhT := Lib.hid hT
  have HhU := Lib.hid hU
  have HhkU := Lib.hid hkU
  have Hhmm := Lib.hid hmm
  have Hhhh := Lib.hid hhh
  clear hM hI hT hU hkU hmm hhh
  obtain ⟨ac0, ac1, ac2, ac3⟩ := K1.out.c (b := w.heap.size) (p := .int .i64 a0_0) (q := .int .i64 a0_1) (r := .int .i64 a0_2) (s := .int .i64 a0_3) (T := 50) (by simp)
  obtain ⟨nc0, nc1, nc2, nc3⟩ := K1.out.c (b := w.heap.size + 2) (p := .int .i64 a2_0) (q := .int .i64 a2_1) (r := .int .i64 a2_2) (s := .int .i64 a2_3) (T := 51) (by simp)
  go_wp2_with fail
  refine (rect_Move.calls a0_0 a0_1 a0_2 a0_3 a2_0 a2_1 m0 m1 m2 m3 em _ (by rw [← HhM.out]; rfl)).mono ?_
  rintro ee w2 ⟨rfl, hb⟩
  have K2 := Lib.hid (K1.out.below hb)
  have B2 := Lib.hid (B1.out.trans (hb.mono (by first | omega | (simp; omega))))
  have z2 : w1.heap.size ≤ w2.heap.size := by have := hb.size; first | omega | (simp at this; omega)
  clear hb ac0 ac1 ac2 ac3 nc0 nc1 nc2 nc3
  have K2a := Lib.hid (K2.out.alloc #[.int .i64 m0, .int .i64 m1, .int .i64 m2, .int .i64 m3] 50)
  have B2a := Lib.hid (B2.out.alloc (by omega) (.cells #[.int .i64 m0, .int .i64 m1, .int .i64 m2, .int .i64 m3] 50))
  obtain ⟨ac0, ac1, ac2, ac3⟩ := K2a.out.c (b := w.heap.size) (p := .int .i64 a0_0) (q := .int .i64 a0_1) (r := .int .i64 a0_2) (s := .int .i64 a0_3) (T := 50) (by simp)
  obtain ⟨nc0, nc1, nc2, nc3⟩ := K2a.out.c (b := w.heap.size + 2) (p := .int .i64 a2_0) (q := .int .i64 a2_1) (r := .int .i64 a2_2) (s := .int .i64 a2_3) (T := 51) (by simp)
  go_wp2_with fail
  refine (scrimref02_Move.calls a0_0 a0_1 a0_2 a0_3 a2_0 a2_1 m0 m1 m2 m3 em _ (by rw [← HhM.out]; rfl)).mono ?_
  rintro ee w3 ⟨rfl, hb⟩
  have K3 := Lib.hid (K2a.out.below hb)
  have B3 := Lib.hid (B2a.out.trans (hb.mono (by first | omega | (simp; omega))))
  have z3 : w2.heap.size + 1 ≤ w3.heap.size := by have := hb.size; first | omega | (simp at this; omega)
  clear hb ac0 ac1 ac2 ac3 nc0 nc1 nc2 nc3
  have K3a := Lib.hid (K3.out.alloc #[.int .i64 m0, .int .i64 m1, .int .i64 m2, .int .i64 m3] 50)
  have B3a := Lib.hid (B3.out.alloc (by omega) (.cells #[.int .i64 m0, .int .i64 m1, .int .i64 m2, .int .i64 m3] 50))
  obtain ⟨ac0, ac1, ac2, ac3⟩ := K3a.out.c (b := w.heap.size) (p := .int .i64 a0_0) (q := .int .i64 a0_1) (r := .int .i64 a0_2) (s := .int .i64 a0_3) (T := 50) (by simp)
  obtain ⟨nc0, nc1, nc2, nc3⟩ := K3a.out.c (b := w.heap.size + 2) (p := .int .i64 a2_0) (q := .int .i64 a2_1) (r := .int .i64 a2_2) (s := .int .i64 a2_3) (T := 51) (by simp)
  go_wp2_with fail
  refine (rect_Inset.calls a0_0 a0_1 a0_2 a0_3 a2_0 a2_1 a2_2 a2_3 i0 i1 i2 i3 ei _ (by rw [← HhI.out]; rfl)).mono ?_
  rintro ee w4 ⟨rfl, hb⟩
  have K4 := Lib.hid (K3a.out.below hb)
  have B4 := Lib.hid (B3a.out.trans (hb.mono (by first | omega | (simp; omega))))
  have z4 : w3.heap.size + 1 ≤ w4.heap.size := by have := hb.size; first | omega | (simp at this; omega)
  clear hb ac0 ac1 ac2 ac3 nc0 nc1 nc2 nc3
  have K4a := Lib.hid (K4.out.alloc #[.int .i64 i0, .int .i64 i1, .int .i64 i2, .int .i64 i3] 50)
  have B4a := Lib.hid (B4.out.alloc (by omega) (.cells #[.int .i64 i0, .int .i64 i1, .int .i64 i2, .int .i64 i3] 50))
  obtain ⟨ac0, ac1, ac2, ac3⟩ := K4a.out.c (b := w.heap.size) (p := .int .i64 a0_0) (q := .int .i64 a0_1) (r := .int .i64 a0_2) (s := .int .i64 a0_3) (T := 50) (by simp)
  obtain ⟨nc0, nc1, nc2, nc3⟩ := K4a.out.c (b := w.heap.size + 2) (p := .int .i64 a2_0) (q := .int .i64 a2_1) (r := .int .i64 a2_2) (s := .int .i64 a2_3) (T := 51) (by simp)
  go_wp2_with fail
  refine (scrimref02_Inset.calls a0_0 a0_1 a0_2 a0_3 a2_0 a2_1 a2_2 a2_3 i0 i1 i2 i3 ei _ (by rw [← HhI.out]; rfl)).mono ?_
  rintro ee w5 ⟨rfl, hb⟩
  have K5 := Lib.hid (K4a.out.below hb)
  have B5 := Lib.hid (B4a.out.trans (hb.mono (by first | omega | (simp; omega))))
  have z5 : w4.heap.size + 1 ≤ w5.heap.size := by have := hb.size; first | omega | (simp at this; omega)
  clear hb ac0 ac1 ac2 ac3 nc0 nc1 nc2 nc3
  have K5a := Lib.hid (K5.out.alloc #[.int .i64 i0, .int .i64 i1, .int .i64 i2, .int .i64 i3] 50)
  have B5a := Lib.hid (B5.out.alloc (by omega) (.cells #[.int .i64 i0, .int .i64 i1, .int .i64 i2, .int .i64 i3] 50))
  go_wp2_with fail
  refine (rect_Union.calls A0 c0 l0 u0 u1 u2 u3 eu _ (Kd.C_below HR.out (by first | exact B5a.out | exact B5a.out.trans (Below.refl _ _))) HC.out HhU.out).mono ?_
  rintro ee w6 ⟨rfl, hb⟩
  have K6 := Lib.hid (K5a.out.below hb)
  have B6 := Lib.hid (B5a.out.trans (hb.mono (by first | omega | (simp; omega))))
  have z6 : w5.heap.size + 1 ≤ w6.heap.size := by have := hb.size; first | omega | (simp at this; omega)
  clear hb 
  have K6a := Lib.hid (K6.out.alloc #[.int .i64 u0, .int .i64 u1, .int .i64 u2, .int .i64 u3] 50)
  have B6a := Lib.hid (B6.out.alloc (by omega) (.cells #[.int .i64 u0, .int .i64 u1, .int .i64 u2, .int .i64 u3] 50))
  go_wp2_with fail
  refine (scrimref02_Union.calls kU A0 c0 l0 u0 u1 u2 u3 eu _ (Kd.C_below HR.out (by first | exact B6a.out | exact B6a.out.trans (Below.refl _ _))) HC.out HhkU.out).mono ?_
  rintro ee w7 ⟨rfl, hb⟩
  have K7 := Lib.hid (K6a.out.below hb)
  have B7 := Lib.hid (B6a.out.trans (hb.mono (by first | omega | (simp; omega))))
  have z7 : w6.heap.size + 1 ≤ w7.heap.size := by have := hb.size; first | omega | (simp at this; omega)
  clear hb 
  have K7a := Lib.hid (K7.out.alloc #[.int .i64 u0, .int .i64 u1, .int .i64 u2, .int .i64 u3] 50)
  have B7a := Lib.hid (B7.out.alloc (by omega) (.cells #[.int .i64 u0, .int .i64 u1, .int .i64 u2, .int .i64 u3] 50))
  obtain ⟨ac0, ac1, ac2, ac3⟩ := K7a.out.c (b := w.heap.size) (p := .int .i64 a0_0) (q := .int .i64 a0_1) (r := .int .i64 a0_2) (s := .int .i64 a0_3) (T := 50) (by simp)
  obtain ⟨bc0, bc1, bc2, bc3⟩ := K7a.out.c (b := w.heap.size + 1) (p := .int .i64 a1_0) (q := .int .i64 a1_1) (r := .int .i64 a1_2) (s := .int .i64 a1_3) (T := 50) (by simp)
  go_wp2_with fail
  refine (rect_Meet.calls 1 a0_0 a0_1 a0_2 a0_3 a1_0 a1_1 a1_2 a1_3 t0 t1 t2 t3 et _ (by rw [meet_f 0, HhT.out])).mono ?_
  rintro ee w8 ⟨rfl, hb⟩
  have K8 := Lib.hid (K7a.out.below hb)
  have B8 := Lib.hid (B7a.out.trans (hb.mono (by first | omega | (simp; omega))))
  have z8 : w7.heap.size + 1 ≤ w8.heap.size := by have := hb.size; first | omega | (simp at this; omega)
  clear hb ac0 ac1 ac2 ac3 bc0 bc1 bc2 bc3
  have K8a := Lib.hid (K8.out.alloc #[.int .i64 t0, .int .i64 t1, .int .i64 t2, .int .i64 t3] 50)
  have B8a := Lib.hid (B8.out.alloc (by omega) (.cells #[.int .i64 t0, .int .i64 t1, .int .i64 t2, .int .i64 t3] 50))
  obtain ⟨ac0, ac1, ac2, ac3⟩ := K8a.out.c (b := w.heap.size) (p := .int .i64 a0_0) (q := .int .i64 a0_1) (r := .int .i64 a0_2) (s := .int .i64 a0_3) (T := 50) (by simp)
  obtain ⟨bc0, bc1, bc2, bc3⟩ := K8a.out.c (b := w.heap.size + 1) (p := .int .i64 a1_0) (q := .int .i64 a1_1) (r := .int .i64 a1_2) (s := .int .i64 a1_3) (T := 50) (by simp)
  go_wp2_with fail
  refine (scrimref02_Meet.calls 2 a0_0 a0_1 a0_2 a0_3 a1_0 a1_1 a1_2 a1_3 t0 t1 t2 t3 et _ (by rw [rmeet_f 0, HhT.out])).mono ?_
  rintro ee w9 ⟨rfl, hb⟩
  have K9 := Lib.hid (K8a.out.below hb)
  have B9 := Lib.hid (B8a.out.trans (hb.mono (by first | omega | (simp; omega))))
  have z9 : w8.heap.size + 1 ≤ w9.heap.size := by have := hb.size; first | omega | (simp at this; omega)
  clear hb ac0 ac1 ac2 ac3 bc0 bc1 bc2 bc3
  have K9a := Lib.hid (K9.out.alloc #[.int .i64 t0, .int .i64 t1, .int .i64 t2, .int .i64 t3] 50)
  have B9a := Lib.hid (B9.out.alloc (by omega) (.cells #[.int .i64 t0, .int .i64 t1, .int .i64 t2, .int .i64 t3] 50))
  go_wp2_with fail
  obtain ⟨LK, hLK⟩ : ∃ LK : List (Nat × Array Value × TypeId), LK = [(w9.heap.size, #[.int .i64 t0, .int .i64 t1, .int .i64 t2, .int .i64 t3], 50), (w8.heap.size, #[.int .i64 t0, .int .i64 t1, .int .i64 t2, .int .i64 t3], 50), (w7.heap.size, #[.int .i64 u0, .int .i64 u1, .int .i64 u2, .int .i64 u3], 50), (w6.heap.size, #[.int .i64 u0, .int .i64 u1, .int .i64 u2, .int .i64 u3], 50), (w5.heap.size, #[.int .i64 i0, .int .i64 i1, .int .i64 i2, .int .i64 i3], 50), (w4.heap.size, #[.int .i64 i0, .int .i64 i1, .int .i64 i2, .int .i64 i3], 50), (w3.heap.size, #[.int .i64 m0, .int .i64 m1, .int .i64 m2, .int .i64 m3], 50), (w2.heap.size, #[.int .i64 m0, .int .i64 m1, .int .i64 m2, .int .i64 m3], 50), (w.heap.size + 2, #[.int .i64 a2_0, .int .i64 a2_1, .int .i64 a2_2, .int .i64 a2_3], 51), (w.heap.size + 1, #[.int .i64 a1_0, .int .i64 a1_1, .int .i64 a1_2, .int .i64 a1_3], 50), (w.heap.size, #[.int .i64 a0_0, .int .i64 a0_1, .int .i64 a0_2, .int .i64 a0_3], 50)] := ⟨_, rfl⟩
  have KL : Hid (KT LK (w9.alloc (.cells #[.int .i64 t0, .int .i64 t1, .int .i64 t2, .int .i64 t3] 50))) := by rw [hLK]; exact K9a.out
  have hC0 : TC LK w 0 (w9.alloc (.cells #[.int .i64 t0, .int .i64 t1, .int .i64 t2, .int .i64 t3] 50)).drew := ⟨KL.out, below_drew B9a.out⟩
  have n0 : Nonempty (Mix.Wd (TC LK w) 0) := ⟨⟨_, 0, Nat.le_refl _, hC0⟩⟩
  have hq : ∀ (y : Mix.Wd (TC LK w) 0), KT LK y.1 := by rintro ⟨y, i, _, hy⟩; exact hy.1
  have ac0 : ∀ (y : Mix.Wd (TC LK w) 0), y.1.cell? ⟨w.heap.size, 0, none⟩ = some (.int .i64 a0_0) := fun y => (hq y).c0 (b := w.heap.size) (p := .int .i64 a0_0) (q := .int .i64 a0_1) (r := .int .i64 a0_2) (s := .int .i64 a0_3) (T := 50) (by rw [hLK]; simp)
  have ac1 : ∀ (y : Mix.Wd (TC LK w) 0), y.1.cell? ⟨w.heap.size, 1, none⟩ = some (.int .i64 a0_1) := fun y => (hq y).c1 (b := w.heap.size) (p := .int .i64 a0_0) (q := .int .i64 a0_1) (r := .int .i64 a0_2) (s := .int .i64 a0_3) (T := 50) (by rw [hLK]; simp)
  have ac2 : ∀ (y : Mix.Wd (TC LK w) 0), y.1.cell? ⟨w.heap.size, 2, none⟩ = some (.int .i64 a0_2) := fun y => (hq y).c2 (b := w.heap.size) (p := .int .i64 a0_0) (q := .int .i64 a0_1) (r := .int .i64 a0_2) (s := .int .i64 a0_3) (T := 50) (by rw [hLK]; simp)
  have ac3 : ∀ (y : Mix.Wd (TC LK w) 0), y.1.cell? ⟨w.heap.size, 3, none⟩ = some (.int .i64 a0_3) := fun y => (hq y).c3 (b := w.heap.size) (p := .int .i64 a0_0) (q := .int .i64 a0_1) (r := .int .i64 a0_2) (s := .int .i64 a0_3) (T := 50) (by rw [hLK]; simp)
  have nc0 : ∀ (y : Mix.Wd (TC LK w) 0), y.1.cell? ⟨w.heap.size + 2, 0, none⟩ = some (.int .i64 a2_0) := fun y => (hq y).c0 (b := w.heap.size + 2) (p := .int .i64 a2_0) (q := .int .i64 a2_1) (r := .int .i64 a2_2) (s := .int .i64 a2_3) (T := 51) (by rw [hLK]; simp)
  have nc1 : ∀ (y : Mix.Wd (TC LK w) 0), y.1.cell? ⟨w.heap.size + 2, 1, none⟩ = some (.int .i64 a2_1) := fun y => (hq y).c1 (b := w.heap.size + 2) (p := .int .i64 a2_0) (q := .int .i64 a2_1) (r := .int .i64 a2_2) (s := .int .i64 a2_3) (T := 51) (by rw [hLK]; simp)
  have nc2 : ∀ (y : Mix.Wd (TC LK w) 0), y.1.cell? ⟨w.heap.size + 2, 2, none⟩ = some (.int .i64 a2_2) := fun y => (hq y).c2 (b := w.heap.size + 2) (p := .int .i64 a2_0) (q := .int .i64 a2_1) (r := .int .i64 a2_2) (s := .int .i64 a2_3) (T := 51) (by rw [hLK]; simp)
  have nc3 : ∀ (y : Mix.Wd (TC LK w) 0), y.1.cell? ⟨w.heap.size + 2, 3, none⟩ = some (.int .i64 a2_3) := fun y => (hq y).c3 (b := w.heap.size + 2) (p := .int .i64 a2_0) (q := .int .i64 a2_1) (r := .int .i64 a2_2) (s := .int .i64 a2_3) (T := 51) (by rw [hLK]; simp)
  have m1c0 : ∀ (y : Mix.Wd (TC LK w) 0), y.1.cell? ⟨w2.heap.size, 0, none⟩ = some (.int .i64 m0) := fun y => (hq y).c0 (b := w2.heap.size) (p := .int .i64 m0) (q := .int .i64 m1) (r := .int .i64 m2) (s := .int .i64 m3) (T := 50) (by rw [hLK]; simp)
  have m1c1 : ∀ (y : Mix.Wd (TC LK w) 0), y.1.cell? ⟨w2.heap.size, 1, none⟩ = some (.int .i64 m1) := fun y => (hq y).c1 (b := w2.heap.size) (p := .int .i64 m0) (q := .int .i64 m1) (r := .int .i64 m2) (s := .int .i64 m3) (T := 50) (by rw [hLK]; simp)
  have m1c2 : ∀ (y : Mix.Wd (TC LK w) 0), y.1.cell? ⟨w2.heap.size, 2, none⟩ = some (.int .i64 m2) := fun y => (hq y).c2 (b := w2.heap.size) (p := .int .i64 m0) (q := .int .i64 m1) (r := .int .i64 m2) (s := .int .i64 m3) (T := 50) (by rw [hLK]; simp)
  have m1c3 : ∀ (y : Mix.Wd (TC LK w) 0), y.1.cell? ⟨w2.heap.size, 3, none⟩ = some (.int .i64 m3) := fun y => (hq y).c3 (b := w2.heap.size) (p := .int .i64 m0) (q := .int .i64 m1) (r := .int .i64 m2) (s := .int .i64 m3) (T := 50) (by rw [hLK]; simp)
  have m2c0 : ∀ (y : Mix.Wd (TC LK w) 0), y.1.cell? ⟨w3.heap.size, 0, none⟩ = some (.int .i64 m0) := fun y => (hq y).c0 (b := w3.heap.size) (p := .int .i64 m0) (q := .int .i64 m1) (r := .int .i64 m2) (s := .int .i64 m3) (T := 50) (by rw [hLK]; simp)
  have m2c1 : ∀ (y : Mix.Wd (TC LK w) 0), y.1.cell? ⟨w3.heap.size, 1, none⟩ = some (.int .i64 m1) := fun y => (hq y).c1 (b := w3.heap.size) (p := .int .i64 m0) (q := .int .i64 m1) (r := .int .i64 m2) (s := .int .i64 m3) (T := 50) (by rw [hLK]; simp)
  have m2c2 : ∀ (y : Mix.Wd (TC LK w) 0), y.1.cell? ⟨w3.heap.size, 2, none⟩ = some (.int .i64 m2) := fun y => (hq y).c2 (b := w3.heap.size) (p := .int .i64 m0) (q := .int .i64 m1) (r := .int .i64 m2) (s := .int .i64 m3) (T := 50) (by rw [hLK]; simp)
  have m2c3 : ∀ (y : Mix.Wd (TC LK w) 0), y.1.cell? ⟨w3.heap.size, 3, none⟩ = some (.int .i64 m3) := fun y => (hq y).c3 (b := w3.heap.size) (p := .int .i64 m0) (q := .int .i64 m1) (r := .int .i64 m2) (s := .int .i64 m3) (T := 50) (by rw [hLK]; simp)
  have i1c0 : ∀ (y : Mix.Wd (TC LK w) 0), y.1.cell? ⟨w4.heap.size, 0, none⟩ = some (.int .i64 i0) := fun y => (hq y).c0 (b := w4.heap.size) (p := .int .i64 i0) (q := .int .i64 i1) (r := .int .i64 i2) (s := .int .i64 i3) (T := 50) (by rw [hLK]; simp)
  have i1c1 : ∀ (y : Mix.Wd (TC LK w) 0), y.1.cell? ⟨w4.heap.size, 1, none⟩ = some (.int .i64 i1) := fun y => (hq y).c1 (b := w4.heap.size) (p := .int .i64 i0) (q := .int .i64 i1) (r := .int .i64 i2) (s := .int .i64 i3) (T := 50) (by rw [hLK]; simp)
  have i1c2 : ∀ (y : Mix.Wd (TC LK w) 0), y.1.cell? ⟨w4.heap.size, 2, none⟩ = some (.int .i64 i2) := fun y => (hq y).c2 (b := w4.heap.size) (p := .int .i64 i0) (q := .int .i64 i1) (r := .int .i64 i2) (s := .int .i64 i3) (T := 50) (by rw [hLK]; simp)
  have i1c3 : ∀ (y : Mix.Wd (TC LK w) 0), y.1.cell? ⟨w4.heap.size, 3, none⟩ = some (.int .i64 i3) := fun y => (hq y).c3 (b := w4.heap.size) (p := .int .i64 i0) (q := .int .i64 i1) (r := .int .i64 i2) (s := .int .i64 i3) (T := 50) (by rw [hLK]; simp)
  have i2c0 : ∀ (y : Mix.Wd (TC LK w) 0), y.1.cell? ⟨w5.heap.size, 0, none⟩ = some (.int .i64 i0) := fun y => (hq y).c0 (b := w5.heap.size) (p := .int .i64 i0) (q := .int .i64 i1) (r := .int .i64 i2) (s := .int .i64 i3) (T := 50) (by rw [hLK]; simp)
  have i2c1 : ∀ (y : Mix.Wd (TC LK w) 0), y.1.cell? ⟨w5.heap.size, 1, none⟩ = some (.int .i64 i1) := fun y => (hq y).c1 (b := w5.heap.size) (p := .int .i64 i0) (q := .int .i64 i1) (r := .int .i64 i2) (s := .int .i64 i3) (T := 50) (by rw [hLK]; simp)
  have i2c2 : ∀ (y : Mix.Wd (TC LK w) 0), y.1.cell? ⟨w5.heap.size, 2, none⟩ = some (.int .i64 i2) := fun y => (hq y).c2 (b := w5.heap.size) (p := .int .i64 i0) (q := .int .i64 i1) (r := .int .i64 i2) (s := .int .i64 i3) (T := 50) (by rw [hLK]; simp)
  have i2c3 : ∀ (y : Mix.Wd (TC LK w) 0), y.1.cell? ⟨w5.heap.size, 3, none⟩ = some (.int .i64 i3) := fun y => (hq y).c3 (b := w5.heap.size) (p := .int .i64 i0) (q := .int .i64 i1) (r := .int .i64 i2) (s := .int .i64 i3) (T := 50) (by rw [hLK]; simp)
  have u1c0 : ∀ (y : Mix.Wd (TC LK w) 0), y.1.cell? ⟨w6.heap.size, 0, none⟩ = some (.int .i64 u0) := fun y => (hq y).c0 (b := w6.heap.size) (p := .int .i64 u0) (q := .int .i64 u1) (r := .int .i64 u2) (s := .int .i64 u3) (T := 50) (by rw [hLK]; simp)
  have u1c1 : ∀ (y : Mix.Wd (TC LK w) 0), y.1.cell? ⟨w6.heap.size, 1, none⟩ = some (.int .i64 u1) := fun y => (hq y).c1 (b := w6.heap.size) (p := .int .i64 u0) (q := .int .i64 u1) (r := .int .i64 u2) (s := .int .i64 u3) (T := 50) (by rw [hLK]; simp)
  have u1c2 : ∀ (y : Mix.Wd (TC LK w) 0), y.1.cell? ⟨w6.heap.size, 2, none⟩ = some (.int .i64 u2) := fun y => (hq y).c2 (b := w6.heap.size) (p := .int .i64 u0) (q := .int .i64 u1) (r := .int .i64 u2) (s := .int .i64 u3) (T := 50) (by rw [hLK]; simp)
  have u1c3 : ∀ (y : Mix.Wd (TC LK w) 0), y.1.cell? ⟨w6.heap.size, 3, none⟩ = some (.int .i64 u3) := fun y => (hq y).c3 (b := w6.heap.size) (p := .int .i64 u0) (q := .int .i64 u1) (r := .int .i64 u2) (s := .int .i64 u3) (T := 50) (by rw [hLK]; simp)
  have u2c0 : ∀ (y : Mix.Wd (TC LK w) 0), y.1.cell? ⟨w7.heap.size, 0, none⟩ = some (.int .i64 u0) := fun y => (hq y).c0 (b := w7.heap.size) (p := .int .i64 u0) (q := .int .i64 u1) (r := .int .i64 u2) (s := .int .i64 u3) (T := 50) (by rw [hLK]; simp)
  have u2c1 : ∀ (y : Mix.Wd (TC LK w) 0), y.1.cell? ⟨w7.heap.size, 1, none⟩ = some (.int .i64 u1) := fun y => (hq y).c1 (b := w7.heap.size) (p := .int .i64 u0) (q := .int .i64 u1) (r := .int .i64 u2) (s := .int .i64 u3) (T := 50) (by rw [hLK]; simp)
  have u2c2 : ∀ (y : Mix.Wd (TC LK w) 0), y.1.cell? ⟨w7.heap.size, 2, none⟩ = some (.int .i64 u2) := fun y => (hq y).c2 (b := w7.heap.size) (p := .int .i64 u0) (q := .int .i64 u1) (r := .int .i64 u2) (s := .int .i64 u3) (T := 50) (by rw [hLK]; simp)
  have u2c3 : ∀ (y : Mix.Wd (TC LK w) 0), y.1.cell? ⟨w7.heap.size, 3, none⟩ = some (.int .i64 u3) := fun y => (hq y).c3 (b := w7.heap.size) (p := .int .i64 u0) (q := .int .i64 u1) (r := .int .i64 u2) (s := .int .i64 u3) (T := 50) (by rw [hLK]; simp)
  have t1c0 : ∀ (y : Mix.Wd (TC LK w) 0), y.1.cell? ⟨w8.heap.size, 0, none⟩ = some (.int .i64 t0) := fun y => (hq y).c0 (b := w8.heap.size) (p := .int .i64 t0) (q := .int .i64 t1) (r := .int .i64 t2) (s := .int .i64 t3) (T := 50) (by rw [hLK]; simp)
  have t1c1 : ∀ (y : Mix.Wd (TC LK w) 0), y.1.cell? ⟨w8.heap.size, 1, none⟩ = some (.int .i64 t1) := fun y => (hq y).c1 (b := w8.heap.size) (p := .int .i64 t0) (q := .int .i64 t1) (r := .int .i64 t2) (s := .int .i64 t3) (T := 50) (by rw [hLK]; simp)
  have t1c2 : ∀ (y : Mix.Wd (TC LK w) 0), y.1.cell? ⟨w8.heap.size, 2, none⟩ = some (.int .i64 t2) := fun y => (hq y).c2 (b := w8.heap.size) (p := .int .i64 t0) (q := .int .i64 t1) (r := .int .i64 t2) (s := .int .i64 t3) (T := 50) (by rw [hLK]; simp)
  have t1c3 : ∀ (y : Mix.Wd (TC LK w) 0), y.1.cell? ⟨w8.heap.size, 3, none⟩ = some (.int .i64 t3) := fun y => (hq y).c3 (b := w8.heap.size) (p := .int .i64 t0) (q := .int .i64 t1) (r := .int .i64 t2) (s := .int .i64 t3) (T := 50) (by rw [hLK]; simp)
  have t2c0 : ∀ (y : Mix.Wd (TC LK w) 0), y.1.cell? ⟨w9.heap.size, 0, none⟩ = some (.int .i64 t0) := fun y => (hq y).c0 (b := w9.heap.size) (p := .int .i64 t0) (q := .int .i64 t1) (r := .int .i64 t2) (s := .int .i64 t3) (T := 50) (by rw [hLK]; simp)
  have t2c1 : ∀ (y : Mix.Wd (TC LK w) 0), y.1.cell? ⟨w9.heap.size, 1, none⟩ = some (.int .i64 t1) := fun y => (hq y).c1 (b := w9.heap.size) (p := .int .i64 t0) (q := .int .i64 t1) (r := .int .i64 t2) (s := .int .i64 t3) (T := 50) (by rw [hLK]; simp)
  have t2c2 : ∀ (y : Mix.Wd (TC LK w) 0), y.1.cell? ⟨w9.heap.size, 2, none⟩ = some (.int .i64 t2) := fun y => (hq y).c2 (b := w9.heap.size) (p := .int .i64 t0) (q := .int .i64 t1) (r := .int .i64 t2) (s := .int .i64 t3) (T := 50) (by rw [hLK]; simp)
  have t2c3 : ∀ (y : Mix.Wd (TC LK w) 0), y.1.cell? ⟨w9.heap.size, 3, none⟩ = some (.int .i64 t3) := fun y => (hq y).c3 (b := w9.heap.size) (p := .int .i64 t0) (q := .int .i64 t1) (r := .int .i64 t2) (s := .int .i64 t3) (T := 50) (by rw [hLK]; simp)
  have C1 : Hid (∀ y, TC LK w 0 y → Calls Try.prog 34 #[.agg #[.int .i64 a0_0, .int .i64 a0_1, .int .i64 a0_2, .int .i64 a0_3]] y fun e y' => e = .returned (.bool mm) ∧ TC LK w 1 y') := Lib.hid fun y hy => (rect_May.calls a0_0 a0_1 a0_2 a0_3 mm _ (by rw [← Hhmm.out]; rfl)).mono fun e y' ⟨he, hb⟩ => ⟨he, hy.1.below hb, hy.2.trans (hb.mono hy.2.size)⟩
  have C2 : Hid (∀ y, TC LK w 1 y → Calls Try.prog 35 #[.agg #[.int .i64 a0_0, .int .i64 a0_1, .int .i64 a0_2, .int .i64 a0_3]] y fun e y' => e = .returned (.bool mm) ∧ TC LK w 2 y') := Lib.hid fun y hy => (scrimref02_May.calls a0_0 a0_1 a0_2 a0_3 mm _ (by rw [← Hhmm.out]; rfl)).mono fun e y' ⟨he, hb⟩ => ⟨he, hy.1.below hb, hy.2.trans (hb.mono hy.2.size)⟩
  have C3 : Hid (∀ y, TC LK w 2 y → Calls Try.prog 36 #[.agg #[.int .i64 a0_0, .int .i64 a0_1, .int .i64 a0_2, .int .i64 a0_3], .int .i64 a2_0, .int .i64 a2_1] y fun e y' => e = .returned (.bool hh) ∧ TC LK w 3 y') := Lib.hid fun y hy => (rect_Has.calls a0_0 a0_1 a0_2 a0_3 a2_0 a2_1 hh _ (by rw [has_f, Hhhh.out])).mono fun e y' ⟨he, hb⟩ => ⟨he, hy.1.below hb, hy.2.trans (hb.mono hy.2.size)⟩
  have C4 : Hid (∀ y, TC LK w 3 y → Calls Try.prog 37 #[.agg #[.int .i64 a0_0, .int .i64 a0_1, .int .i64 a0_2, .int .i64 a0_3], .int .i64 a2_0, .int .i64 a2_1] y fun e y' => e = .returned (.bool hh) ∧ TC LK w 4 y') := Lib.hid fun y hy => (scrimref02_Has.calls 1 a0_0 a0_1 a0_2 a0_3 a2_0 a2_1 hh _ (by rw [rhas_f 0, Hhhh.out])).mono fun e y' ⟨he, hb⟩ => ⟨he, hy.1.below hb, hy.2.trans (hb.mono hy.2.size)⟩
  have HC0 := Lib.hid hC0
  clear hC0 hq hLK
  refine Mix.wp_region_mix (C := TC LK w) [1, 3, 11, 17] (by kernel_rfl) (by kernel_rfl) HC0.out ?_
  iterate 1 (refine Mix.mix_still (by decide) (fun K hK => ?_); go_simp; refine hK _ ?_; clear hK K)
  (refine Mix.mix_turn (by decide) (fun K hK => ?_); go_simp; refine ⟨_, C1.out, hK _ ?_⟩; clear hK K)
  iterate 1 (refine Mix.mix_still (by decide) (fun K hK => ?_); go_simp; refine hK _ ?_; clear hK K)
  (refine Mix.mix_turn (by decide) (fun K hK => ?_); go_simp; refine ⟨_, C2.out, hK _ ?_⟩; clear hK K)
  iterate 7 (refine Mix.mix_still (by decide) (fun K hK => ?_); go_simp; refine hK _ ?_; clear hK K)
  (refine Mix.mix_turn (by decide) (fun K hK => ?_); go_simp; refine ⟨_, C3.out, hK _ ?_⟩; clear hK K)
  iterate 5 (refine Mix.mix_still (by decide) (fun K hK => ?_); go_simp; refine hK _ ?_; clear hK K)
  (refine Mix.mix_turn (by decide) (fun K hK => ?_); go_simp; refine ⟨_, C4.out, hK _ ?_⟩; clear hK K)
  iterate 43 (refine Mix.mix_still (by decide) (fun K hK => ?_); go_simp; refine hK _ ?_; clear hK K)
  refine Mix.mix_nil ?_
  intro w' hw'
  have B9 := Lib.hid hw'.2
  clear hw' ac0 ac1 ac2 ac3 nc0 nc1 nc2 nc3 m1c0 m1c1 m1c2 m1c3 m2c0 m2c1 m2c2 m2c3 i1c0 i1c1 i1c2 i1c3 i2c0 i2c1 i2c2 i2c3 u1c0 u1c1 u1c2 u1c3 u2c0 u2c1 u2c2 u2c3 t1c0 t1c1 t1c2 t1c3 t2c0 t2c1 t2c2 t2c3
  go_wp2_with fail
  go_ret
  exact ⟨rfl, B9.out⟩
end Go.Proofs.Ytnjheeoogglnaaa.Q
