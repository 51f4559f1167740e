/- What all statements on places look at first: awake tells true. -/
import Derived.Test.YtnjheeoogglnaaaQx5
import Derived.Test.YtnjheeoogglnaaaRcG
namespace Go.Proofs.Ytnjheeoogglnaaa.Q
open Go.RowKit Go.Proofs.Ytnjheeoogglnaaa.Mem Go.Proofs.YtnjheeoogglnaaaW.PrintWords Go.Proofs.YtnjheeoogglnaaaW.PrintLast Go.Proofs.YtnjheeoogglnaaaW.PrintMore
set_option linter.unusedVariables false
set_option linter.unusedSimpArgs false

/-- Places in memory that are known. -/
def Kn (L : List (Nat × Array Value)) (w : World) : Prop := ∀ p ∈ L, Blk w p.1 p.2 50
theorem Kn.below {L : List (Nat × Array Value)} {w w' : World} (h : Kn L w) (b : Below w.heap.size w w') : Kn L w' := fun p hp => (h p hp).below b (h p hp).lt
theorem Kn.alloc {L : List (Nat × Array Value)} {w : World} (h : Kn L w) (cs : Array Value) : Kn ((w.heap.size, cs) :: L) (w.alloc (.cells cs 50)) := fun p hp => by
  rcases List.mem_cons.1 hp with rfl | hp
  · exact Blk.alloc _ _ _
  · exact (h p hp).alloc_old _
theorem Kn.old {L : List (Nat × Array Value)} {w : World} (h : Kn L w) (o : Obj) : Kn L (w.alloc o) := fun p hp => (h p hp).alloc_old _
theorem Kn.nil (w : World) : Kn [] w := fun p hp => by cases hp

theorem aw1 : rect_Meet.f 9 0 0 10 10 5 5 10 10 = some (5, 5, 5, 5, true) := by kernel_rfl
theorem aw2 : rect_Union.f [⟨0, 0, 10, 10⟩, ⟨5, 5, 10, 10⟩] = some (0, 0, 15, 15, true) := by kernel_rfl
theorem aw3 : rect_Move.f 0 0 10 10 3 (-4) = some (3, -4, 10, 10, true) := by kernel_rfl
theorem aw4 : rect_Inset.f 5 5 10 10 1 2 3 4 = some (9, 6, 4, 6, true) := by kernel_rfl
theorem aw5 : rect_Inset.f 0 0 10 10 6 0 6 0 = some (0, 6, 10, 0, false) := by kernel_rfl
theorem aw6 : rect_Has.f 0 0 10 10 9 0 = some true := by kernel_rfl
theorem aw7 : rect_Has.f 0 0 10 10 10 0 = some false := by kernel_rfl
theorem aw8 : rect_May.f 0 0 10 10 = some true := by kernel_rfl
theorem aw9 : rect_May.f 0 0 (-1) 0 = some false := by kernel_rfl

theorem Kn.c {L : List (Nat × Array Value)} {w : World} (h : Kn L w) {b : Nat} {x y wd hh : Int} (hm : (b, #[.int .i64 x, .int .i64 y, .int .i64 wd, .int .i64 hh]) ∈ L) :
    w.cell? ⟨b, 0, none⟩ = some (.int .i64 x) ∧ w.cell? ⟨b, 1, none⟩ = some (.int .i64 y) ∧ w.cell? ⟨b, 2, none⟩ = some (.int .i64 wd) ∧ w.cell? ⟨b, 3, none⟩ = some (.int .i64 hh) :=
  ⟨(h _ hm).cell 0, (h _ hm).cell 1, (h _ hm).cell 2, (h _ hm).cell 3⟩
theorem two_reads {W : World} {b : Nat} {T : TypeId} {p q : S50} (h : Blk W b #[.int .i64 p.f0, .int .i64 p.f1, .int .i64 p.f2, .int .i64 p.f3, .int .i64 q.f0, .int .i64 q.f1, .int .i64 q.f2, .int .i64 q.f3] T) :
    Kd.C k50 W (some ⟨b, 0, none⟩) [p, q].length [p, q] := by
  refine ⟨rfl, by simp, fun _ => ⟨_, rfl, fun j r hr => ?_⟩⟩
  have ea : ∀ n, (⟨b, 0, none⟩ : Addr).add n = ⟨b, n, none⟩ := fun n => by rw [Go.WideShapes.add_plain]; simp
  rcases j with _ | _ | j
  · simp only [List.getElem?_cons_zero, Option.some.injEq] at hr
    subst hr
    refine ⟨_, rfl, k50_mk W p, fun i u hu => ?_⟩
    rw [ea, h.cell]
    rcases i with _ | _ | _ | _ | i
    · simpa using hu
    · simpa using hu
    · simpa using hu
    · simpa using hu
    · simp at hu
  · simp only [List.getElem?_cons_succ, List.getElem?_cons_zero, Option.some.injEq] at hr
    subst hr
    refine ⟨_, rfl, k50_mk W q, fun i u hu => ?_⟩
    rw [ea, h.cell]
    rcases i with _ | _ | _ | _ | i
    · simpa [k50, Kd.iso, Kd.pair, Kd.int, Kd.scalar] using hu
    · simpa [k50, Kd.iso, Kd.pair, Kd.int, Kd.scalar] using hu
    · simpa [k50, Kd.iso, Kd.pair, Kd.int, Kd.scalar] using hu
    · simpa [k50, Kd.iso, Kd.pair, Kd.int, Kd.scalar] using hu
    · simp at hu
  · simp at hr

set_option maxRecDepth 20000 in
set_option maxHeartbeats 4000000 in
theorem rawake_calls (w : World) : Calls Try.prog 25 #[] w fun e w' => e = .returned (.bool true) ∧ Below w.heap.size w w' := by
  go_enter Try.func25, Try.ntmps25
  go_wp2_with fail
  refine (rect_Meet.calls 9 0 0 10 10 5 5 10 10 5 5 5 5 true _ aw1).mono ?_
  rintro e w1 ⟨rfl, hb⟩
  have K1 : Hid (Kn [(w.heap.size + 1, #[.int .i64 5, .int .i64 5, .int .i64 10, .int .i64 10]), (w.heap.size, #[.int .i64 0, .int .i64 0, .int .i64 10, .int .i64 10])] w1) := by
    have := (((Kn.nil w).alloc #[.int .i64 0, .int .i64 0, .int .i64 10, .int .i64 10]).alloc #[.int .i64 5, .int .i64 5, .int .i64 10, .int .i64 10]).below hb
    rw [World.size_alloc] at this
    exact this
  have B1 := Lib.hid ((((Below.refl w.heap.size w).alloc (Nat.le_refl _) _).alloc (by simp) _).trans (hb.mono (by simp; omega)))
  have z1 : w.heap.size + 1 < w1.heap.size := by have := hb.size; simp at this; omega
  clear hb
  obtain ⟨a0, a1, a2, a3⟩ := (K1.out.alloc #[.int .i64 5, .int .i64 5, .int .i64 5, .int .i64 5]).c (b := w.heap.size) (x := 0) (y := 0) (wd := 10) (hh := 10) (by simp)
  obtain ⟨b0, b1, b2, b3⟩ := (K1.out.alloc #[.int .i64 5, .int .i64 5, .int .i64 5, .int .i64 5]).c (b := w.heap.size + 1) (x := 5) (y := 5) (wd := 10) (hh := 10) (by simp)
  go_wp2_with fail
  refine Calls.mono (rect_Union.calls (some ⟨w1.heap.size + 1, 0, none⟩) 2 [⟨0, 0, 10, 10⟩, ⟨5, 5, 10, 10⟩] 0 0 15 15 true _ (two_reads (T := ?T) ?_) (by decide) aw2) ?_
  rotate_left
  · refine Blk.alloc_at _ _ _ ?_; simp
  rintro e w2 ⟨rfl, hb⟩
  have K2 := Lib.hid (((K1.out.alloc #[.int .i64 5, .int .i64 5, .int .i64 5, .int .i64 5]).old _).below hb)
  have B2 := Lib.hid (((B1.out.alloc (by omega) _).alloc (by simp; omega) _).trans (hb.mono (by simp; omega)))
  have z2 : w1.heap.size + 1 < w2.heap.size := by have := hb.size; simp at this; omega
  clear hb a0 a1 a2 a3 b0 b1 b2 b3
  obtain ⟨a0, a1, a2, a3⟩ := (K2.out.alloc #[.int .i64 0, .int .i64 0, .int .i64 15, .int .i64 15]).c (b := w.heap.size) (x := 0) (y := 0) (wd := 10) (hh := 10) (by simp)
  go_wp2_with fail
  refine (rect_Move.calls 0 0 10 10 3 (-4) 3 (-4) 10 10 true _ aw3).mono ?_
  rintro e w3 ⟨rfl, hb⟩
  have K3 := Lib.hid ((K2.out.alloc #[.int .i64 0, .int .i64 0, .int .i64 15, .int .i64 15]).below hb)
  have B3 := Lib.hid ((B2.out.alloc (by omega) _).trans (hb.mono (by simp; omega)))
  have z3 : w2.heap.size < w3.heap.size := by have := hb.size; simp at this; omega
  clear hb a0 a1 a2 a3
  obtain ⟨b0, b1, b2, b3⟩ := (K3.out.alloc #[.int .i64 3, .int .i64 (-4), .int .i64 10, .int .i64 10]).c (b := w.heap.size + 1) (x := 5) (y := 5) (wd := 10) (hh := 10) (by simp)
  go_wp2_with fail
  refine (rect_Inset.calls 5 5 10 10 1 2 3 4 9 6 4 6 true _ aw4).mono ?_
  rintro e w4 ⟨rfl, hb⟩
  have K4 := Lib.hid ((K3.out.alloc #[.int .i64 3, .int .i64 (-4), .int .i64 10, .int .i64 10]).below hb)
  have B4 := Lib.hid ((B3.out.alloc (by omega) _).trans (hb.mono (by simp; omega)))
  have z4 : w3.heap.size < w4.heap.size := by have := hb.size; simp at this; omega
  clear hb b0 b1 b2 b3
  obtain ⟨a0, a1, a2, a3⟩ := (K4.out.alloc #[.int .i64 9, .int .i64 6, .int .i64 4, .int .i64 6]).c (b := w.heap.size) (x := 0) (y := 0) (wd := 10) (hh := 10) (by simp)
  go_wp2_with fail
  refine (rect_Inset.calls 0 0 10 10 6 0 6 0 0 6 10 0 false _ aw5).mono ?_
  rintro e w5 ⟨rfl, hb⟩
  have K5 := Lib.hid ((K4.out.alloc #[.int .i64 9, .int .i64 6, .int .i64 4, .int .i64 6]).below hb)
  have B5 := Lib.hid ((B4.out.alloc (by omega) _).trans (hb.mono (by simp; omega)))
  have z5 : w4.heap.size < w5.heap.size := by have := hb.size; simp at this; omega
  clear hb a0 a1 a2 a3
  obtain ⟨a0, a1, a2, a3⟩ := (K5.out.alloc #[.int .i64 0, .int .i64 6, .int .i64 10, .int .i64 0]).c (b := w.heap.size) (x := 0) (y := 0) (wd := 10) (hh := 10) (by simp)
  obtain ⟨m0, m1, m2, m3⟩ := (K5.out.alloc #[.int .i64 0, .int .i64 6, .int .i64 10, .int .i64 0]).c (b := w1.heap.size) (x := 5) (y := 5) (wd := 5) (hh := 5) (by simp)
  obtain ⟨u0, u1, u2, u3⟩ := (K5.out.alloc #[.int .i64 0, .int .i64 6, .int .i64 10, .int .i64 0]).c (b := w2.heap.size) (x := 0) (y := 0) (wd := 15) (hh := 15) (by simp)
  obtain ⟨v0, v1, v2, v3⟩ := (K5.out.alloc #[.int .i64 0, .int .i64 6, .int .i64 10, .int .i64 0]).c (b := w3.heap.size) (x := 3) (y := (-4)) (wd := 10) (hh := 10) (by simp)
  obtain ⟨i0, i1, i2, i3⟩ := (K5.out.alloc #[.int .i64 0, .int .i64 6, .int .i64 10, .int .i64 0]).c (b := w4.heap.size) (x := 9) (y := 6) (wd := 4) (hh := 6) (by simp)
  go_wp2_with fail
  refine (rect_Has.calls 0 0 10 10 9 0 true _ aw6).mono ?_
  rintro e w6 ⟨rfl, hb⟩
  have K6 := Lib.hid ((K5.out.alloc #[.int .i64 0, .int .i64 6, .int .i64 10, .int .i64 0]).below hb)
  have B6 := Lib.hid ((B5.out.alloc (by omega) _).trans (hb.mono (by simp; omega)))
  have z6 : w5.heap.size < w6.heap.size := by have := hb.size; simp at this; omega
  clear hb a0 a1 a2 a3 m0 m1 m2 m3 u0 u1 u2 u3 v0 v1 v2 v3 i0 i1 i2 i3
  obtain ⟨a0, a1, a2, a3⟩ := K6.out.c (b := w.heap.size) (x := 0) (y := 0) (wd := 10) (hh := 10) (by simp)
  go_wp2_with fail
  refine (rect_Has.calls 0 0 10 10 10 0 false _ aw7).mono ?_
  rintro e w7 ⟨rfl, hb⟩
  have K7 := Lib.hid (K6.out.below hb)
  have B7 := Lib.hid (B6.out.trans (hb.mono (by omega)))
  have z7 : w6.heap.size ≤ w7.heap.size := hb.size
  clear hb a0 a1 a2 a3
  obtain ⟨a0, a1, a2, a3⟩ := K7.out.c (b := w.heap.size) (x := 0) (y := 0) (wd := 10) (hh := 10) (by simp)
  go_wp2_with fail
  refine (rect_May.calls 0 0 10 10 true _ aw8).mono ?_
  rintro e w8 ⟨rfl, hb⟩
  have B8 := Lib.hid (B7.out.trans (hb.mono (by omega)))
  have z8 : w7.heap.size ≤ w8.heap.size := hb.size
  clear hb a0 a1 a2 a3
  go_wp2_with fail
  refine (rect_May.calls 0 0 (-1) 0 false _ aw9).mono ?_
  rintro e w9 ⟨rfl, hb⟩
  have B9 := Lib.hid (B8.out.trans (hb.mono (by omega)))
  clear hb
  go_wp2_with fail
  go_ret
  exact ⟨rfl, B9.out⟩

def scrimlaw02_awake.f : Option (Bool) := some true
theorem scrimlaw02_awake.calls (r : Bool) (w : World) (h : scrimlaw02_awake.f = some r) :
    Calls Try.prog 25 #[] w fun e w' => e = .returned (.bool r) ∧ Below w.heap.size w w' := by
  have h' : true = r := Option.some.inj h
  subst h'
  exact rawake_calls w
end Go.Proofs.Ytnjheeoogglnaaa.Q
