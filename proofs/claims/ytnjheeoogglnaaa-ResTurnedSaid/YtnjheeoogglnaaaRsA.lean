/- The call of awake returns true: the constants walked. -/
import Derived.Test.YtnjheeoogglnaaaRx6
import Derived.Outline
namespace Go.Proofs.Ytnjheeoogglnaaa.R
open Go.RowKit Go.Proofs.Ytnjheeoogglnaaa.Mem Go.Proofs.YtnjheeoogglnaaaW.PrintWords Go.Proofs.YtnjheeoogglnaaaW.PrintLast Go.Proofs.YtnjheeoogglnaaaW.PrintMore
set_option linter.unusedVariables false
set_option linter.unusedSimpArgs false
attribute [local go_sem] max2_int min2_int max_two min_two

def tu : S47 := ⟨⟨#[117]⟩, 10, 20, false⟩
def tv : S47 := ⟨⟨#[118]⟩, 3, 4, true⟩
theorem aw1 : res_Size.f [tu, tv] 40 false ⟨#[117]⟩ = some (1024, 1024, true) := by decide +kernel
theorem aw2 : res_True.f [tu, tv] 40 false ⟨#[117]⟩ = some (10, 20, true) := by decide +kernel
theorem aw3 : res_Size.f [tu, tv] 40 false ⟨#[118]⟩ = some (3, 4, true) := by decide +kernel
theorem aw4 : res_Size.f [tu, tv] 40 false ⟨#[119]⟩ = some (0, 0, false) := by decide +kernel
theorem aw5 : res_Public.f [tu, tv] 40 false = some ([⟨⟨#[117]⟩, 0, 0, false⟩, tv], 0, false) := by rfl
theorem aw6 : res_Advance.f [tu, tv] 40 false = some 32 := by rfl
theorem aw7 : res_May.f 5 [tu, tv] 40 false = some true := by decide +kernel
theorem aw8 : res_Alike.f 5 [tu, tv] 40 false [⟨⟨#[117]⟩, 0, 0, false⟩, tv] 0 false = some true := by decide +kernel

theorem two_reads {W : World} {B : Nat} (h : Blk W B #[.string ⟨#[117]⟩, .int .i64 10, .int .i64 20, .bool false, .string ⟨#[118]⟩, .int .i64 3, .int .i64 4, .bool true] 47) :
    Kd.C k47 W (some ⟨B, 0, none⟩) [tu, tv].length [tu, tv] := by
  refine ⟨rfl, by simp, fun _ => ⟨_, rfl, fun j r hr => ?_⟩⟩
  rcases j with _ | _ | j
  · simp only [List.getElem?_cons_zero, Option.some.injEq] at hr
    subst hr
    refine ⟨_, rfl, k47_mk W tu, fun i u hu => ?_⟩
    have ea : (⟨B, 0, none⟩ : Addr).add (0 * k47.sz + i) = ⟨B, i, none⟩ := by rw [add_plain]; simp
    rw [ea, h.cell]
    rcases i with _ | _ | _ | _ | i
    · simpa [tu] using hu
    · simpa [tu] using hu
    · simpa [tu] using hu
    · simpa [tu] using hu
    · simp at hu
  · simp only [List.getElem?_cons_succ, List.getElem?_cons_zero, Option.some.injEq] at hr
    subst hr
    refine ⟨_, rfl, k47_mk W tv, fun i u hu => ?_⟩
    have ea : (⟨B, 0, none⟩ : Addr).add ((0 + 1) * k47.sz + i) = ⟨B, 4 + i, none⟩ := by rw [add_plain]; rfl
    rw [ea, h.cell]
    rcases i with _ | _ | _ | _ | i
    · simpa [tv] using hu
    · simpa [tv] using hu
    · simpa [tv] using hu
    · simpa [tv] using hu
    · simp at hu
  · simp at hr

set_option maxRecDepth 20000 in
set_option maxHeartbeats 4000000 in
theorem sawake_calls (w : World) : Calls Try.prog 11 #[] w fun e w' => e = .returned (.bool true) ∧ Below w.heap.size w w' := by
  go_enter Try.func11, Try.ntmps11
  go_wp2_with fail
  have X0 : Blk ((w.alloc (.cells #[.string ⟨#[117]⟩, .int .i64 10, .int .i64 20, .bool false, .string ⟨#[118]⟩, .int .i64 3, .int .i64 4, .bool true] 47)).alloc (.cells #[.slice (some ⟨w.heap.size, 0, none⟩) 2 2, .int .i64 40, .bool false] 26)) w.heap.size #[.string ⟨#[117]⟩, .int .i64 10, .int .i64 20, .bool false, .string ⟨#[118]⟩, .int .i64 3, .int .i64 4, .bool true] 47 := (Blk.alloc w _ _).alloc_old _
  have X1 : Blk ((w.alloc (.cells #[.string ⟨#[117]⟩, .int .i64 10, .int .i64 20, .bool false, .string ⟨#[118]⟩, .int .i64 3, .int .i64 4, .bool true] 47)).alloc (.cells #[.slice (some ⟨w.heap.size, 0, none⟩) 2 2, .int .i64 40, .bool false] 26)) (w.heap.size + 1) #[.slice (some ⟨w.heap.size, 0, none⟩) 2 2, .int .i64 40, .bool false] 26 := Blk.alloc_at _ _ _ (by simp)
  have B0 : Below w.heap.size w ((w.alloc (.cells #[.string ⟨#[117]⟩, .int .i64 10, .int .i64 20, .bool false, .string ⟨#[118]⟩, .int .i64 3, .int .i64 4, .bool true] 47)).alloc (.cells #[.slice (some ⟨w.heap.size, 0, none⟩) 2 2, .int .i64 40, .bool false] 26)) := ((Below.refl _ _).alloc (Nat.le_refl _) _).alloc (by simp) _
  generalize ((w.alloc (.cells #[.string ⟨#[117]⟩, .int .i64 10, .int .i64 20, .bool false, .string ⟨#[118]⟩, .int .i64 3, .int .i64 4, .bool true] 47)).alloc (.cells #[.slice (some ⟨w.heap.size, 0, none⟩) 2 2, .int .i64 40, .bool false] 26)) = W0 at X0 X1 B0 ⊢
  have HX0 := Lib.hid X0
  have HX1 := Lib.hid X1
  have HB0 := Lib.hid B0
  have z0 : w.heap.size + 1 < W0.heap.size := X1.lt
  clear X0 X1 B0
  refine (res_Size.calls _ 2 [tu, tv] 40 false ⟨#[117]⟩ 1024 1024 true _ (two_reads HX0.out) (by decide) aw1).mono ?_
  rintro e w1 ⟨rfl, hb⟩
  have HZ1 := Lib.hid (HX0.out.below hb HX0.out.lt)
  have HY1 := Lib.hid (HX1.out.below hb HX1.out.lt)
  have HB1 := Lib.hid (HB0.out.trans (hb.mono HB0.out.size))
  have z1 : w.heap.size + 1 < w1.heap.size := HY1.out.lt
  clear hb
  have c0 := HY1.out.cell 0
  have c1 := HY1.out.cell 1
  have c2 := HY1.out.cell 2
  simp only [List.getElem?_toArray, List.getElem?_cons_zero, List.getElem?_cons_succ] at c0 c1 c2
  go_wp2_with fail
  refine (res_True.calls _ 2 [tu, tv] 40 false ⟨#[117]⟩ 10 20 true _ (two_reads HZ1.out) (by decide) aw2).mono ?_
  rintro e w2 ⟨rfl, hb⟩
  have HZ2 := Lib.hid (HZ1.out.below hb HZ1.out.lt)
  have HY2 := Lib.hid (HY1.out.below hb HY1.out.lt)
  have HB2 := Lib.hid (HB1.out.trans (hb.mono HB1.out.size))
  have z2 : w.heap.size + 1 < w2.heap.size := HY2.out.lt
  clear hb c0 c1 c2
  have c0 := HY2.out.cell 0
  have c1 := HY2.out.cell 1
  have c2 := HY2.out.cell 2
  simp only [List.getElem?_toArray, List.getElem?_cons_zero, List.getElem?_cons_succ] at c0 c1 c2
  go_wp2_with fail
  refine (res_Size.calls _ 2 [tu, tv] 40 false ⟨#[118]⟩ 3 4 true _ (two_reads HZ2.out) (by decide) aw3).mono ?_
  rintro e w3 ⟨rfl, hb⟩
  have HZ3 := Lib.hid (HZ2.out.below hb HZ2.out.lt)
  have HY3 := Lib.hid (HY2.out.below hb HY2.out.lt)
  have HB3 := Lib.hid (HB2.out.trans (hb.mono HB2.out.size))
  have z3 : w.heap.size + 1 < w3.heap.size := HY3.out.lt
  clear hb c0 c1 c2
  have c0 := HY3.out.cell 0
  have c1 := HY3.out.cell 1
  have c2 := HY3.out.cell 2
  simp only [List.getElem?_toArray, List.getElem?_cons_zero, List.getElem?_cons_succ] at c0 c1 c2
  go_wp2_with fail
  refine (res_Size.calls _ 2 [tu, tv] 40 false ⟨#[119]⟩ 0 0 false _ (two_reads HZ3.out) (by decide) aw4).mono ?_
  rintro e w4 ⟨rfl, hb⟩
  have HZ4 := Lib.hid (HZ3.out.below hb HZ3.out.lt)
  have HY4 := Lib.hid (HY3.out.below hb HY3.out.lt)
  have HB4 := Lib.hid (HB3.out.trans (hb.mono HB3.out.size))
  have z4 : w.heap.size + 1 < w4.heap.size := HY4.out.lt
  clear hb c0 c1 c2
  have c0 := HY4.out.cell 0
  have c1 := HY4.out.cell 1
  have c2 := HY4.out.cell 2
  simp only [List.getElem?_toArray, List.getElem?_cons_zero, List.getElem?_cons_succ] at c0 c1 c2
  go_wp2_with fail
  refine (res_Public.calls _ 2 [tu, tv] 40 false _ _ _ _ (two_reads HZ4.out) (by decide) aw5).mono ?_
  rintro e w5 ⟨v0, rfl, hr, hb⟩
  have HZ5 := Lib.hid (HZ4.out.below hb HZ4.out.lt)
  have HY5 := Lib.hid (HY4.out.below hb HY4.out.lt)
  have HB5 := Lib.hid (HB4.out.trans (hb.mono HB4.out.size))
  have z5 : w.heap.size + 1 < w5.heap.size := HY5.out.lt
  obtain ⟨g, c5, rfl, -, -, -, -⟩ := Kd.R_form hr (by decide)
  have hc5 := (Kd.R_reads' hr).2.2
  have hl5 := (Kd.R_reads' hr).2.1
  have HC5 := Lib.hid hc5
  clear hb hr hc5 c0 c1 c2
  have VA : Below w5.heap.size w5 (w5.alloc (.cells #[.slice (some ⟨g, 0, none⟩) 2 c5, .int .i64 0, .bool false] 26)) := (Below.refl _ _).alloc (Nat.le_refl _) _
  have HP := Lib.hid (Blk.alloc w5 #[.slice (some ⟨g, 0, none⟩) 2 c5, .int .i64 0, .bool false] 26)
  have HZ6 := Lib.hid (HZ5.out.below VA HZ5.out.lt)
  have HY6 := Lib.hid (HY5.out.below VA HY5.out.lt)
  have HB6 := Lib.hid (HB5.out.trans (VA.mono HB5.out.size))
  have HC6 := Lib.hid (Kd.C_below HC5.out VA)
  clear VA
  have c0 := HY5.out.cell 0
  have c1 := HY5.out.cell 1
  have c2 := HY5.out.cell 2
  simp only [List.getElem?_toArray, List.getElem?_cons_zero, List.getElem?_cons_succ] at c0 c1 c2
  go_wp2_with fail
  refine (res_Advance.calls _ 2 [tu, tv] 40 false 32 _ (two_reads HZ6.out) (by decide) aw6).mono ?_
  rintro e w6 ⟨rfl, hb⟩
  have HZ7 := Lib.hid (HZ6.out.below hb HZ6.out.lt)
  have HY7 := Lib.hid (HY6.out.below hb HY6.out.lt)
  have HP7 := Lib.hid (HP.out.below hb HP.out.lt)
  have HC7 := Lib.hid (Kd.C_below HC6.out hb)
  have HB7 := Lib.hid (HB6.out.trans (hb.mono HB6.out.size))
  have z6 : w.heap.size + 1 < w6.heap.size := HY7.out.lt
  have y6 : w5.heap.size < w6.heap.size := HP7.out.lt
  clear hb c0 c1 c2
  have c0 := HY7.out.cell 0
  have c1 := HY7.out.cell 1
  have c2 := HY7.out.cell 2
  simp only [List.getElem?_toArray, List.getElem?_cons_zero, List.getElem?_cons_succ] at c0 c1 c2
  go_wp2_with fail
  refine (res_May.calls 5 _ 2 [tu, tv] 40 false true _ (two_reads HZ7.out) (by decide) aw7).mono ?_
  rintro e w7 ⟨rfl, hb⟩
  have HZ8 := Lib.hid (HZ7.out.below hb HZ7.out.lt)
  have HY8 := Lib.hid (HY7.out.below hb HY7.out.lt)
  have HP8 := Lib.hid (HP7.out.below hb HP7.out.lt)
  have HC8 := Lib.hid (Kd.C_below HC7.out hb)
  have HB8 := Lib.hid (HB7.out.trans (hb.mono HB7.out.size))
  have z7 : w.heap.size + 1 < w7.heap.size := HY8.out.lt
  have y7 : w5.heap.size < w7.heap.size := HP8.out.lt
  clear hb c0 c1 c2
  have c0 := HY8.out.cell 0
  have c1 := HY8.out.cell 1
  have c2 := HY8.out.cell 2
  simp only [List.getElem?_toArray, List.getElem?_cons_zero, List.getElem?_cons_succ] at c0 c1 c2
  have p0 := HP8.out.cell 0
  have p1 := HP8.out.cell 1
  have p2 := HP8.out.cell 2
  simp only [List.getElem?_toArray, List.getElem?_cons_zero, List.getElem?_cons_succ] at p0 p1 p2
  obtain ⟨_, h1, e00, e01, e02, e03⟩ := at_T47 HC8.out 0 (by omega) (by decide)
  obtain rfl := Option.some.inj h1
  obtain ⟨_, h2, e10, e11, e12, e13⟩ := at_T47 HC8.out 1 (by omega) (by decide)
  obtain rfl := Option.some.inj h2
  have r0 : rd_T47 [⟨⟨#[117]⟩, 0, 0, false⟩, tv] 0 = ⟨⟨#[117]⟩, 0, 0, false⟩ := rfl
  have r1 : rd_T47 [⟨⟨#[117]⟩, 0, 0, false⟩, tv] 1 = ⟨⟨#[118]⟩, 3, 4, true⟩ := rfl
  rw [r0] at e00 e01 e02 e03
  rw [r1] at e10 e11 e12 e13
  clear h1 h2 r0 r1
  simp [add_plain] at e00 e01 e02 e03 e10 e11 e12 e13
  go_wp2_with fail
  refine (res_Alike.calls 5 _ 2 [tu, tv] 40 false _ _ [⟨⟨#[117]⟩, 0, 0, false⟩, tv] 0 false true _ (two_reads HZ8.out) (by decide) HC8.out hl5 aw8).mono ?_
  rintro e w8 ⟨rfl, hb⟩
  have HB9 := Lib.hid (HB8.out.trans (hb.mono HB8.out.size))
  clear hb
  go_wp2_with fail
  go_ret
  exact ⟨rfl, HB9.out⟩
def scrimlaw13_awake.f : Option (Bool) := some true
theorem scrimlaw13_awake.calls (r : Bool) (w : World) (h : scrimlaw13_awake.f = some r) :
    Calls Try.prog 11 #[] w fun e w' => e = .returned (.bool r) ∧ Below w.heap.size w w' := by
  have h' : true = r := Option.some.inj h
  subst h'
  exact sawake_calls w
end Go.Proofs.Ytnjheeoogglnaaa.R
