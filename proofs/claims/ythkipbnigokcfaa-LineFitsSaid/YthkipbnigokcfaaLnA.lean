/- The call of awake returns true: the constants walked. -/
import Derived.Test.YthkipbnigokcfaaLnF
import Derived.Test.YthkipbnigokcfaaLnV
import Derived.Test.YthkipbnigokcfaaQxO
import Derived.Test.YthkipbnigokcfaaQxS
namespace Go.Proofs.Ythkipbnigokcfaa.Q
open Go.RowKit Go.IntWalk Go.Proofs.Ythkipbnigokcfaa.Mem Go.Proofs.YthkipbnigokcfaaW.PrintWords Go.Proofs.YthkipbnigokcfaaW.PrintLast Go.Proofs.YthkipbnigokcfaaW.PrintMore
set_option linter.unusedVariables false
set_option linter.unusedSimpArgs false

def la : List Pc := [⟨0, 10, 4, 0, ⟨#[]⟩, false⟩, ⟨0, 10, 6, 2, ⟨#[]⟩, true⟩, ⟨0, 3, 2, 0, ⟨#[]⟩, false⟩]
def pa : List Pl := [⟨0, 0, ⟨5, 0, 10, 4⟩⟩, ⟨1, 1, ⟨2, 4, 10, 6⟩⟩, ⟨2, 1, ⟨12, 8, 3, 2⟩⟩]
def ra : List S37 := [⟨0, 0, ⟨5, 0, 10, 4⟩⟩, ⟨1, 1, ⟨2, 4, 10, 6⟩⟩, ⟨2, 1, ⟨12, 8, 3, 2⟩⟩]
theorem aw1 : line_Fill.f la 15 2 = some (pa, 10, true) := by rfl
theorem aw2 : line_Fill.f la (-1) 0 = some ([], 0, false) := by rfl
theorem aw3 : scrimlaw16_own.f 10 pa = some ra := by kernel_rfl
theorem aw4 : scrimref16_Same.f 10 ra ra = some true := by decide +kernel
theorem aw5 : (wd pa pa.length).1 = 13 := by decide +kernel
theorem la_reads {W : World} {B : Nat} (h : Blk W B #[.int .i64 0, .int .i64 10, .int .i64 4, .int .i64 0, .string ⟨#[]⟩, .bool false, .int .i64 0, .int .i64 10, .int .i64 6, .int .i64 2, .string ⟨#[]⟩, .bool true, .int .i64 0, .int .i64 3, .int .i64 2, .int .i64 0, .string ⟨#[]⟩, .bool false] 32) : Kd.C k32 W (some ⟨B, 0, none⟩) la.length la := by
  refine ⟨rfl, by simp [la], fun _ => ⟨_, rfl, fun j r hr => ?_⟩⟩
  rcases j with _ | _ | _ | j
  · obtain rfl : (⟨0, 10, 4, 0, ⟨#[]⟩, false⟩ : Pc) = r := Option.some.inj hr
    refine ⟨_, rfl, k32_mk W _, fun i u hu => ?_⟩
    have ea : (⟨B, 0, none⟩ : Addr).add (0 * k32.sz + i) = ⟨B, 0 + i, none⟩ := by rw [add_plain]; congr 1
    show W.cell? ((⟨B, 0, none⟩ : Addr).add (0 * k32.sz + i)) = some u
    rw [ea, h.cell]
    rcases i with _ | _ | _ | _ | _ | _ | i
    · exact hu
    · exact hu
    · exact hu
    · exact hu
    · exact hu
    · exact hu
    · cases hu
  · obtain rfl : (⟨0, 10, 6, 2, ⟨#[]⟩, true⟩ : Pc) = r := Option.some.inj hr
    refine ⟨_, rfl, k32_mk W _, fun i u hu => ?_⟩
    have ea : (⟨B, 0, none⟩ : Addr).add (1 * k32.sz + i) = ⟨B, 6 + i, none⟩ := by rw [add_plain]; congr 1
    show W.cell? ((⟨B, 0, none⟩ : Addr).add (1 * k32.sz + i)) = some u
    rw [ea, h.cell]
    rcases i with _ | _ | _ | _ | _ | _ | i
    · exact hu
    · exact hu
    · exact hu
    · exact hu
    · exact hu
    · exact hu
    · cases hu
  · obtain rfl : (⟨0, 3, 2, 0, ⟨#[]⟩, false⟩ : Pc) = r := Option.some.inj hr
    refine ⟨_, rfl, k32_mk W _, fun i u hu => ?_⟩
    have ea : (⟨B, 0, none⟩ : Addr).add (2 * k32.sz + i) = ⟨B, 12 + i, none⟩ := by rw [add_plain]; congr 1
    show W.cell? ((⟨B, 0, none⟩ : Addr).add (2 * k32.sz + i)) = some u
    rw [ea, h.cell]
    rcases i with _ | _ | _ | _ | _ | _ | i
    · exact hu
    · exact hu
    · exact hu
    · exact hu
    · exact hu
    · exact hu
    · cases hu
  · cases hr
theorem ra_reads {W : World} {B : Nat} (h : Blk W B #[.int .i64 0, .int .i64 0, .int .i64 5, .int .i64 0, .int .i64 10, .int .i64 4, .int .i64 1, .int .i64 1, .int .i64 2, .int .i64 4, .int .i64 10, .int .i64 6, .int .i64 2, .int .i64 1, .int .i64 12, .int .i64 8, .int .i64 3, .int .i64 2] 37) : Kd.C k37 W (some ⟨B, 0, none⟩) ra.length ra := by
  refine ⟨rfl, by simp [ra], fun _ => ⟨_, rfl, fun j r hr => ?_⟩⟩
  rcases j with _ | _ | _ | j
  · obtain rfl : (⟨0, 0, ⟨5, 0, 10, 4⟩⟩ : S37) = r := Option.some.inj hr
    refine ⟨_, rfl, k37_mk W _, fun i u hu => ?_⟩
    have ea : (⟨B, 0, none⟩ : Addr).add (0 * k37.sz + i) = ⟨B, 0 + i, none⟩ := by rw [add_plain]; congr 1
    show W.cell? ((⟨B, 0, none⟩ : Addr).add (0 * k37.sz + i)) = some u
    rw [ea, h.cell]
    rcases i with _ | _ | _ | _ | _ | _ | i
    · exact hu
    · exact hu
    · exact hu
    · exact hu
    · exact hu
    · exact hu
    · cases hu
  · obtain rfl : (⟨1, 1, ⟨2, 4, 10, 6⟩⟩ : S37) = r := Option.some.inj hr
    refine ⟨_, rfl, k37_mk W _, fun i u hu => ?_⟩
    have ea : (⟨B, 0, none⟩ : Addr).add (1 * k37.sz + i) = ⟨B, 6 + i, none⟩ := by rw [add_plain]; congr 1
    show W.cell? ((⟨B, 0, none⟩ : Addr).add (1 * k37.sz + i)) = some u
    rw [ea, h.cell]
    rcases i with _ | _ | _ | _ | _ | _ | i
    · exact hu
    · exact hu
    · exact hu
    · exact hu
    · exact hu
    · exact hu
    · cases hu
  · obtain rfl : (⟨2, 1, ⟨12, 8, 3, 2⟩⟩ : S37) = r := Option.some.inj hr
    refine ⟨_, rfl, k37_mk W _, fun i u hu => ?_⟩
    have ea : (⟨B, 0, none⟩ : Addr).add (2 * k37.sz + i) = ⟨B, 12 + i, none⟩ := by rw [add_plain]; congr 1
    show W.cell? ((⟨B, 0, none⟩ : Addr).add (2 * k37.sz + i)) = some u
    rw [ea, h.cell]
    rcases i with _ | _ | _ | _ | _ | _ | i
    · exact hu
    · exact hu
    · exact hu
    · exact hu
    · exact hu
    · exact hu
    · cases hu
  · cases hr

set_option maxRecDepth 20000 in
set_option maxHeartbeats 4000000 in
theorem sawake_calls (w : World) : Calls Try.prog 8 #[] w fun e w' => e = .returned (.bool true) ∧ Below w.heap.size w w' := by
  go_enter Try.func8, Try.ntmps8
  go_wp2_with fail
  have X0 := Lib.hid (Blk.alloc w #[.int .i64 0, .int .i64 10, .int .i64 4, .int .i64 0, .string ⟨#[]⟩, .bool false, .int .i64 0, .int .i64 10, .int .i64 6, .int .i64 2, .string ⟨#[]⟩, .bool true, .int .i64 0, .int .i64 3, .int .i64 2, .int .i64 0, .string ⟨#[]⟩, .bool false] 32)
  have B0 := Lib.hid ((Below.refl _ w).alloc (Nat.le_refl _) (.cells #[.int .i64 0, .int .i64 10, .int .i64 4, .int .i64 0, .string ⟨#[]⟩, .bool false, .int .i64 0, .int .i64 10, .int .i64 6, .int .i64 2, .string ⟨#[]⟩, .bool true, .int .i64 0, .int .i64 3, .int .i64 2, .int .i64 0, .string ⟨#[]⟩, .bool false] 32))
  generalize w.alloc (.cells #[.int .i64 0, .int .i64 10, .int .i64 4, .int .i64 0, .string ⟨#[]⟩, .bool false, .int .i64 0, .int .i64 10, .int .i64 6, .int .i64 2, .string ⟨#[]⟩, .bool true, .int .i64 0, .int .i64 3, .int .i64 2, .int .i64 0, .string ⟨#[]⟩, .bool false] 32) = W0 at X0 B0 ⊢
  refine (line_Fill.calls _ 3 la 15 2 pa 10 true _ (la_reads X0.out) (by decide) aw1).mono ?_
  rintro e w1 ⟨v1, rfl, hr, hb⟩
  have X1 := Lib.hid (X0.out.below hb X0.out.lt)
  have B1 := Lib.hid (B0.out.trans (hb.mono B0.out.size))
  have S0 := Lib.hid B0.out.size
  have R1 := Lib.hid hr
  clear hr hb
  go_wp2_with fail
  have Y1 := Lib.hid (Blk.alloc w1 #[.int .i64 0, .int .i64 0, .int .i64 5, .int .i64 0, .int .i64 10, .int .i64 4, .int .i64 1, .int .i64 1, .int .i64 2, .int .i64 4, .int .i64 10, .int .i64 6, .int .i64 2, .int .i64 1, .int .i64 12, .int .i64 8, .int .i64 3, .int .i64 2] 37)
  have T1 := Lib.hid (show Below w1.heap.size w1 (w1.alloc (.cells #[.int .i64 0, .int .i64 0, .int .i64 5, .int .i64 0, .int .i64 10, .int .i64 4, .int .i64 1, .int .i64 1, .int .i64 2, .int .i64 4, .int .i64 10, .int .i64 6, .int .i64 2, .int .i64 1, .int .i64 12, .int .i64 8, .int .i64 3, .int .i64 2] 37)) from (Below.refl _ w1).alloc (Nat.le_refl _) _)
  generalize w1.alloc (.cells #[.int .i64 0, .int .i64 0, .int .i64 5, .int .i64 0, .int .i64 10, .int .i64 4, .int .i64 1, .int .i64 1, .int .i64 2, .int .i64 4, .int .i64 10, .int .i64 6, .int .i64 2, .int .i64 1, .int .i64 12, .int .i64 8, .int .i64 3, .int .i64 2] 37) = w2 at Y1 T1 ⊢
  have X2 := Lib.hid (X1.out.below T1.out X1.out.lt)
  have R2 := Lib.hid (Kd.R_below R1.out T1.out)
  have B2 := Lib.hid (B1.out.trans (T1.out.mono B1.out.size))
  clear R1 T1
  refine (line_Fill.calls _ 3 la (-1) 0 [] 0 false _ (la_reads X2.out) (by decide) aw2).mono ?_
  rintro e w3 ⟨v3, rfl, hr3, hb⟩
  have Y3 := Lib.hid (Y1.out.below hb Y1.out.lt)
  have R3 := Lib.hid (Kd.R_below R2.out hb)
  have B3 := Lib.hid (B2.out.trans (hb.mono B2.out.size))
  clear hr3 hb R2
  obtain ⟨A1, c1, hc1, hl1, hC1⟩ := Kd.R_reads R3.out
  subst hc1
  have HC1 := Lib.hid hC1
  clear hC1
  go_wp2_with fail
  refine (scrimlaw16_own.calls 10 A1 c1 pa ra _ HC1.out hl1 aw3).mono ?_
  rintro e w4 ⟨v4, rfl, hr4, hb⟩
  have Y4 := Lib.hid (Y3.out.below hb Y3.out.lt)
  have HC2 := Lib.hid (Kd.C_below HC1.out hb)
  have B4 := Lib.hid (B3.out.trans (hb.mono B3.out.size))
  obtain ⟨A2, c2, hc2, hl2, hC2⟩ := Kd.R_reads hr4
  subst hc2
  have HC4 := Lib.hid hC2
  clear hC2 hr4 hb
  go_wp2_with fail
  refine (scrimref16_Same.calls 10 A2 c2 ra (some ⟨w1.heap.size, 0, none⟩) 3 ra true _ HC4.out hl2 (ra_reads Y4.out) (by decide) aw4).mono ?_
  rintro e w5 ⟨rfl, hd⟩
  have HD := Lib.hid hd
  clear hd
  go_wp2_with fail
  refine (wide_calls A1 c1 pa _ (Kd.C_below HC2.out HD.out.below) (by decide)).mono ?_
  rintro e w6 ⟨rfl, hb⟩
  have B6 := Lib.hid ((B4.out.trans (HD.out.below.mono B4.out.size)).trans (hb.mono (Nat.le_trans B4.out.size HD.out.below.size)))
  clear hb
  rw [aw5]
  go_wp2_with fail
  go_ret
  exact ⟨rfl, B6.out⟩

def scrimlaw16_awake.f : Option Bool := some true
theorem scrimlaw16_awake.calls (r : Bool) (w : World) (h : scrimlaw16_awake.f = some r) : Calls Try.prog 8 #[] w fun e w' => e = .returned (.bool r) ∧ Below w.heap.size w w' := by
  obtain rfl := Option.some.inj h
  exact sawake_calls w
end Go.Proofs.Ythkipbnigokcfaa.Q
