/- The call of awake returns true. -/
import Derived.Test.YtkjgnkmnngaioaaTkG
import Derived.Test.YtkjgnkmnngaioaaQxC
import Derived.Test.YtkjgnkmnngaioaaQxW
namespace Go.Proofs.Ytkjgnkmnngaioaa.Q
open Go.RowKit Go.Proofs.Ytkjgnkmnngaioaa.Mem Go.Proofs.YtkjgnkmnngaioaaW.PrintWords Go.Proofs.YtkjgnkmnngaioaaW.PrintLast Go.Proofs.YtkjgnkmnngaioaaW.PrintMore
set_option linter.unusedVariables false
set_option linter.unusedSimpArgs false

def awA : S36 := ⟨⟨#[105, 100]⟩, ⟨#[97]⟩⟩
def awT : List S31 := [⟨1, ⟨#[112]⟩, ⟨#[]⟩, [awA]⟩, ⟨3, ⟨#[]⟩, ⟨#[120]⟩, []⟩, ⟨2, ⟨#[112]⟩, ⟨#[]⟩, []⟩, ⟨3, ⟨#[]⟩, ⟨#[60, 60]⟩, []⟩]
def awR : List S37 := [⟨1, ⟨#[112]⟩, ⟨#[]⟩, [awA]⟩, ⟨3, ⟨#[]⟩, ⟨#[120]⟩, []⟩, ⟨2, ⟨#[112]⟩, ⟨#[]⟩, []⟩, ⟨3, ⟨#[]⟩, ⟨#[60, 60]⟩, []⟩]
theorem aw_read : token_Read.f ⟨#[60, 80, 32, 105, 100, 61, 34, 97, 34, 62, 120, 60, 47, 112, 62, 38, 108, 116, 59, 60]⟩ = some (awT, 0) := by kernel_rfl
theorem aw_name1 : token_Name.f ⟨#[97, 45, 49]⟩ = some true := by kernel_rfl
theorem aw_name2 : token_Name.f ⟨#[65]⟩ = some false := by kernel_rfl
theorem aw_tell : token_Tell.f ⟨#[38, 97, 109, 112, 59, 108, 116, 59]⟩ = some ⟨#[38, 108, 116, 59]⟩ := by kernel_rfl
theorem aw_sign : token_Sign.f ⟨#[60, 34]⟩ true = some ⟨#[38, 108, 116, 59, 38, 113, 117, 111, 116, 59]⟩ := by kernel_rfl
theorem aw_own : scrimlaw04_own.f 6 awT = some awR := by kernel_rfl
theorem aw_same : scrimref04_Same.f 12 awR awR = some true := by decide +kernel
theorem attr_reads {W : World} {B1 : Nat} (h : Blk W B1 #[.string ⟨#[105, 100]⟩, .string ⟨#[97]⟩] 36) : Kd.C k36 W (some ⟨B1, 0, none⟩) [awA].length [awA] := by
  refine ⟨rfl, by simp, fun _ => ⟨_, rfl, fun j r hr => ?_⟩⟩
  rcases j with _ | j
  · simp only [List.getElem?_cons_zero, Option.some.injEq] at hr
    subst hr
    refine ⟨_, rfl, k36_mk W awA, fun i u hu => ?_⟩
    have ea : (⟨B1, 0, none⟩ : Addr).add (0 * k36.sz + i) = ⟨B1, i, none⟩ := by rw [add_plain]; first | rfl | (congr 1; simp)
    rw [ea, h.cell]
    rcases i with _ | _ | i
    · simpa [awA] using hu
    · simpa [awA] using hu
    · simp at hu
  · simp at hr
theorem want_reads {W : World} {B1 B2 : Nat} (h1 : Blk W B1 #[.string ⟨#[105, 100]⟩, .string ⟨#[97]⟩] 36) (h2 : Blk W B2 #[.int .i64 1, .string ⟨#[112]⟩, .string ⟨#[]⟩, .slice (some ⟨B1, 0, none⟩) 1 1, .int .i64 3, .string ⟨#[]⟩, .string ⟨#[120]⟩, .slice none 0 0, .int .i64 2, .string ⟨#[112]⟩, .string ⟨#[]⟩, .slice none 0 0, .int .i64 3, .string ⟨#[]⟩, .string ⟨#[60, 60]⟩, .slice none 0 0] 37) : Kd.C k37 W (some ⟨B2, 0, none⟩) awR.length awR := by
  unfold awR
  refine ⟨rfl, by simp, fun _ => ⟨_, rfl, fun j r hr => ?_⟩⟩
  rcases j with _ | _ | _ | _ | j
  · simp only [List.getElem?_cons_succ, List.getElem?_cons_zero, Option.some.injEq] at hr
    subst hr
    refine ⟨_, rfl, k37_mk (A3 := some ⟨B1, 0, none⟩) (c3 := 1) W _ (by decide) (attr_reads h1), fun i u hu => ?_⟩
    have ea : (⟨B2, 0, none⟩ : Addr).add (0 * k37.sz + i) = ⟨B2, i, none⟩ := by rw [add_plain]; first | rfl | (congr 1; first | (simp [k37, Kd.iso, Kd.pair, Kd.int, Kd.string, Kd.slice, Kd.scalar]; done) | (simp [k37, Kd.iso, Kd.pair, Kd.int, Kd.string, Kd.slice, Kd.scalar]; omega))
    rw [ea, h2.cell]
    rcases i with _ | _ | _ | _ | i
    · simpa using hu
    · simpa using hu
    · simpa using hu
    · simpa using hu
    · simp at hu
  · simp only [List.getElem?_cons_succ, List.getElem?_cons_zero, Option.some.injEq] at hr
    subst hr
    refine ⟨_, rfl, k37_mk (A3 := none) (c3 := 0) W _ (by decide) ⟨rfl, by simp, fun h => absurd h (by simp)⟩, fun i u hu => ?_⟩
    have ea : (⟨B2, 0, none⟩ : Addr).add ((0 + 1) * k37.sz + i) = ⟨B2, 4 + i, none⟩ := by rw [add_plain]; first | rfl | (congr 1; first | (simp [k37, Kd.iso, Kd.pair, Kd.int, Kd.string, Kd.slice, Kd.scalar]; done) | (simp [k37, Kd.iso, Kd.pair, Kd.int, Kd.string, Kd.slice, Kd.scalar]; omega))
    rw [ea, h2.cell]
    rcases i with _ | _ | _ | _ | i
    · simpa using hu
    · simpa using hu
    · simpa using hu
    · simpa using hu
    · simp at hu
  · simp only [List.getElem?_cons_succ, List.getElem?_cons_zero, Option.some.injEq] at hr
    subst hr
    refine ⟨_, rfl, k37_mk (A3 := none) (c3 := 0) W _ (by decide) ⟨rfl, by simp, fun h => absurd h (by simp)⟩, fun i u hu => ?_⟩
    have ea : (⟨B2, 0, none⟩ : Addr).add ((0 + 1 + 1) * k37.sz + i) = ⟨B2, 8 + i, none⟩ := by rw [add_plain]; first | rfl | (congr 1; first | (simp [k37, Kd.iso, Kd.pair, Kd.int, Kd.string, Kd.slice, Kd.scalar]; done) | (simp [k37, Kd.iso, Kd.pair, Kd.int, Kd.string, Kd.slice, Kd.scalar]; omega))
    rw [ea, h2.cell]
    rcases i with _ | _ | _ | _ | i
    · simpa using hu
    · simpa using hu
    · simpa using hu
    · simpa using hu
    · simp at hu
  · simp only [List.getElem?_cons_succ, List.getElem?_cons_zero, Option.some.injEq] at hr
    subst hr
    refine ⟨_, rfl, k37_mk (A3 := none) (c3 := 0) W _ (by decide) ⟨rfl, by simp, fun h => absurd h (by simp)⟩, fun i u hu => ?_⟩
    have ea : (⟨B2, 0, none⟩ : Addr).add ((0 + 1 + 1 + 1) * k37.sz + i) = ⟨B2, 12 + i, none⟩ := by rw [add_plain]; first | rfl | (congr 1; first | (simp [k37, Kd.iso, Kd.pair, Kd.int, Kd.string, Kd.slice, Kd.scalar]; done) | (simp [k37, Kd.iso, Kd.pair, Kd.int, Kd.string, Kd.slice, Kd.scalar]; omega))
    rw [ea, h2.cell]
    rcases i with _ | _ | _ | _ | i
    · simpa using hu
    · simpa using hu
    · simpa using hu
    · simpa using hu
    · simp at hu
  · simp at hr
set_option maxRecDepth 100000 in
set_option maxHeartbeats 8000000 in
theorem awake_calls (w : World) : Calls Try.prog 6 #[] w fun e w' => e = .returned (.bool true) ∧ Below w.heap.size w w' := by
  go_enter Try.func6, Try.ntmps6
  go_wp2_with (go_at_call 8; refine (token_Read.calls _ awT 0 _ aw_read).mono ?_; rintro e w1 ⟨v, rfl, hs, hb⟩; have HS1 := Lib.hid hs; have HB1 := Lib.hid hb; obtain ⟨A1, c1, rfl⟩ := Kd.S_slice hs; clear hs hb)
  have HX1 := Lib.hid (show Blk ((w1.alloc (.cells #[.string ⟨#[105, 100]⟩, .string ⟨#[97]⟩] 36)).alloc (.cells #[.int .i64 1, .string ⟨#[112]⟩, .string ⟨#[]⟩, .slice (some ⟨w1.heap.size, 0, none⟩) 1 1, .int .i64 3, .string ⟨#[]⟩, .string ⟨#[120]⟩, .slice none 0 0, .int .i64 2, .string ⟨#[112]⟩, .string ⟨#[]⟩, .slice none 0 0, .int .i64 3, .string ⟨#[]⟩, .string ⟨#[60, 60]⟩, .slice none 0 0] 37)) w1.heap.size #[.string ⟨#[105, 100]⟩, .string ⟨#[97]⟩] 36 from (Blk.alloc w1 _ _).alloc_old _)
  have HX2 := Lib.hid (show Blk ((w1.alloc (.cells #[.string ⟨#[105, 100]⟩, .string ⟨#[97]⟩] 36)).alloc (.cells #[.int .i64 1, .string ⟨#[112]⟩, .string ⟨#[]⟩, .slice (some ⟨w1.heap.size, 0, none⟩) 1 1, .int .i64 3, .string ⟨#[]⟩, .string ⟨#[120]⟩, .slice none 0 0, .int .i64 2, .string ⟨#[112]⟩, .string ⟨#[]⟩, .slice none 0 0, .int .i64 3, .string ⟨#[]⟩, .string ⟨#[60, 60]⟩, .slice none 0 0] 37)) (w1.heap.size + 1) #[.int .i64 1, .string ⟨#[112]⟩, .string ⟨#[]⟩, .slice (some ⟨w1.heap.size, 0, none⟩) 1 1, .int .i64 3, .string ⟨#[]⟩, .string ⟨#[120]⟩, .slice none 0 0, .int .i64 2, .string ⟨#[112]⟩, .string ⟨#[]⟩, .slice none 0 0, .int .i64 3, .string ⟨#[]⟩, .string ⟨#[60, 60]⟩, .slice none 0 0] 37 from Blk.alloc_at _ _ _ (by simp))
  have HS2 := Lib.hid (Kd.S_alloc (Kd.S_alloc HS1.out (.cells #[.string ⟨#[105, 100]⟩, .string ⟨#[97]⟩] 36)) (.cells #[.int .i64 1, .string ⟨#[112]⟩, .string ⟨#[]⟩, .slice (some ⟨w1.heap.size, 0, none⟩) 1 1, .int .i64 3, .string ⟨#[]⟩, .string ⟨#[120]⟩, .slice none 0 0, .int .i64 2, .string ⟨#[112]⟩, .string ⟨#[]⟩, .slice none 0 0, .int .i64 3, .string ⟨#[]⟩, .string ⟨#[60, 60]⟩, .slice none 0 0] 37))
  have HB2 := Lib.hid (show Below w.heap.size w ((w1.alloc (.cells #[.string ⟨#[105, 100]⟩, .string ⟨#[97]⟩] 36)).alloc (.cells #[.int .i64 1, .string ⟨#[112]⟩, .string ⟨#[]⟩, .slice (some ⟨w1.heap.size, 0, none⟩) 1 1, .int .i64 3, .string ⟨#[]⟩, .string ⟨#[120]⟩, .slice none 0 0, .int .i64 2, .string ⟨#[112]⟩, .string ⟨#[]⟩, .slice none 0 0, .int .i64 3, .string ⟨#[]⟩, .string ⟨#[60, 60]⟩, .slice none 0 0] 37)) from below_alloc (below_alloc HB1.out _) _)
  generalize ((w1.alloc (.cells #[.string ⟨#[105, 100]⟩, .string ⟨#[97]⟩] 36)).alloc (.cells #[.int .i64 1, .string ⟨#[112]⟩, .string ⟨#[]⟩, .slice (some ⟨w1.heap.size, 0, none⟩) 1 1, .int .i64 3, .string ⟨#[]⟩, .string ⟨#[120]⟩, .slice none 0 0, .int .i64 2, .string ⟨#[112]⟩, .string ⟨#[]⟩, .slice none 0 0, .int .i64 3, .string ⟨#[]⟩, .string ⟨#[60, 60]⟩, .slice none 0 0] 37)) = W2 at HX1 HX2 HS2 HB2 ⊢
  refine Calls.mono (scrimlaw04_own.calls 6 (fun _ => True) A1 c1 awT awR _ (Kd.S_V HS2.out) aw_own) ?_
  rintro e w3 ⟨v0, rfl, hn, hb⟩
  obtain ⟨A3, c3, rfl, hc3, hr3⟩ := Kd.N_reads hn
  have HR3 := Lib.hid hr3
  have HC3 := Lib.hid hc3
  have HX3 := Lib.hid (HX1.out.below hb HX1.out.lt)
  have HY3 := Lib.hid (HX2.out.below hb HX2.out.lt)
  have HB3 := Lib.hid (HB2.out.trans (hb.mono HB2.out.size))
  clear hn hb hr3 hc3 HX1 HX2 HS2 HS1
  go_wp2_with fail
  refine Calls.mono (scrimref04_Same.calls 12 A3 c3 awR (some ⟨w1.heap.size + 1, 0, none⟩) 4 awR true _ HR3.out HC3.out (want_reads HX3.out HY3.out) (by decide) aw_same) ?_
  rintro e w4 ⟨rfl, hb⟩
  have HB4 := Lib.hid (HB3.out.trans (hb.mono HB3.out.size))
  clear hb
  go_wp2_with fail
  refine Calls.mono (token_Name.calls ⟨#[97, 45, 49]⟩ true _ aw_name1) ?_
  rintro e w5 ⟨rfl, hb⟩
  have HB5 := Lib.hid (HB4.out.trans (hb.mono HB4.out.size))
  clear hb
  go_wp2_with fail
  refine Calls.mono (token_Name.calls ⟨#[65]⟩ false _ aw_name2) ?_
  rintro e w6 ⟨rfl, hb⟩
  have HB6 := Lib.hid (HB5.out.trans (hb.mono HB5.out.size))
  clear hb
  go_wp2_with fail
  refine Calls.mono (token_Tell.calls _ _ _ aw_tell) ?_
  rintro e w7 ⟨rfl, hb⟩
  have HB7 := Lib.hid (HB6.out.trans (hb.mono HB6.out.size))
  clear hb
  go_wp2_with fail
  refine Calls.mono (token_Sign.calls _ _ _ _ aw_sign) ?_
  rintro e w8 ⟨rfl, hb⟩
  have HB8 := Lib.hid (HB7.out.trans (hb.mono HB7.out.size))
  clear hb
  go_wp2_with fail
  go_ret
  exact ⟨rfl, HB8.out⟩
def scrimlaw04_awake.f : Option Bool := some true
theorem scrimlaw04_awake.calls (r : Bool) (w : World) (h : scrimlaw04_awake.f = some r) : Calls Try.prog 6 #[] w fun e w' => e = .returned (.bool r) ∧ Below w.heap.size w w' := by
  unfold scrimlaw04_awake.f at h
  injection h with h
  subst h
  exact awake_calls w
end Go.Proofs.Ytkjgnkmnngaioaa.Q
