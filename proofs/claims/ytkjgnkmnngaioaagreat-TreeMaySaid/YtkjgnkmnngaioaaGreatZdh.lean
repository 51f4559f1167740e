/- What the proof of treeMay_holds needs, of the texts that this work has written and of the words that the kit's print lends. -/
import Derived.Test.YtkjgnkmnngaioaaGreatZde
import Derived.Test.YtkjgnkmnngaioaaGreatZdg
import Derived.Test.YtkjgnkmnngaioaaGreatZdb
import Derived.OrdersIn
import Derived.TacticsIn
import Derived.RangeFuncCalls
import Derived.Shelf.Abstract
namespace Go.Proofs.YtkjgnkmnngaioaaGreat.Q
open Go.RowKit Go.IntWalk Go.Proofs.YtkjgnkmnngaioaaGreat.Mem Go.Proofs.YtkjgnkmnngaioaaGreatW.PrintWords Go.Proofs.YtkjgnkmnngaioaaGreatW.PrintLast Go.Proofs.YtkjgnkmnngaioaaGreatW.PrintMore
set_option linter.unusedVariables false
set_option linter.unusedSimpArgs false
/-- The value of an attribute. -/
def atVal (l : List At) (s : ByteArray) : ByteArray := match l.find? (fun x => eqS x.f0 s) with
  | some x => x.f1
  | none => ⟨#[]⟩
theorem find_pre {l : List At} {s : ByteArray} {k : Nat} (h : ∀ j, j < k → eqS (atAt l j).f0 s = false) (hk : k ≤ l.length) : (l.take k).any (fun x => eqS x.f0 s) = false := by
  rw [Bool.eq_false_iff]
  intro h1
  rw [List.any_eq_true] at h1
  obtain ⟨x, hx, he⟩ := h1
  obtain ⟨j, hj, rfl⟩ := List.getElem_of_mem hx
  rw [List.length_take] at hj
  rw [List.getElem_take] at he
  have := h j (by omega)
  unfold atAt at this
  rw [List.getD_eq_getElem?_getD, List.getElem?_eq_getElem (by omega)] at this
  rw [show eqS l[j].f0 s = false from this] at he
  cases he
theorem atVal_at {l : List At} {s : ByteArray} {k : Nat} (h : ∀ j, j < k → eqS (atAt l j).f0 s = false) (hk : k < l.length) (he : eqS (atAt l k).f0 s = true) : atVal l s = (atAt l k).f1 ∧ (l.any fun x => eqS x.f0 s) = true := by
  have hp := find_pre h (Nat.le_of_lt hk)
  have hd : l.drop k = atAt l k :: l.drop (k + 1) := by
    unfold atAt
    rw [List.drop_eq_getElem_cons hk, List.getD_eq_getElem?_getD, List.getElem?_eq_getElem hk]; rfl
  constructor
  · have hn : (l.take k).find? (fun x => eqS x.f0 s) = none := by
      rw [List.find?_eq_none]
      intro x hx h2
      rw [Bool.eq_false_iff] at hp
      exact hp (List.any_eq_true.2 ⟨x, hx, h2⟩)
    have hf : l.find? (fun x => eqS x.f0 s) = some (atAt l k) := by
      have e : l.find? (fun x => eqS x.f0 s) = (l.take k ++ l.drop k).find? (fun x => eqS x.f0 s) := by rw [List.take_append_drop]
      rw [e, List.find?_append, hn, hd, List.find?_cons_of_pos (by exact he)]; rfl
    unfold atVal
    rw [hf]
  · rw [List.any_eq_true]
    refine ⟨atAt l k, ?_, he⟩
    have : atAt l k ∈ l.drop k := by rw [hd]; exact List.mem_cons_self
    exact List.mem_of_mem_drop this
set_option maxRecDepth 100000 in
set_option maxHeartbeats 4000000 in
theorem rattr_calls (A : Option Addr) (c : Nat) (l : List At) (s : ByteArray) (w : World) (hC : Kd.C k70 w A l.length l) (hl : l.length ≤ 9223372036854775806) :
    Calls Tryz.prog 71 #[.slice A l.length c, .string s] w fun e w' => e = .returned (.tuple #[.string (atVal l s), .bool (l.any fun x => eqS x.f0 s)]) ∧ Below w.heap.size w w' := by
  have HC := Lib.hid hC
  have HLL := Lib.hid hl
  clear hC
  go_enter Tryz.func71, Tryz.ntmps71
  go_wp2_with fail
  go_loopw [6] (fun i wr => ∃ k : Nat, k ≤ l.length ∧ i = .int .i64 k ∧ Hid (∀ j, j < k → eqS (atAt l j).f0 s = false) ∧ Hid (Below w.heap.size w wr)) (fun i wr => l.length - (intOf i).toNat)
  case atStart => exact ⟨0, Nat.zero_le _, rfl, Lib.hid (fun j hj => absurd hj (Nat.not_lt_zero _)), Lib.hid (Below.refl _ _)⟩
  case round =>
    obtain ⟨k, hk, rfl, HI, HB⟩ := hrel
    by_cases hlt : k < l.length
    · obtain ⟨ad, rfl, h0, h1⟩ := at_T70 (Kd.C_below HC.out HB.out) (k : Int) (by omega) (by omega)
      have hrd : rd_T70 l (k : Int) = atAt l k := by unfold rd_T70 atAt; rw [Int.toNat_natCast]
      rw [hrd] at h0 h1
      simp only [Int.toNat_natCast] at h0 h1
      obtain ⟨x, hx⟩ : ∃ x, x = atAt l k := ⟨_, rfl⟩
      rw [← hx] at h0 h1
      have HX := Lib.hid hx
      clear hx hrd
      by_cases he : x.f0.toList = s.toList
      · have v1 : (x.f0.toList == s.toList) = true := by rw [beq_iff_eq]; exact he
        have HE := Lib.hid (atVal_at HI.out hlt (by rw [← HX.out]; unfold eqS; simpa using v1))
        clear he
        go_wp2_with fail
        go_ret2
        exact ⟨by rw [HE.out.1, HE.out.2, ← HX.out]; rfl, HB.out⟩
      · have v1 : (x.f0.toList == s.toList) = false := by rw [beq_eq_false_iff_ne]; exact he
        have HN := Lib.hid (show ∀ j, j < k + 1 → eqS (atAt l j).f0 s = false from fun j hj => by
          by_cases hjk : j < k
          · exact HI.out j hjk
          · have : j = k := by omega
            subst this
            rw [← HX.out]; unfold eqS; simpa using v1)
        clear he
        go_wp2_with fail
        go_roundw
        case rel => exact ⟨k + 1, by omega, by go_num, HN, HB⟩
        case measure => simp [intOf]; omega
    · have HE := Lib.hid (find_pre HI.out hk)
      go_wp2_with fail
      go_ret2
      have hk' : k = l.length := by omega
      have he := HE.out
      rw [hk', List.take_length] at he
      exact ⟨by
        rw [he]
        have : atVal l s = ⟨#[]⟩ := by
          unfold atVal
          rw [List.find?_eq_none.2 (fun x hx h2 => by rw [Bool.eq_false_iff] at he; exact he (List.any_eq_true.2 ⟨x, hx, h2⟩))]
        rw [this]; rfl, HB.out⟩
theorem emp_t {s : ByteArray} (h : s.toList = []) : s.toList.isEmpty = true := by rw [h]; rfl
theorem emp_f {s : ByteArray} (h : ¬ s.toList = []) : s.toList.isEmpty = false := by
  cases h2 : s.toList with
  | nil => exact absurd h2 h
  | cons => rfl
set_option maxRecDepth 100000 in
set_option maxHeartbeats 4000000 in
theorem rattrs_calls (A : Option Addr) (c : Nat) (l : List At) (w : World) (hC : Kd.C k70 w A l.length l) (hc : l.length ≤ c) (hl : l.length ≤ 9223372036854775806) (hs : ∀ x ∈ l, x.f0.size ≤ 9223372036854775806) :
    Calls Tryz.prog 97 #[.slice A l.length c] w fun e w' => e = .returned (.bool (attrsF l)) ∧ Below w.heap.size w w' := by
  have HC := Lib.hid hC
  have HS := Lib.hid hs
  have HCC := Lib.hid hc
  have HLL := Lib.hid hl
  clear hC hs hc hl
  go_enter Tryz.func97, Tryz.ntmps97
  go_wp2_with fail
  go_loopw [3] (fun i wr => ∃ k : Nat, k ≤ l.length ∧ i = .int .i64 k ∧ Hid (∀ j, j < k → attrOk l j = true) ∧ Hid (Below w.heap.size w wr)) (fun i wr => l.length - (intOf i).toNat)
  case atStart => exact ⟨0, Nat.zero_le _, rfl, Lib.hid (fun j hj => absurd hj (Nat.not_lt_zero _)), Lib.hid (Below.refl _ _)⟩
  case round =>
    obtain ⟨k, hk, rfl, HI, HB⟩ := hrel
    by_cases hlt : k < l.length
    · obtain ⟨ad, rfl, h0, h1⟩ := at_T70 (Kd.C_below HC.out HB.out) (k : Int) (by omega) (by omega)
      have hrd : rd_T70 l (k : Int) = atAt l k := by unfold rd_T70 atAt; rw [Int.toNat_natCast]
      rw [hrd] at h0 h1
      simp only [Int.toNat_natCast] at h0 h1
      obtain ⟨x, hx⟩ : ∃ x, x = atAt l k := ⟨_, rfl⟩
      rw [← hx] at h0 h1
      have HX := Lib.hid hx
      have HXS := Lib.hid (show x.f0.size ≤ 9223372036854775806 from HS.out x (by rw [hx]; unfold atAt; rw [List.getD_eq_getElem?_getD, List.getElem?_eq_getElem hlt]; exact List.getElem_mem _))
      clear hx hrd h1
      have HTK := Lib.hid (show (l.take k).length = k by rw [List.length_take]; omega)
      have i1 : (k : Int) ≤ (c : Int) := by have := HCC.out; omega
      have i2 : (0 : Int) ≤ (k : Int) := by omega
      have hll : l.length ≤ 9223372036854775806 := HLL.out
      have HLT := Lib.hid (World.block_lt_of_cell? wr _ h0)
      have H0 := Lib.hid h0
      clear h0
      go_upto_region 4 with (fail)
      obtain ⟨C, hC⟩ : ∃ C : Nat → World → Prop, C = fun _ w_ => Below wr.heap.size wr w_ := ⟨_, rfl⟩
      have HCI : Hid (∀ i w_, C i w_ ↔ Below wr.heap.size wr w_) := Lib.hid (fun i w_ => by rw [hC])
      clear hC
      have ne : Nonempty (Mix.Wd C 0) := ⟨⟨wr, 0, Nat.le_refl _, (HCI.out _ _).2 (Below.refl _ _)⟩⟩
      have q0 : ∀ q : Mix.Wd C 0, q.1.cell? (ad.add (k * 2)) = some (.string x.f0) := fun ⟨w_, i, _, hw⟩ => (((HCI.out _ _).1 hw).cell HLT.out).trans H0.out
      obtain ⟨hb, hhb⟩ : ∃ hb, hb = (l.take k).any (fun y => eqS y.f0 x.f0) := ⟨_, rfl⟩
      have HH := Lib.hid hhb
      clear hhb
      refine Mix.wp_region_mix (C := C) [8] (by kernel_rfl) (by kernel_rfl) ((HCI.out _ _).2 (below_drew (Below.refl _ _))) ?_
      iterate 8 (refine Mix.mix_still (by decide) (fun K hK => ?_); go_simp; refine hK _ ?_; clear hK K)
      refine Mix.mix_turn (by decide) (fun K hK => ?_)
      go_simp
      refine ⟨.tuple #[.string (atVal (l.take k) x.f0), .bool hb], fun w_ hw_ => ?_, hK _ ?_⟩
      · have hy := (HCI.out _ _).1 hw_
        have hq := rattr_calls (some ad) c (l.take k) x.f0 w_ (Kd.C_take (m := k) (Kd.C_below HC.out (HB.out.trans (hy.mono HB.out.size))) (by omega)) (by have := HTK.out; omega)
        rw [HTK.out, ← HH.out] at hq
        exact hq.mono fun e w2 h => ⟨h.1, (HCI.out _ _).2 (hy.trans (h.2.mono hy.size))⟩
      clear hK K
      iterate 5 (refine Mix.mix_still (by decide) (fun K hK => ?_); go_simp; refine hK _ ?_; clear hK K)
      refine Mix.mix_nil ?_
      intro w2 hw2
      have HW2 := Lib.hid ((HCI.out _ _).1 hw2)
      clear hw2 q0 ne HCI
      show Exit.then _ _ _ _ w2
      have HB2 := Lib.hid (HB.out.trans (HW2.out.mono HB.out.size))
      have h0 : w2.cell? (ad.add (k * 2)) = some (.string x.f0) := (HW2.out.cell HLT.out).trans H0.out
      cases hb with
      | true =>
        go_wp2_with fail
        go_ret
        exact ⟨by rw [attrsF_false hlt (by unfold attrOk; rw [← HX.out, ← HH.out, Bool.not_true, Bool.and_false])]; rfl, HB2.out⟩
      | false =>
        rcases (show nameB x.f0.data.toList = false ∨ nameB x.f0.data.toList = true by cases nameB x.f0.data.toList <;> simp) with hn | hn
        · have HN := Lib.hid hn
          clear hn
          go_wp2_with (go_at_call 18; refine (rname_calls x.f0 _ HXS.out).mono ?_; rintro e w3 ⟨rfl, hb3⟩; rw [HN.out]; have HB3 := Lib.hid (HB2.out.trans (hb3.mono HB2.out.size)); clear hb3)
          go_ret
          exact ⟨by rw [attrsF_false hlt (by unfold attrOk; rw [← HX.out, HN.out]; rfl)]; rfl, HB3.out⟩
        · have HN := Lib.hid hn
          clear hn
          go_wp2_with (go_at_call 18; refine (rname_calls x.f0 _ HXS.out).mono ?_; rintro e w3 ⟨rfl, hb3⟩; rw [HN.out]; have HB3 := Lib.hid (HB2.out.trans (hb3.mono HB2.out.size)); clear hb3)
          go_roundw
          case rel => exact ⟨k + 1, by omega, by go_num, Lib.hid (fun j hj => by
            by_cases hjk : j < k
            · exact HI.out j hjk
            · have : j = k := by omega
              subst this
              unfold attrOk
              rw [← HX.out, HN.out, ← HH.out]; rfl), HB3⟩
          case measure => simp [intOf]; omega
    · go_wp2_with fail
      go_ret
      exact ⟨by rw [attrsF_true (fun i hi => HI.out i (by omega))]; rfl, HB.out⟩
/-- May a node be, by itself? -/
def oneF (x : Nd) : Bool := if x.f1.toList = [] then decide (¬ x.f2.toList = []) && decide (x.f3.length = 0) && decide (x.f4.length = 0)
  else nameB x.f1.data.toList && decide (¬ x.f1.toList = rootL) && decide (x.f2.toList = []) && attrsF x.f3 && (decide (¬ x.f1.toList = imgL) || decide (x.f4.length = 0))
set_option maxRecDepth 100000 in
set_option maxHeartbeats 4000000 in
theorem rone_calls (x : Nd) (A3 A4 : Option Addr) (c3 c4 : Nat) (w : World) (hC : Kd.C k70 w A3 x.f3.length x.f3) (hc : x.f3.length ≤ c3) (hl : x.f3.length ≤ 9223372036854775806) (hs : ∀ y ∈ x.f3, y.f0.size ≤ 9223372036854775806) (h1 : x.f1.size ≤ 9223372036854775806) :
    Calls Tryz.prog 64 #[.agg #[.int .i64 x.f0, .string x.f1, .string x.f2, .slice A3 x.f3.length c3, .slice A4 x.f4.length c4]] w fun e w' => e = .returned (.bool (oneF x)) ∧ Below w.heap.size w w' := by
  have HC := Lib.hid hC
  have HS := Lib.hid hs
  have HCC := Lib.hid hc
  have HLL := Lib.hid hl
  have H1 := Lib.hid h1
  clear hC hs hc hl h1
  have HA := Lib.hid (below_alloc (Below.refl w.heap.size w) (.cells #[.int .i64 x.f0, .string x.f1, .string x.f2, .slice A3 x.f3.length c3, .slice A4 x.f4.length c4] 49))
  have Z1 := Lib.hid (Blk.alloc w #[.int .i64 x.f0, .string x.f1, .string x.f2, .slice A3 x.f3.length c3, .slice A4 x.f4.length c4] 49)
  have HU := Lib.hid (oneF.eq_1 x)
  by_cases e1 : x.f1.toList = []
  · have HO := HU.out
    rw [if_pos e1] at HO
    have HO := Lib.hid HO
    have v1 := emp_t e1
    clear e1
    by_cases e2 : x.f2.toList = []
    · have v2 := emp_t e2
      have HE := Lib.hid e2
      clear e2
      go_enter Tryz.func64, Tryz.ntmps64
      go_wp2_with fail
      go_ret
      exact ⟨by rw [HO.out, HE.out]; rfl, HA.out⟩
    · have v2 := emp_f e2
      have HE := Lib.hid e2
      clear e2
      by_cases e3 : x.f3.length = 0
      · have v3 : ((x.f3.length : Int) == 0) = true := by simp; exact List.length_eq_zero_iff.1 e3
        by_cases e4 : x.f4.length = 0
        · have v4 : ((x.f4.length : Int) == 0) = true := by simp; exact List.length_eq_zero_iff.1 e4
          have HR := Lib.hid (show oneF x = true by rw [HO.out, decide_eq_true HE.out, decide_eq_true e3, decide_eq_true e4]; rfl)
          clear e3 e4
          go_enter Tryz.func64, Tryz.ntmps64
          go_wp2_with fail
          go_ret
          exact ⟨by rw [HR.out]; rfl, HA.out⟩
        · have v4 : ((x.f4.length : Int) == 0) = false := by simp; exact fun h => e4 (List.length_eq_zero_iff.2 h)
          have HR := Lib.hid (show oneF x = false by rw [HO.out, decide_eq_false e4, Bool.and_false])
          clear e3 e4
          go_enter Tryz.func64, Tryz.ntmps64
          go_wp2_with fail
          go_ret
          exact ⟨by rw [HR.out]; rfl, HA.out⟩
      · have v3 : ((x.f3.length : Int) == 0) = false := by simp; exact fun h => e3 (List.length_eq_zero_iff.2 h)
        have HR := Lib.hid (show oneF x = false by rw [HO.out, decide_eq_false e3, Bool.and_false, Bool.false_and])
        clear e3
        go_enter Tryz.func64, Tryz.ntmps64
        go_wp2_with fail
        go_ret
        exact ⟨by rw [HR.out]; rfl, HA.out⟩
  · have HO := HU.out
    rw [if_neg e1] at HO
    have HO := Lib.hid HO
    have v1 := emp_f e1
    clear e1
    obtain ⟨b1, hb1⟩ : ∃ b, b = nameB x.f1.data.toList := ⟨_, rfl⟩
    have N1 := Lib.hid hb1
    obtain ⟨b3, hb3⟩ : ∃ b, b = attrsF x.f3 := ⟨_, rfl⟩
    have N3 := Lib.hid hb3
    rw [← hb1, ← hb3] at HO
    clear hb1 hb3
    cases b1 with
    | false =>
      go_enter Tryz.func64, Tryz.ntmps64
      go_wp2_with (go_at_call 18; refine (rname_calls x.f1 _ H1.out).mono ?_; rintro e w3 ⟨rfl, hb3⟩; rw [← N1.out]; have HB3 := Lib.hid (HA.out.trans (hb3.mono HA.out.size)); clear hb3)
      go_ret
      exact ⟨by rw [HO.out]; rfl, HB3.out⟩
    | true =>
      by_cases e2 : x.f1.toList = rootL
      · have v2 : (x.f1.toList == [114, 111, 111, 116]) = true := by rw [beq_iff_eq]; exact e2
        have HR := Lib.hid (show oneF x = false by rw [HO.out, decide_eq_false (p := ¬ x.f1.toList = rootL) (fun h => h e2)]; rfl)
        clear e2
        go_enter Tryz.func64, Tryz.ntmps64
        go_wp2_with (go_at_call 18; refine (rname_calls x.f1 _ H1.out).mono ?_; rintro e w3 ⟨rfl, hb3⟩; rw [← N1.out]; have HB3 := Lib.hid (HA.out.trans (hb3.mono HA.out.size)); have z1 := (Z1.out.below hb3 Z1.out.lt).cell 1; simp only [List.getElem?_toArray, List.getElem?_cons_zero, List.getElem?_cons_succ] at z1; clear hb3)
        go_ret
        exact ⟨by rw [HR.out]; rfl, HB3.out⟩
      · have v2 : (x.f1.toList == [114, 111, 111, 116]) = false := by rw [beq_eq_false_iff_ne]; exact e2
        have E2 := Lib.hid e2
        clear e2
        by_cases e3 : x.f2.toList = []
        · have v3 := emp_t e3
          have E3 := Lib.hid e3
          clear e3
          cases b3 with
          | false =>
            have HR := Lib.hid (show oneF x = false by rw [HO.out, Bool.and_false, Bool.false_and])
            go_enter Tryz.func64, Tryz.ntmps64
            go_wp2_with (first
              | (go_at_call 18; refine (rname_calls x.f1 _ H1.out).mono ?_; rintro e w3 ⟨rfl, hb3⟩; rw [← N1.out]; have HB3 := Lib.hid (HA.out.trans (hb3.mono HA.out.size)); have Z3 := Lib.hid (Z1.out.below hb3 Z1.out.lt); have z1 := Z3.out.cell 1; have z2 := Z3.out.cell 2; have z3 := Z3.out.cell 3; simp only [List.getElem?_toArray, List.getElem?_cons_zero, List.getElem?_cons_succ] at z1 z2 z3; clear hb3)
              | (go_at_call 97; refine (rattrs_calls A3 c3 x.f3 _ (Kd.C_below HC.out HB3.out) HCC.out HLL.out HS.out).mono ?_; rintro e w4 ⟨rfl, hb4⟩; rw [← N3.out]; have HB4 := Lib.hid (HB3.out.trans (hb4.mono HB3.out.size)); clear hb4))
            go_ret
            exact ⟨by rw [HR.out]; rfl, HB4.out⟩
          | true =>
            by_cases e4 : x.f1.toList = imgL
            · have v4 : (x.f1.toList == [105, 109, 103]) = true := by rw [beq_iff_eq]; exact e4
              by_cases e5 : x.f4.length = 0
              · have v5 : ((x.f4.length : Int) == 0) = true := by simp; exact List.length_eq_zero_iff.1 e5
                have HR := Lib.hid (show oneF x = true by rw [HO.out, decide_eq_true E2.out, decide_eq_true E3.out, decide_eq_true e5, Bool.or_true]; rfl)
                clear e4 e5
                go_enter Tryz.func64, Tryz.ntmps64
                go_wp2_with (first
                  | (go_at_call 18; refine (rname_calls x.f1 _ H1.out).mono ?_; rintro e w3 ⟨rfl, hb3⟩; rw [← N1.out]; have HB3 := Lib.hid (HA.out.trans (hb3.mono HA.out.size)); have Z3 := Lib.hid (Z1.out.below hb3 Z1.out.lt); have z1 := Z3.out.cell 1; have z2 := Z3.out.cell 2; have z3 := Z3.out.cell 3; simp only [List.getElem?_toArray, List.getElem?_cons_zero, List.getElem?_cons_succ] at z1 z2 z3; clear hb3)
                  | (go_at_call 97; refine (rattrs_calls A3 c3 x.f3 _ (Kd.C_below HC.out HB3.out) HCC.out HLL.out HS.out).mono ?_; rintro e w4 ⟨rfl, hb4⟩; rw [← N3.out]; have HB4 := Lib.hid (HB3.out.trans (hb4.mono HB3.out.size)); have Z4 := Lib.hid (Z3.out.below hb4 Z3.out.lt); have y1 := Z4.out.cell 1; have y4 := Z4.out.cell 4; simp only [List.getElem?_toArray, List.getElem?_cons_zero, List.getElem?_cons_succ] at y1 y4; clear hb4))
                go_ret
                exact ⟨by rw [HR.out]; rfl, HB4.out⟩
              · have v5 : ((x.f4.length : Int) == 0) = false := by simp; exact fun h => e5 (List.length_eq_zero_iff.2 h)
                have HR := Lib.hid (show oneF x = false by rw [HO.out, decide_eq_false (p := ¬ x.f1.toList = imgL) (fun h => h e4), decide_eq_false e5, Bool.or_false, Bool.and_false])
                clear e4 e5
                go_enter Tryz.func64, Tryz.ntmps64
                go_wp2_with (first
                  | (go_at_call 18; refine (rname_calls x.f1 _ H1.out).mono ?_; rintro e w3 ⟨rfl, hb3⟩; rw [← N1.out]; have HB3 := Lib.hid (HA.out.trans (hb3.mono HA.out.size)); have Z3 := Lib.hid (Z1.out.below hb3 Z1.out.lt); have z1 := Z3.out.cell 1; have z2 := Z3.out.cell 2; have z3 := Z3.out.cell 3; simp only [List.getElem?_toArray, List.getElem?_cons_zero, List.getElem?_cons_succ] at z1 z2 z3; clear hb3)
                  | (go_at_call 97; refine (rattrs_calls A3 c3 x.f3 _ (Kd.C_below HC.out HB3.out) HCC.out HLL.out HS.out).mono ?_; rintro e w4 ⟨rfl, hb4⟩; rw [← N3.out]; have HB4 := Lib.hid (HB3.out.trans (hb4.mono HB3.out.size)); have Z4 := Lib.hid (Z3.out.below hb4 Z3.out.lt); have y1 := Z4.out.cell 1; have y4 := Z4.out.cell 4; simp only [List.getElem?_toArray, List.getElem?_cons_zero, List.getElem?_cons_succ] at y1 y4; clear hb4))
                go_ret
                exact ⟨by rw [HR.out]; rfl, HB4.out⟩
            · have v4 : (x.f1.toList == [105, 109, 103]) = false := by rw [beq_eq_false_iff_ne]; exact e4
              have HR := Lib.hid (show oneF x = true by rw [HO.out, decide_eq_true E2.out, decide_eq_true E3.out, decide_eq_true e4]; rfl)
              clear e4
              go_enter Tryz.func64, Tryz.ntmps64
              go_wp2_with (first
                | (go_at_call 18; refine (rname_calls x.f1 _ H1.out).mono ?_; rintro e w3 ⟨rfl, hb3⟩; rw [← N1.out]; have HB3 := Lib.hid (HA.out.trans (hb3.mono HA.out.size)); have Z3 := Lib.hid (Z1.out.below hb3 Z1.out.lt); have z1 := Z3.out.cell 1; have z2 := Z3.out.cell 2; have z3 := Z3.out.cell 3; simp only [List.getElem?_toArray, List.getElem?_cons_zero, List.getElem?_cons_succ] at z1 z2 z3; clear hb3)
                | (go_at_call 97; refine (rattrs_calls A3 c3 x.f3 _ (Kd.C_below HC.out HB3.out) HCC.out HLL.out HS.out).mono ?_; rintro e w4 ⟨rfl, hb4⟩; rw [← N3.out]; have HB4 := Lib.hid (HB3.out.trans (hb4.mono HB3.out.size)); have Z4 := Lib.hid (Z3.out.below hb4 Z3.out.lt); have y1 := Z4.out.cell 1; simp only [List.getElem?_toArray, List.getElem?_cons_zero, List.getElem?_cons_succ] at y1; clear hb4))
              go_ret
              exact ⟨by rw [HR.out]; rfl, HB4.out⟩
        · have v3 := emp_f e3
          have HR := Lib.hid (show oneF x = false by rw [HO.out, decide_eq_false e3, Bool.and_false, Bool.false_and, Bool.false_and])
          clear e3
          go_enter Tryz.func64, Tryz.ntmps64
          go_wp2_with (go_at_call 18; refine (rname_calls x.f1 _ H1.out).mono ?_; rintro e w3 ⟨rfl, hb3⟩; rw [← N1.out]; have HB3 := Lib.hid (HA.out.trans (hb3.mono HA.out.size)); have Z3 := Lib.hid (Z1.out.below hb3 Z1.out.lt); have z1 := Z3.out.cell 1; have z2 := Z3.out.cell 2; simp only [List.getElem?_toArray, List.getElem?_cons_zero, List.getElem?_cons_succ] at z1 z2; clear hb3)
          go_ret
          exact ⟨by rw [HR.out]; rfl, HB3.out⟩
end Go.Proofs.YtkjgnkmnngaioaaGreat.Q
namespace Go.Proofs.YtkjgnkmnngaioaaGreat.Q
open Go.RowKit Go.IntWalk Go.Proofs.YtkjgnkmnngaioaaGreat.Mem Go.Proofs.YtkjgnkmnngaioaaGreatW.PrintWords Go.Proofs.YtkjgnkmnngaioaaGreatW.PrintLast Go.Proofs.YtkjgnkmnngaioaaGreatW.PrintMore
set_option linter.unusedVariables false
set_option linter.unusedSimpArgs false
theorem upL_fuel {l : List Nd} : ∀ (f f' : Nat) (a : Int), (∀ j : Nat, (j : Int) ≤ a → (ndAt l j).f0 < (j : Int)) → a < f → a < f' → upL l f a = upL l f' a
  | 0, f', a, hp, h1, h2 => by rw [upL_stop (f := f') (by omega)]; rfl
  | f + 1, f', a, hp, h1, h2 => by
    by_cases hin : 0 ≤ a ∧ a < (l.length : Int)
    · obtain ⟨m, rfl⟩ := Int.eq_ofNat_of_zero_le hin.1
      have hm : m < l.length := by omega
      obtain ⟨g, rfl⟩ : ∃ g, f' = g + 1 := ⟨f' - 1, by omega⟩
      have := hp m (by omega)
      rw [upL_step hm, upL_step hm, upL_fuel f g (ndAt l m).f0 (fun j hj => hp j (by omega)) (by omega) (by omega)]
    · rw [upL_stop hin, upL_stop hin]
theorem depth_zero {l : List Nd} {a : Nat} (ha : a < l.length) (h : (ndAt l a).f0 < 0) : depthF l (a : Int) = 0 := by
  unfold depthF
  rw [upL_step ha, upL_stop (by omega)]; rfl
theorem depth_up {l : List Nd} {a : Nat} (ha : a < l.length) (hp : ∀ j : Nat, j ≤ a → (ndAt l j).f0 < (j : Int)) : depthF l (a : Int) = depthF l (ndAt l a).f0 + 1 := by
  have h1 := hp a (Nat.le_refl _)
  unfold depthF
  rw [upL_step ha, upL_fuel l.length (l.length + 1) _ (fun j hj => hp j (by omega)) (by omega) (by omega), List.length_cons]
  omega
set_option maxRecDepth 100000 in
set_option maxHeartbeats 4000000 in
theorem rdepth_calls (A : Option Addr) (c : Nat) (l : List Nd) (a : Nat) (w : World) (hC : Kd.C k49 w A l.length l) (ha : a < l.length) (hp : ∀ j : Nat, j ≤ a → (ndAt l j).f0 < (j : Int)) (hl : l.length ≤ 1000000) :
    Calls Tryz.prog 65 #[.slice A l.length c, .int .i64 (a : Int)] w fun e w' => e = .returned (.int .i64 (depthF l (a : Int))) ∧ w = w' := by
  have HC := Lib.hid hC
  have HP := Lib.hid hp
  have HL := Lib.hid hl
  have HA := Lib.hid ha
  have HD := Lib.hid (show depthF l (a : Int) ≤ 1000000 by have := upL_len l (l.length + 1) (a : Int); unfold depthF; omega)
  clear hC hp hl ha
  go_enter Tryz.func65, Tryz.ntmps65
  go_wp2_with fail
  go_loop [1, 5] (fun t s => ∃ b n : Nat, t = .int .i64 b ∧ s = .int .i64 n ∧ b ≤ a ∧ b < l.length ∧ Hid (depthF l (b : Int) + n = depthF l (a : Int))) (fun t _ => (intOf t).toNat)
  case atStart => exact ⟨a, 0, rfl, rfl, Nat.le_refl _, HA.out, Lib.hid (by simp)⟩
  case round =>
    obtain ⟨b, n, rfl, rfl, hba, hbl, HI⟩ := hrel
    obtain ⟨ad, A3, c3, A4, c4, rfl, q0, q1, q2, q3, q4, l3, r3, l4, r4⟩ := at_T49 HC.out (b : Int) (by omega) (by omega)
    have hrd : rd_T49 l (b : Int) = ndAt l b := by unfold rd_T49 ndAt; rw [Int.toNat_natCast]
    rw [hrd] at q0
    simp only [Int.toNat_natCast] at q0
    clear q1 q2 q3 q4 l3 r3 l4 r4 hrd
    have HN := Lib.hid (HP.out b hba)
    obtain ⟨p, hpp⟩ : ∃ p, p = (ndAt l b).f0 := ⟨_, rfl⟩
    rw [← hpp] at q0 HN
    have HPP := Lib.hid hpp
    clear hpp
    by_cases hlt : 0 ≤ p
    · have HU := Lib.hid (depth_up hbl (fun j hj => HP.out j (by omega)))
      have hn : (n : Int) ≤ 1000002 := by
        have := HI.out; have := HU.out; have := HD.out
        have hlen : -1 ≤ depthF l (b : Int) := by unfold depthF; omega
        omega
      obtain ⟨m, rfl⟩ := Int.eq_ofNat_of_zero_le hlt
      go_wp2_with fail
      go_round
      case rel => exact ⟨m, n + 1, rfl, by go_num, by have := HN.out; omega, by have := HN.out; omega, Lib.hid (by have := HI.out; have h := HU.out; rw [← HPP.out] at h; omega)⟩
      case measure => have := HN.out; simp [intOf]; omega
    · have HZ := Lib.hid (depth_zero hbl (by rw [← HPP.out]; omega))
      go_wp2_with fail
      go_ret
      exact ⟨by rw [← HI.out, HZ.out, Int.zero_add]; rfl, rfl⟩
def mayH (l : List Nd) : Bool := decide (1 ≤ l.length) && decide (l.length ≤ 60) && decide ((ndAt l 0).f1.toList = rootL) && decide ((ndAt l 0).f0 = -1) && decide ((ndAt l 0).f2.toList = []) && decide ((ndAt l 0).f3.length = 0)
def upHas (l : List Nd) (a p : Int) : Bool := (upL l (l.length + 1) a).any fun x => decide ((x.1 : Int) = p)
def mayA (l : List Nd) (i : Nat) : Bool := oneF (ndAt l i) && decide (0 ≤ (ndAt l i).f0) && decide ((ndAt l i).f0 < (i : Int)) && decide (depthF l (i : Int) ≤ 12) && upHas l ((i : Int) - 1) (ndAt l i).f0
def isKid (l : List Nd) (i k : Nat) : Bool := decide (i < k) && decide ((ndAt l k).f0 = (i : Int))
def kidsTo (l : List Nd) (i n : Nat) : List Int := ((List.range n).filter (isKid l i)).map fun (k : Nat) => (k : Int)
def kidsF (l : List Nd) (i : Nat) : List Int := kidsTo l i l.length
def tagE (l : List Nd) (k : Int) : Bool := decide ((ndAt l k.toNat).f1.toList = [])
def adjT (l : List Nd) (ks : List Int) (k : Nat) : Bool := decide (0 < k) && tagE l (rd ks (k : Int)) && tagE l (rd ks ((k : Int) - 1))
def mayB (l : List Nd) (i : Nat) : Bool := decide (kidsF l i = (ndAt l i).f4) && (List.range (kidsF l i).length).all fun k => !adjT l (kidsF l i) k
/-- May a document be? -/
def mayF (l : List Nd) : Bool := mayH l && ((List.range l.length).all fun i => decide (i = 0) || mayA l i) && (List.range l.length).all (mayB l)
theorem mayF_h {l : List Nd} (h : mayH l = false) : mayF l = false := by unfold mayF; rw [h]; rfl
theorem mayF_a {l : List Nd} {i : Nat} (h0 : 1 ≤ i) (hi : i < l.length) (h : mayA l i = false) : mayF l = false := by
  unfold mayF
  have : ((List.range l.length).all fun i => decide (i = 0) || mayA l i) = false := by
    rw [Bool.eq_false_iff]
    intro h1
    have := List.all_eq_true.1 h1 i (List.mem_range.2 hi)
    rw [h, decide_eq_false (by omega)] at this
    cases this
  rw [this, Bool.and_false, Bool.false_and]
theorem mayF_b {l : List Nd} {i : Nat} (hi : i < l.length) (h : mayB l i = false) : mayF l = false := by
  unfold mayF
  have : (List.range l.length).all (mayB l) = false := by
    rw [Bool.eq_false_iff]
    intro h1
    have := List.all_eq_true.1 h1 i (List.mem_range.2 hi)
    rw [h] at this
    cases this
  rw [this, Bool.and_false]
theorem mayF_t {l : List Nd} (h : mayH l = true) (ha : ∀ i, 1 ≤ i → i < l.length → mayA l i = true) (hb : ∀ i, i < l.length → mayB l i = true) : mayF l = true := by
  unfold mayF
  rw [h, Bool.true_and, Bool.and_eq_true, List.all_eq_true, List.all_eq_true]
  refine ⟨fun i hi => ?_, fun i hi => hb i (List.mem_range.1 hi)⟩
  by_cases h0 : i = 0
  · rw [decide_eq_true h0]; rfl
  · rw [ha i (by omega) (List.mem_range.1 hi), Bool.or_true]
theorem kidsTo_succ (l : List Nd) (i n : Nat) : kidsTo l i (n + 1) = kidsTo l i n ++ (if isKid l i n = true then [(n : Int)] else []) := by
  unfold kidsTo
  rw [List.range_succ, List.filter_append, List.map_append]
  congr 1
  rw [List.filter_cons]
  split <;> rfl
theorem kidsTo_start (l : List Nd) (i : Nat) : kidsTo l i (i + 1) = [] := by
  unfold kidsTo
  rw [List.map_eq_nil_iff, List.filter_eq_nil_iff]
  intro k hk
  rw [List.mem_range] at hk
  unfold isKid
  rw [decide_eq_false (by omega), Bool.false_and]
  decide
theorem kidsTo_len (l : List Nd) (i n : Nat) : (kidsTo l i n).length ≤ n := by
  unfold kidsTo
  rw [List.length_map]
  have := List.length_filter_le (isKid l i) (List.range n)
  rw [List.length_range] at this
  exact this
theorem kidsTo_mem {l : List Nd} {i n : Nat} {x : Int} (h : x ∈ kidsTo l i n) : ∃ k : Nat, x = (k : Int) ∧ k < n ∧ isKid l i k = true := by
  unfold kidsTo at h
  obtain ⟨k, hk, rfl⟩ := List.mem_map.1 h
  rw [List.mem_filter, List.mem_range] at hk
  exact ⟨k, rfl, hk.1, hk.2⟩
theorem rd_mem {xs : List Int} {k : Nat} (h : k < xs.length) : rd xs (k : Int) ∈ xs := by
  unfold rd
  rw [Int.toNat_natCast, List.getD_eq_getElem?_getD, List.getElem?_eq_getElem h]
  exact List.getElem_mem _
theorem kids_rd {l : List Nd} {i k : Nat} (h : k < (kidsF l i).length) : ∃ m : Nat, rd (kidsF l i) (k : Int) = (m : Int) ∧ m < l.length := by
  obtain ⟨m, h1, h2, _⟩ := kidsTo_mem (rd_mem h)
  exact ⟨m, h1, h2⟩
theorem mayB_len {l : List Nd} {i : Nat} (h : (kidsF l i).length ≠ (ndAt l i).f4.length) : mayB l i = false := by
  unfold mayB
  rw [decide_eq_false (fun e => h (by rw [e])), Bool.false_and]
theorem mayB_ne {l : List Nd} {i : Nat} {k : Int} (h : rd (kidsF l i) k ≠ rd (ndAt l i).f4 k) : mayB l i = false := by
  unfold mayB
  rw [decide_eq_false (fun e => h (by rw [e])), Bool.false_and]
theorem mayB_adj {l : List Nd} {i k : Nat} (hk : k < (kidsF l i).length) (h : adjT l (kidsF l i) k = true) : mayB l i = false := by
  unfold mayB
  have : ((List.range (kidsF l i).length).all fun k => !adjT l (kidsF l i) k) = false := by
    rw [Bool.eq_false_iff]
    intro h1
    have := List.all_eq_true.1 h1 k (List.mem_range.2 hk)
    rw [h] at this
    cases this
  rw [this, Bool.and_false]
theorem mayB_t {l : List Nd} {i : Nat} (hl : (kidsF l i).length = (ndAt l i).f4.length) (h : ∀ k : Nat, k < (kidsF l i).length → rd (kidsF l i) (k : Int) = rd (ndAt l i).f4 (k : Int) ∧ adjT l (kidsF l i) k = false) : mayB l i = true := by
  unfold mayB
  rw [Bool.and_eq_true, decide_eq_true_iff, List.all_eq_true]
  refine ⟨?_, fun k hk => by rw [(h k (List.mem_range.1 hk)).2]; rfl⟩
  apply List.ext_getElem hl
  intro k h1 h2
  have := (h k h1).1
  unfold rd at this
  rw [Int.toNat_natCast, List.getD_eq_getElem?_getD, List.getD_eq_getElem?_getD, List.getElem?_eq_getElem h1, List.getElem?_eq_getElem h2] at this
  exact this
theorem upHas_stop {l : List Nd} {a p : Int} (h : a < 0) : upHas l a p = false := by
  unfold upHas
  rw [upL_stop (by omega)]; rfl
theorem upHas_step {l : List Nd} {a : Nat} {p : Int} (ha : a < l.length) (hp : ∀ j : Nat, j ≤ a → (ndAt l j).f0 < (j : Int)) : upHas l (a : Int) p = (decide ((a : Int) = p) || upHas l (ndAt l a).f0 p) := by
  have h1 := hp a (Nat.le_refl _)
  unfold upHas
  rw [upL_step ha, upL_fuel l.length (l.length + 1) _ (fun j hj => hp j (by omega)) (by omega) (by omega), List.any_cons]
def okMy (l : List Nd) : Prop := ∀ x ∈ l, x.f1.size ≤ 9223372036854775806 ∧ x.f3.length ≤ 9223372036854775806 ∧ ∀ y ∈ x.f3, y.f0.size ≤ 9223372036854775806
theorem ndAt_mem {l : List Nd} {i : Nat} (h : i < l.length) : ndAt l i ∈ l := by
  unfold ndAt
  rw [List.getD_eq_getElem?_getD, List.getElem?_eq_getElem h]
  exact List.getElem_mem _
set_option maxRecDepth 100000 in
set_option maxHeartbeats 8000000 in
theorem rmay_calls (A : Option Addr) (c : Nat) (l : List Nd) (w : World) (hC : Kd.C k49 w A l.length l) (hc : l.length ≤ c) (hl : l.length ≤ 9223372036854775806) (hx : okMy l) :
    Calls Tryz.prog 27 #[.slice A l.length c] w fun e w' => e = .returned (.bool (mayF l)) ∧ Below w.heap.size w w' := by
  have HC := Lib.hid hC
  have HCC := Lib.hid hc
  have HX := Lib.hid hx
  have HL := Lib.hid hl
  have HM := Lib.hid (mayH.eq_1 l)
  clear hC hc hx
  by_cases e1 : l.length < 1
  · have v1 : (l.length : Int) < 1 := by omega
    have HR := Lib.hid (mayF_h (l := l) (by rw [HM.out, decide_eq_false (by omega)]; rfl))
    go_enter Tryz.func27, Tryz.ntmps27
    go_wp2_with fail
    go_ret
    exact ⟨by rw [HR.out]; rfl, Below.refl _ _⟩
  have v1 : ¬ (l.length : Int) < 1 := by omega
  by_cases e2 : l.length > 60
  · have v2 : (60 : Int) < (l.length : Int) := by omega
    have HR := Lib.hid (mayF_h (l := l) (by rw [HM.out, decide_eq_false (p := l.length ≤ 60) (by omega)]; simp))
    go_enter Tryz.func27, Tryz.ntmps27
    go_wp2_with fail
    go_ret
    exact ⟨by rw [HR.out]; rfl, Below.refl _ _⟩
  have v2 : ¬ (60 : Int) < (l.length : Int) := by omega
  have l1 : 1 ≤ l.length := by omega
  have l60 : l.length ≤ 60 := by omega
  clear e1 e2
  obtain ⟨ad, A3, c3, A4, c4, rfl, q0, q1, q2, q3, q4, l3, r3, l4, r4⟩ := at_T49 HC.out (0 : Int) (by omega) (by omega)
  have hrd : rd_T49 l (0 : Int) = ndAt l 0 := by unfold rd_T49 ndAt; rfl
  rw [hrd] at q0 q1 q2 q3 q4
  have hz0 : ad.add 0 = ad := by unfold Addr.add; split <;> simp_all
  simp only [Int.toNat_zero, Nat.zero_mul, hz0] at q0 q1 q2 q3 q4
  clear hz0
  obtain ⟨x, hxx⟩ : ∃ x, x = ndAt l 0 := ⟨_, rfl⟩
  rw [← hxx] at q0 q1 q2 q3 q4
  have HXX := Lib.hid hxx
  have HM : Hid (mayH l = (decide (1 ≤ l.length) && decide (l.length ≤ 60) && decide (x.f1.toList = rootL) && decide (x.f0 = -1) && decide (x.f2.toList = []) && decide (x.f3.length = 0))) := by rw [hxx]; exact HM
  clear hxx hrd l3 r3 l4 r4 q4
  by_cases e3 : x.f1.toList = rootL
  · have v3 : (x.f1.toList == [114, 111, 111, 116]) = true := by rw [beq_iff_eq]; exact e3
    have E3 := Lib.hid e3
    clear e3
    by_cases e4 : x.f0 = -1
    · have v4 : (x.f0 == -1) = true := by rw [beq_iff_eq]; exact e4
      have E4 := Lib.hid e4
      clear e4
      by_cases e5 : x.f2.toList = []
      · have v5 := emp_t e5
        have E5 := Lib.hid e5
        clear e5
        by_cases e6 : x.f3.length = 0
        · have v6 : ¬ (0 : Int) < (x.f3.length : Int) := by omega
          have HH := Lib.hid (show mayH l = true by rw [HM.out, decide_eq_true l1, decide_eq_true l60, decide_eq_true E3.out, decide_eq_true E4.out, decide_eq_true E5.out, decide_eq_true e6]; rfl)
          clear e6
          go_enter Tryz.func27, Tryz.ntmps27
          go_wp2_with fail
          clear v1 v2 v3 v4 v5 v6 q0 q1 q2 q3
          have HP0 := Lib.hid (show (ndAt l 0).f0 = -1 by rw [← HXX.out]; exact E4.out)
          go_loopw [3] (fun i wr => ∃ k : Nat, 1 ≤ k ∧ k ≤ l.length ∧ i = .int .i64 k ∧ Hid (∀ j, 1 ≤ j → j < k → mayA l j = true) ∧ Hid (Below w.heap.size w wr)) (fun i wr => l.length - (intOf i).toNat)
          case atStart => exact ⟨1, Nat.le_refl _, l1, rfl, Lib.hid (fun j hj hj2 => by omega), Lib.hid (Below.refl _ _)⟩
          case round =>
            obtain ⟨k, hk1, hk, rfl, HI, HB⟩ := hrel
            by_cases hlt : k < l.length
            · obtain ⟨ad', A3, c3, A4, c4, hA, q0, q1, q2, q3, q4, l3, r3, l4, r4⟩ := at_T49 (Kd.C_below HC.out HB.out) (k : Int) (by omega) (by omega)
              injection hA with hA
              subst hA
              have hrd : rd_T49 l (k : Int) = ndAt l k := by unfold rd_T49 ndAt; rw [Int.toNat_natCast]
              rw [hrd] at q0 q1 q2 q3 q4 l3 r3
              simp only [Int.toNat_natCast] at q0 q1 q2 q3 q4
              obtain ⟨y, hy⟩ : ∃ y, y = ndAt l k := ⟨_, rfl⟩
              rw [← hy] at q0 q1 q2 q3 q4 l3 r3
              have HY := Lib.hid hy
              have HYM := Lib.hid (HX.out y (by rw [hy]; exact ndAt_mem hlt))
              have L3 := Lib.hid l3
              have R3 := Lib.hid r3
              clear hy hrd l3 r3 l4 r4
              have HAA : Hid (mayA l k = (oneF y && decide (0 ≤ y.f0) && decide (y.f0 < (k : Int)) && decide (depthF l (k : Int) ≤ 12) && upHas l ((k : Int) - 1) y.f0)) := Lib.hid (by rw [HY.out]; rfl)
              obtain ⟨b1, hb1⟩ : ∃ b, b = oneF y := ⟨_, rfl⟩
              have N1 := Lib.hid hb1
              rw [← hb1] at HAA
              clear hb1
              cases b1 with
              | false =>
                have HR := Lib.hid (mayF_a hk1 hlt (by rw [HAA.out]; rfl))
                go_wp2_with (go_at_call 64; refine (rone_calls y A3 A4 c3 c4 _ R3.out L3.out HYM.out.2.1 HYM.out.2.2 HYM.out.1).mono ?_; rintro e w3 ⟨rfl, hb3⟩; rw [← N1.out]; have HB3 := Lib.hid (HB.out.trans (hb3.mono HB.out.size)); clear hb3)
                go_ret
                exact ⟨by rw [HR.out]; rfl, HB3.out⟩
              | true =>
                by_cases p1 : y.f0 < 0
                · have HR := Lib.hid (mayF_a hk1 hlt (by rw [HAA.out, decide_eq_false (p := 0 ≤ y.f0) (by omega)]; rfl))
                  go_wp2_with (go_at_call 64; refine (rone_calls y A3 A4 c3 c4 _ R3.out L3.out HYM.out.2.1 HYM.out.2.2 HYM.out.1).mono ?_; rintro e w3 ⟨rfl, hb3⟩; rw [← N1.out]; have HB3 := Lib.hid (HB.out.trans (hb3.mono HB.out.size)); clear hb3)
                  go_ret
                  exact ⟨by rw [HR.out]; rfl, HB3.out⟩
                by_cases p2 : (k : Int) ≤ y.f0
                · have HR := Lib.hid (mayF_a hk1 hlt (by rw [HAA.out, decide_eq_false (p := y.f0 < (k : Int)) (by omega), Bool.and_false, Bool.false_and, Bool.false_and]))
                  go_wp2_with (go_at_call 64; refine (rone_calls y A3 A4 c3 c4 _ R3.out L3.out HYM.out.2.1 HYM.out.2.2 HYM.out.1).mono ?_; rintro e w3 ⟨rfl, hb3⟩; rw [← N1.out]; have HB3 := Lib.hid (HB.out.trans (hb3.mono HB.out.size)); clear hb3)
                  go_ret
                  exact ⟨by rw [HR.out]; rfl, HB3.out⟩
                have HPA := Lib.hid (show ∀ j : Nat, j < k → -1 ≤ (ndAt l j).f0 ∧ (ndAt l j).f0 < (j : Int) from fun j hj => by
                  by_cases h0 : j = 0
                  · subst h0; rw [HP0.out]; omega
                  · have h := HI.out j (by omega) hj
                    unfold mayA at h
                    simp only [Bool.and_eq_true, decide_eq_true_iff] at h
                    omega)
                have HPB := Lib.hid (show ∀ j : Nat, j ≤ k → (ndAt l j).f0 < (j : Int) from fun j hj => by
                  by_cases h0 : j = k
                  · subst h0; rw [← HY.out]; omega
                  · exact (HPA.out j (by omega)).2)
                obtain ⟨dp, hdp⟩ : ∃ d, d = depthF l (k : Int) := ⟨_, rfl⟩
                have ND := Lib.hid hdp
                rw [← hdp] at HAA
                clear hdp
                by_cases p3 : 12 < dp
                · have HR := Lib.hid (mayF_a hk1 hlt (by rw [HAA.out, decide_eq_false (p := dp ≤ 12) (by omega), Bool.and_false, Bool.false_and]))
                  go_wp2_with (first
                    | (go_at_call 64; refine (rone_calls y A3 A4 c3 c4 _ R3.out L3.out HYM.out.2.1 HYM.out.2.2 HYM.out.1).mono ?_; rintro e w3 ⟨rfl, hb3⟩; rw [← N1.out]; have HB3 := Lib.hid (HB.out.trans (hb3.mono HB.out.size)); clear hb3)
                    | (go_at_call 65; refine (rdepth_calls (some ad) c l k _ (Kd.C_below HC.out HB3.out) hlt HPB.out (by omega)).mono ?_; rintro e w4 ⟨rfl, rfl⟩; rw [← ND.out]))
                  go_ret
                  exact ⟨by rw [HR.out]; rfl, HB3.out⟩
                obtain ⟨bu, hbu⟩ : ∃ b, b = upHas l ((k : Int) - 1) y.f0 := ⟨_, rfl⟩
                have NU := Lib.hid hbu
                rw [← hbu] at HAA
                have HAB : Hid (mayA l k = bu) := Lib.hid (by rw [HAA.out, decide_eq_true (p := 0 ≤ y.f0) (by omega), decide_eq_true (p := y.f0 < (k : Int)) (by omega), decide_eq_true (p := dp ≤ 12) (by omega)]; simp)
                clear hbu HAA
                go_wp2_with (first
                  | (go_at_call 64; refine (rone_calls y A3 A4 c3 c4 _ R3.out L3.out HYM.out.2.1 HYM.out.2.2 HYM.out.1).mono ?_; rintro e w3 ⟨rfl, hb3⟩; rw [← N1.out]; have HB3 := Lib.hid (HB.out.trans (hb3.mono HB.out.size)); clear hb3)
                  | (go_at_call 65; refine (rdepth_calls (some ad) c l k _ (Kd.C_below HC.out HB3.out) hlt HPB.out (by omega)).mono ?_; rintro e w4 ⟨rfl, rfl⟩; rw [← ND.out]))
                clear q0 q1 q2 q3 q4
                go_loop [5, 6] (fun b t => ∃ (bb : Bool) (j : Int), b = .bool bb ∧ t = .int .i64 j ∧ -1 ≤ j ∧ j < (k : Int) ∧ Hid ((bb || upHas l j y.f0) = bu)) (fun _ t => (intOf t + 1).toNat)
                case atStart => exact ⟨false, (k : Int) - 1, rfl, rfl, by omega, by omega, Lib.hid (by rw [NU.out]; rfl)⟩
                case round =>
                  obtain ⟨bb, j, rfl, rfl, hj1, hj2, HJ⟩ := hrel
                  by_cases hj : 0 ≤ j
                  · obtain ⟨m, rfl⟩ := Int.eq_ofNat_of_zero_le hj
                    obtain ⟨ad', A3, c3, A4, c4, hA, q0, q1, q2, q3, q4, l3, r3, l4, r4⟩ := at_T49 (Kd.C_below HC.out HB3.out) (m : Int) (by omega) (by omega)
                    injection hA with hA
                    subst hA
                    have hrd : rd_T49 l (m : Int) = ndAt l m := by unfold rd_T49 ndAt; rw [Int.toNat_natCast]
                    rw [hrd] at q0
                    simp only [Int.toNat_natCast] at q0
                    clear q1 q2 q3 q4 l3 r3 l4 r4 hrd
                    have hm := HPA.out m (by omega)
                    have HS := Lib.hid (upHas_step (l := l) (a := m) (p := y.f0) (by omega) (fun j hj => HPB.out j (by omega)))
                    obtain ⟨p, hpp⟩ : ∃ p, p = (ndAt l m).f0 := ⟨_, rfl⟩
                    rw [← hpp] at q0 hm HS
                    clear hpp
                    cases bb with
                    | true =>
                      go_wp2_with fail
                      go_round
                      case rel => exact ⟨true, p, rfl, rfl, by omega, by omega, Lib.hid (by rw [← HJ.out]; rfl)⟩
                      case measure => simp [intOf]; omega
                    | false =>
                      go_wp2_with fail
                      go_round
                      case rel => exact ⟨decide ((m : Int) = y.f0), p, by congr 1, rfl, by omega, by omega, Lib.hid (by rw [← HJ.out, HS.out]; rfl)⟩
                      case measure => simp [intOf]; omega
                  · have HZ := Lib.hid (show bb = bu by rw [← HJ.out, upHas_stop (by omega), Bool.or_false])
                    cases bb with
                    | false =>
                      have HR := Lib.hid (mayF_a hk1 hlt (by rw [HAB.out, ← HZ.out]))
                      go_wp2_with fail
                      go_ret
                      exact ⟨by rw [HR.out]; rfl, HB3.out⟩
                    | true =>
                      go_wp2_with fail
                      go_roundw
                      case rel => exact ⟨k + 1, by omega, by omega, by go_num, Lib.hid (fun j h1 h2 => by
                        by_cases hjk : j < k
                        · exact HI.out j h1 hjk
                        · have : j = k := by omega
                          subst this
                          rw [HAB.out, ← HZ.out]), HB3⟩
                      case measure => simp [intOf]; omega
            · have HAL := Lib.hid (show ∀ i, 1 ≤ i → i < l.length → mayA l i = true from fun i h1 h2 => HI.out i h1 (by omega))
              skip
              go_wp2_with fail
              have HB0 := HB
              clear hk1 hk hlt HB HI
              go_loopw [7] (fun t wr => ∃ i : Nat, i ≤ l.length ∧ t = .int .i64 i ∧ Hid (∀ j, j < i → mayB l j = true) ∧ Hid (Below w.heap.size w wr)) (fun t wr => l.length - (intOf t).toNat)
              case atStart => exact ⟨0, Nat.zero_le _, rfl, Lib.hid (fun j hj => absurd hj (Nat.not_lt_zero _)), HB0⟩
              case round =>
                clear HB0
                obtain ⟨i, hi, rfl, HJ, HB⟩ := hrel
                by_cases hli : i < l.length
                · go_wp2_with ((with_reducible refine gate_dst (N := 103) rfl ?_); refine Kd.R_lit (Kd.int .i64) _ 3 ?hg (N := 103) ?hd (xs := ([] : List Int)) (inner := []) (ok := fun _ => True) (okp := fun _ => True) ?hr ?hp (fun _ hk => hk) trivial (Below.refl _ _) (Nat.le_refl _) (by simp) ?_; (case hd => rfl); (case hg => rfl); (case hr => first | (go_simp; done) | (go_simp; rfl)); (case hp => exact (Reps.none _ _)); intro v2 w2 ho3 hb hg_ hnew_; clear hg_ hnew_; have HO2 := Lib.hid (Kd.R_lower ho3 HB.out.size); have HB2 := Lib.hid (HB.out.trans (hb.mono HB.out.size)); clear ho3 hb)
                  clear HB
                  go_loopw [8, 9] (fun v t wr => ∃ j : Nat, i + 1 ≤ j ∧ j ≤ l.length ∧ t = .int .i64 j ∧ Hid (Kd.R (Kd.int .i64) 3 wr w.heap.size (fun _ => True) v (kidsTo l i j)) ∧ Hid (Below w.heap.size w wr)) (fun _ t _ => l.length - (intOf t).toNat)
                  case atStart => exact ⟨i + 1, Nat.le_refl _, by omega, by go_num, Lib.hid (by rw [kidsTo_start]; exact HO2.out), HB2⟩
                  case round =>
                    clear HO2 HB2
                    obtain ⟨j, hj1, hj2, rfl, HO, HB⟩ := hrel
                    by_cases hlj : j < l.length
                    · obtain ⟨ad', A3, c3, A4, c4, hA, q0, q1, q2, q3, q4, l3, r3, l4, r4⟩ := at_T49 (Kd.C_below HC.out HB.out) (j : Int) (by omega) (by omega)
                      injection hA with hA
                      subst hA
                      have hrd : rd_T49 l (j : Int) = ndAt l j := by unfold rd_T49 ndAt; rw [Int.toNat_natCast]
                      rw [hrd] at q0
                      simp only [Int.toNat_natCast] at q0
                      clear q1 q2 q3 q4 l3 r3 l4 r4 hrd
                      have HS := Lib.hid (kidsTo_succ l i j)
                      have HLN := Lib.hid (kidsTo_len l i j)
                      obtain ⟨p, hpp⟩ : ∃ p, p = (ndAt l j).f0 := ⟨_, rfl⟩
                      rw [← hpp] at q0
                      have HK : Hid (isKid l i j = decide (p = (i : Int))) := Lib.hid (by unfold isKid; rw [← hpp, decide_eq_true (by omega), Bool.true_and])
                      clear hpp
                      by_cases he : p = (i : Int)
                      · have ve : (p == (i : Int)) = true := by rw [beq_iff_eq]; exact he
                        have HS2 := Lib.hid (show kidsTo l i (j + 1) = kidsTo l i j ++ [(j : Int)] by rw [HS.out, if_pos (by rw [HK.out, decide_eq_true he])])
                        clear he
                        go_wp2_with ((with_reducible refine gate_builtin (b := .append) (xs := #[.tmp 119, .tmp 121]) rfl ?_); at_builtin; refine Kd.R_append (Kd.int .i64) (w0 := w) w.heap.size rfl (.tmp 119) (.tmp 121) 47 3 (.int .i64 0) 8 rfl Tryz.underlying47 info3 rfl (by decide) (by omega) u8 (kidsTo l i j) (j : Int) [.int .i64 (j : Int)] (fun _ => True) (fun _ => False) rfl rfl ?aP (fun _ hk => hk.elim) ?aF ?aO ?aB ?aS ?aL ?_; (case aP => exact rfl); (case aB => exact HB.out); (case aF => exact (fun _ _ => trivial)); (case aO => exact HO.out); (case aS => exact (below_size HB.out)); (case aL => have := HLN.out; omega); intro v3 w3 ho hb hg hat; rw [← HS2.out] at ho; have HO3 := Lib.hid ho; have HB3 := Lib.hid hb; clear ho hb hg hat)
                        go_roundw
                        case rel => exact ⟨j + 1, by omega, by omega, by go_num, HO3, HB3⟩
                        case measure => simp [intOf]; omega
                      · have ve : (p == (i : Int)) = false := by rw [beq_eq_false_iff_ne]; exact he
                        have HS2 := Lib.hid (show kidsTo l i (j + 1) = kidsTo l i j by rw [HS.out, if_neg (by rw [HK.out, decide_eq_false he]; decide), List.append_nil])
                        clear he
                        go_wp2_with fail
                        go_roundw
                        case rel => exact ⟨j + 1, by omega, by omega, by go_num, Lib.hid (by rw [HS2.out]; exact HO.out), HB⟩
                        case measure => simp [intOf]; omega
                    · have hjl : j = l.length := by omega
                      subst hjl
                      clear hj1 hj2 hlj
                      obtain ⟨ks, hks⟩ : ∃ ks, ks = kidsF l i := ⟨_, rfl⟩
                      have hO : Kd.R (Kd.int .i64) 3 wr w.heap.size (fun _ => True) u8 ks := by rw [hks]; exact HO.out
                      have HKS := Lib.hid hks
                      have HKL := Lib.hid (show ks.length ≤ 60 by rw [hks]; have := kidsTo_len l i l.length; unfold kidsF; omega)
                      clear hks HO
                      obtain ⟨Ak, ck, rfl, hck, hCk⟩ := Kd.R_reads hO
                      have HCK := Lib.hid hCk
                      obtain ⟨ad', A3, c3, A4, c4, hA, q0, q1, q2, q3, q4, l3, r3, l4, r4⟩ := at_T49 (Kd.C_below HC.out HB.out) (i : Int) (by omega) (by omega)
                      injection hA with hA
                      subst hA
                      have hrd : rd_T49 l (i : Int) = ndAt l i := by unfold rd_T49 ndAt; rw [Int.toNat_natCast]
                      rw [hrd] at q4
                      simp only [Int.toNat_natCast] at q4
                      obtain ⟨x4, hx4⟩ : ∃ x4, x4 = (ndAt l i).f4 := ⟨_, rfl⟩
                      rw [← hx4] at q4
                      have HX4 := Lib.hid hx4
                      clear q0 q1 q2 q3 l3 r3 l4 r4 hrd hO hck hCk hx4
                      by_cases hlen : ks.length = x4.length
                      · have ve : ((ks.length : Int) == (x4.length : Int)) = true := by rw [beq_iff_eq]; omega
                        have ve' : ((ks.length : Int) != (x4.length : Int)) = false := by rw [bne_eq_false_iff_eq]; omega
                        have HLE := Lib.hid hlen
                        have HBB := HB
                        clear hlen HB
                        go_wp2_with fail
                        clear ve ve' q4
                        go_loopw [10] (fun t wr => ∃ m : Nat, m ≤ ks.length ∧ t = .int .i64 m ∧ Hid (∀ q : Nat, q < m → rd ks (q : Int) = rd x4 (q : Int) ∧ adjT l ks q = false) ∧ Hid ((Kd.int .i64).C wr Ak ks.length ks) ∧ Hid (Below w.heap.size w wr)) (fun t _ => ks.length - (intOf t).toNat)
                        case atStart => exact ⟨0, Nat.zero_le _, rfl, Lib.hid (fun q hq => absurd hq (Nat.not_lt_zero _)), HCK, HBB⟩
                        case round =>
                          clear HCK HBB
                          obtain ⟨m, hm, rfl, HQ, HCK, HB⟩ := hrel
                          have hk60 : ks.length ≤ 60 := HKL.out
                          by_cases hmk : m < ks.length
                          · obtain ⟨adk, rfl, hka⟩ := Kd.at_int HCK.out (m : Int) (by omega) (by omega)
                            obtain ⟨ad', A3, c3, A4, c4, hA, q0, q1, q2, q3, q4, l3, r3, l4, r4⟩ := at_T49 (Kd.C_below HC.out HB.out) (i : Int) (by omega) (by omega)
                            injection hA with hA
                            subst hA
                            have hrd : rd_T49 l (i : Int) = ndAt l i := by unfold rd_T49 ndAt; rw [Int.toNat_natCast]
                            rw [hrd, ← HX4.out] at q4 r4
                            simp only [Int.toNat_natCast] at q4 hka
                            have hl4 : x4.length = ks.length := HLE.out.symm
                            obtain ⟨ad4, rfl, h4a⟩ := Kd.at_int r4 (m : Int) (by omega) (by omega)
                            simp only [Int.toNat_natCast] at h4a
                            clear q0 q1 q2 q3 l3 r3 l4 r4 hrd
                            obtain ⟨k1, hk1, hk1l⟩ := kids_rd (l := l) (i := i) (k := m) (by rw [← HKS.out]; exact hmk)
                            rw [← HKS.out] at hk1
                            rw [hk1] at hka
                            have HK1 := Lib.hid hk1
                            obtain ⟨b4, hb4⟩ : ∃ b4, b4 = rd x4 (m : Int) := ⟨_, rfl⟩
                            rw [← hb4] at h4a
                            have HB4 := Lib.hid hb4
                            clear hk1 hb4
                            have i4 : (m : Int) < (x4.length : Int) := by omega
                            have i5 : (m : Int) < (ks.length : Int) := by omega
                            have i6 : (0 : Int) ≤ (m : Int) := by omega
                            clear hl4
                            by_cases he : (k1 : Int) = b4
                            · have ve : ((k1 : Int) == b4) = true := by rw [beq_iff_eq]; exact he
                              have ve' : ((k1 : Int) != b4) = false := by rw [bne_eq_false_iff_eq]; exact he
                              have HEQ := Lib.hid (show rd ks (m : Int) = rd x4 (m : Int) by rw [HK1.out, ← HB4.out]; exact he)
                              clear he
                              by_cases h0 : m = 0
                              · have v0 : ¬ (0 : Int) < (m : Int) := by omega
                                have v0' : decide ((0 : Int) < (m : Int)) = false := decide_eq_false v0
                                have v0n : decide (0 < m) = false := decide_eq_false (by omega)
                                have HAD := Lib.hid (show adjT l ks m = false by unfold adjT; rw [decide_eq_false (by omega)]; rfl)
                                clear h0
                                go_wp2_with fail
                                go_quiet (fail)
                                go_wp2_with fail
                                go_roundw
                                case rel => exact ⟨m + 1, by omega, by go_num, Lib.hid (fun q hq => by
                                  by_cases hqm : q < m
                                  · exact HQ.out q hqm
                                  · have : q = m := by omega
                                    subst this
                                    exact ⟨HEQ.out, HAD.out⟩), Lib.hid (Kd.C_below HCK.out (pw_below_drewN (Below.refl _ _) _)), Lib.hid (pw_below_drewN HB.out _)⟩
                                case measure => simp [intOf]; omega
                              · have v0 : (0 : Int) < (m : Int) := by omega
                                have v0' : decide ((0 : Int) < (m : Int)) = true := decide_eq_true v0
                                have v0n : decide (0 < m) = true := decide_eq_true (by omega)
                                have v0'' : (1 : Int) ≤ (m : Int) := by omega
                                obtain ⟨ad', A3, c3, A4, c4, hA, p0, p1, p2, p3, p4, l3, r3, l4, r4⟩ := at_T49 (Kd.C_below HC.out HB.out) (k1 : Int) (by omega) (by omega)
                                injection hA with hA
                                subst hA
                                have hrd : rd_T49 l (k1 : Int) = ndAt l k1 := by unfold rd_T49 ndAt; rw [Int.toNat_natCast]
                                rw [hrd] at p1
                                simp only [Int.toNat_natCast] at p1
                                obtain ⟨t1, ht1⟩ : ∃ t1, t1 = (ndAt l k1).f1 := ⟨_, rfl⟩
                                rw [← ht1] at p1
                                have HT1 := Lib.hid (show tagE l (rd ks (m : Int)) = decide (t1.toList = []) by unfold tagE; rw [HK1.out, Int.toNat_natCast, ht1])
                                clear p0 p2 p3 p4 l3 r3 l4 r4 hrd ht1
                                have z1 : (k1 : Int) < (l.length : Int) := by omega
                                have z2 : (0 : Int) ≤ (k1 : Int) := by omega
                                by_cases hte : t1.toList = []
                                · have vt := emp_t hte
                                  have HTE := Lib.hid hte
                                  clear hte
                                  obtain ⟨adk', hA, hkb⟩ := Kd.at_int HCK.out ((m : Int) - 1) (by omega) (by omega)
                                  injection hA with hA
                                  subst hA
                                  obtain ⟨k2, hk2, hk2l⟩ := kids_rd (l := l) (i := i) (k := m - 1) (by rw [← HKS.out]; omega)
                                  rw [← HKS.out, show ((m - 1 : Nat) : Int) = (m : Int) - 1 by omega] at hk2
                                  rw [hk2, show ((m : Int) - 1).toNat = m - 1 by omega] at hkb
                                  have HK2 := Lib.hid hk2
                                  clear hk2
                                  obtain ⟨ad', A3, c3, A4, c4, hA, p0, p1', p2, p3, p4, l3, r3, l4, r4⟩ := at_T49 (Kd.C_below HC.out HB.out) (k2 : Int) (by omega) (by omega)
                                  injection hA with hA
                                  subst hA
                                  have hrd : rd_T49 l (k2 : Int) = ndAt l k2 := by unfold rd_T49 ndAt; rw [Int.toNat_natCast]
                                  rw [hrd] at p1'
                                  simp only [Int.toNat_natCast] at p1'
                                  obtain ⟨t2, ht2⟩ : ∃ t2, t2 = (ndAt l k2).f1 := ⟨_, rfl⟩
                                  rw [← ht2] at p1'
                                  have HT2 := Lib.hid (show tagE l (rd ks ((m : Int) - 1)) = decide (t2.toList = []) by unfold tagE; rw [HK2.out, Int.toNat_natCast, ht2])
                                  clear p0 p2 p3 p4 l3 r3 l4 r4 hrd ht2
                                  have z3 : (k2 : Int) < (l.length : Int) := by omega
                                  have z4 : (0 : Int) ≤ (k2 : Int) := by omega
                                  have hwr : IntKind.i64.wrap ((m : Int) - 1) = (m : Int) - 1 := i64_in _ (by omega)
                                  have htn : ((m : Int) - 1).toNat = m - 1 := by omega
                                  have i7 : (m : Int) - 1 < (ks.length : Int) := by omega
                                  by_cases hte2 : t2.toList = []
                                  · have vt2 := emp_t hte2
                                    have HR := Lib.hid (mayF_b hli (mayB_adj (k := m) (by rw [← HKS.out]; exact hmk) (by rw [← HKS.out]; unfold adjT; rw [HT1.out, HT2.out, decide_eq_true HTE.out, decide_eq_true hte2, decide_eq_true (by omega)]; rfl)))
                                    clear hte2
                                    go_wp2_with fail
                                    go_quiet (fail)
                                    go_wp2_with fail
                                    go_ret
                                    exact ⟨by rw [HR.out]; rfl, pw_below_drewN HB.out _⟩
                                  · have vt2 := emp_f hte2
                                    have HAD := Lib.hid (show adjT l ks m = false by unfold adjT; rw [HT2.out, decide_eq_false hte2, Bool.and_false])
                                    clear hte2
                                    go_wp2_with fail
                                    go_quiet (fail)
                                    clear hwr htn
                                    go_wp2_with fail
                                    go_roundw
                                    case rel => exact ⟨m + 1, by omega, by go_num, Lib.hid (fun q hq => by
                                      by_cases hqm : q < m
                                      · exact HQ.out q hqm
                                      · have : q = m := by omega
                                        subst this
                                        exact ⟨HEQ.out, HAD.out⟩), Lib.hid (Kd.C_below HCK.out (pw_below_drewN (Below.refl _ _) _)), Lib.hid (pw_below_drewN HB.out _)⟩
                                    case measure => simp [intOf]; omega
                                · have vt := emp_f hte
                                  have HAD := Lib.hid (show adjT l ks m = false by unfold adjT; rw [HT1.out, decide_eq_false hte, Bool.and_false, Bool.false_and])
                                  clear hte
                                  go_wp2_with fail
                                  go_quiet (fail)
                                  go_wp2_with fail
                                  go_roundw
                                  case rel => exact ⟨m + 1, by omega, by go_num, Lib.hid (fun q hq => by
                                    by_cases hqm : q < m
                                    · exact HQ.out q hqm
                                    · have : q = m := by omega
                                      subst this
                                      exact ⟨HEQ.out, HAD.out⟩), Lib.hid (Kd.C_below HCK.out (pw_below_drewN (Below.refl _ _) _)), Lib.hid (pw_below_drewN HB.out _)⟩
                                  case measure => simp [intOf]; omega
                            · have ve : ((k1 : Int) == b4) = false := by rw [beq_eq_false_iff_ne]; exact he
                              have ve' : ((k1 : Int) != b4) = true := by rw [bne_iff_ne]; exact he
                              have HR := Lib.hid (mayF_b hli (mayB_ne (k := (m : Int)) (by rw [← HKS.out, ← HX4.out, HK1.out, ← HB4.out]; exact he)))
                              clear he
                              go_wp2_with fail
                              go_quiet (fail)
                              go_wp2_with fail
                              go_ret
                              exact ⟨by rw [HR.out]; rfl, pw_below_drewN HB.out _⟩
                          · have HBI := Lib.hid (show mayB l i = true from mayB_t (by rw [← HKS.out, ← HX4.out]; exact HLE.out) (fun q hq => by rw [← HKS.out, ← HX4.out]; exact HQ.out q (by rw [← HKS.out] at hq; omega)))
                            go_wp2_with fail
                            go_roundw
                            case rel => exact ⟨i + 1, by omega, by go_num, Lib.hid (fun j hj => by
                              by_cases hji : j < i
                              · exact HJ.out j hji
                              · have : j = i := by omega
                                subst this
                                exact HBI.out), HB⟩
                            case measure => simp [intOf]; omega
                      · have ve : ((ks.length : Int) == (x4.length : Int)) = false := by rw [beq_eq_false_iff_ne]; omega
                        have ve' : ((ks.length : Int) != (x4.length : Int)) = true := by rw [bne_iff_ne]; omega
                        have HR := Lib.hid (mayF_b hli (mayB_len (by rw [← HKS.out, ← HX4.out]; exact hlen)))
                        clear hlen
                        go_wp2_with fail
                        go_ret
                        exact ⟨by rw [HR.out]; rfl, HB.out⟩
                · have HR := Lib.hid (mayF_t HH.out HAL.out (fun j hj => HJ.out j (by omega)))
                  go_wp2_with fail
                  go_ret
                  exact ⟨by rw [HR.out]; rfl, HB.out⟩
        · have v6 : (0 : Int) < (x.f3.length : Int) := by omega
          have HR := Lib.hid (mayF_h (l := l) (by rw [HM.out, decide_eq_false e6, Bool.and_false]))
          clear e6
          go_enter Tryz.func27, Tryz.ntmps27
          go_wp2_with fail
          go_ret
          exact ⟨by rw [HR.out]; rfl, Below.refl _ _⟩
      · have v5 := emp_f e5
        have HR := Lib.hid (mayF_h (l := l) (by rw [HM.out, decide_eq_false e5, Bool.and_false, Bool.false_and]))
        clear e5
        go_enter Tryz.func27, Tryz.ntmps27
        go_wp2_with fail
        go_ret
        exact ⟨by rw [HR.out]; rfl, Below.refl _ _⟩
    · have v4 : (x.f0 == -1) = false := by rw [beq_eq_false_iff_ne]; exact e4
      have v4' : (x.f0 != -1) = true := by rw [bne_iff_ne]; exact e4
      have v4'' : ¬ x.f0 = -1 := e4
      have HR := Lib.hid (mayF_h (l := l) (by rw [HM.out, decide_eq_false e4, Bool.and_false, Bool.false_and, Bool.false_and]))
      clear e4
      go_enter Tryz.func27, Tryz.ntmps27
      go_wp2_with fail
      go_ret
      exact ⟨by rw [HR.out]; rfl, Below.refl _ _⟩
  · have v3 : (x.f1.toList == [114, 111, 111, 116]) = false := by rw [beq_eq_false_iff_ne]; exact e3
    have HR := Lib.hid (mayF_h (l := l) (by rw [HM.out, decide_eq_false e3, Bool.and_false, Bool.false_and, Bool.false_and, Bool.false_and]))
    clear e3
    go_enter Tryz.func27, Tryz.ntmps27
    go_wp2_with fail
    go_ret
    exact ⟨by rw [HR.out]; rfl, Below.refl _ _⟩
end Go.Proofs.YtkjgnkmnngaioaaGreat.Q
namespace Go.Proofs.YtkjgnkmnngaioaaGreat.Mix
variable {P : Program}
theorem rowsIn_wide {n : Nat} {row : String} {args : Array Value} {w : World} {R : Value → World → Prop} (h : Rows P row args w R) : RowsIn Fence.wide n P row args w R :=
  fun c cs _ => let ⟨v, w', r, s⟩ := h c cs; ⟨v, w', r, stepsIn_wide.2 s⟩
theorem op_in (r n : Nat) {o : Oper} {a : Act} {w : World} {K : Act → World → Prop} {Q : Exit → Act → World → Prop} (hd : ∀ c, o.op ≠ .defer c) (h : Oper.wp P o a w K Q) : Oper.wpIn (Fence.wide.inRound r) n P o a w K Q := by
  refine ⟨fun _ _ => trivial, ?_⟩
  show o.uponIn (Fence.wide.inRound r) n P a K Q ((o.semAt (some r) a.eval).run P w)
  rw [Oper.semAt_some r _ _ hd]
  unfold Oper.wp at h
  generalize (execOp a.eval o).run P w = x at *
  cases x with
  | ok y w' =>
    cases y with
    | enter f args => exact ⟨fun e => (by cases e), CallsIn.inRound r (callsIn_wide.2 h)⟩
    | row q args => exact ⟨fun e => (by cases e), fun c cs hroom => rowsIn_wide h c cs hroom⟩
    | _ => first | exact h | exact h.elim
  | halt y w' => cases y <;> exact h
def noDefer (ops : List Oper) : Bool := ops.all fun o => match o.op with | .defer _ => false | _ => true
theorem noDefer_spec {ops : List Oper} (h : noDefer ops = true) {i : Nat} {o : Oper} (ho : ops.toArray[i]? = some o) : ∀ c, o.op ≠ .defer c := fun c e => by
  unfold noDefer at h
  rw [List.all_eq_true] at h
  have := h o (List.mem_of_getElem? (by simpa using ho))
  rw [e] at this
  cases this
theorem any_in (r n : Nat) {md : Region.Mode} {l : List Oper} {Q : Exit → Act → World → Prop} (hd : noDefer l = true) (hl : ¬ LetsOut Q) : ∀ (fuel : Nat) (L : Array Bool) (a : Act) (w : World), wpAny P md l.toArray Q fuel L a w → wpAnyIn (Fence.wide.inRound r) n P md l.toArray Q fuel L a w
  | 0, _, _, _, h => h
  | fuel + 1, L, a, w, h => by
    refine ⟨h.1, fun i hi => ?_⟩
    have h1 := h.2 i hi
    unfold wpOp at h1
    unfold wpOpIn
    split
    · rename_i ho; rw [ho] at h1; exact any_in r n hd hl fuel _ _ _ h1
    · rename_i o ho
      rw [ho] at h1
      dsimp only at h1
      split
      · rename_i hw
        rw [if_pos hw] at h1
        exact op_in r n (noDefer_spec hd ho) (Oper.wp_mono (fun a w hk => any_in r n hd hl fuel _ a w hk) (h1.resolve_right (fun h => hl h.2)))
      · rename_i hw
        rw [if_neg hw] at h1
        exact ⟨fun _ _ => trivial, any_in r n hd hl fuel _ _ _ h1⟩
/-- Where it goes on, and nothing else. -/
def onlyN (K : Act → World → Prop) : Exit → Act → World → Prop
  | .normal, a, w => K a w
  | _, _, _ => False
theorem wpIn_region_mix (r n : Nat) {id : Nat} {Q : Exit → Act → World → Prop} {a : Act} {w : World} {l : List Oper} (C : Nat → World → Prop) (fl : List Nat) (hm : P.follows .mixedOrders = true) (hd : noDefer l = true)
    (hB : (Region.lexB .any l.toArray && inOrder .any l.toArray fl.contains) = true) (hC : C 0 w.drew)
    (h : wpMix P l.toArray C fl.contains (fun k => (lo .any l.toArray fl.contains k, up .any l.toArray fl.contains k)) (fun i a' => ∀ w', C i w' → Q .normal a' w') l 0 0 a) : (Code.region id l.toArray true).wpIn (Fence.wide.inRound r) n P Q a w :=
  wpIn_mono (wpIn_region_any (Q := onlyN (Q .normal)) hm (any_in r n hd (fun ⟨_, _, h⟩ => h) _ _ _ _ (any_mix C fl hB hC h))) (fun e a w hq => by cases e <;> first | exact hq | exact hq.elim)
end Go.Proofs.YtkjgnkmnngaioaaGreat.Mix
namespace Go.Proofs.YtkjgnkmnngaioaaGreat.Q
open Go.RowKit Go.Shelf Go.IntWalk Go.Proofs.YtkjgnkmnngaioaaGreat.Mem Go.Proofs.YtkjgnkmnngaioaaGreatW.PrintWords Go.Proofs.YtkjgnkmnngaioaaGreatW.PrintLast Go.Proofs.YtkjgnkmnngaioaaGreatW.PrintMore
set_option linter.unusedVariables false
set_option linter.unusedSimpArgs false
attribute [local go_sem] Oper.semAt_some
def hit (l : List Nd) (s : ByteArray) (i : Nat) : Bool := decide (0 < i) && decide ((ndAt l i).f1.toList = s.toList)
/-- The place when an element has ended. -/
def endA (l : List Nd) (a : Int) (s : ByteArray) : Int := match (upL l (l.length + 1) a).find? (fun x => hit l s x.1) with
  | some x => (ndAt l x.1).f0
  | none => a
structure EndS (b B0 H : Nat) (s : ByteArray) (v : Value) (l : List Nd) (a : Int) (w W : World) : Prop where
  box : Blk W b #[v, .int .i64 a] 92
  rows : Kd.S k49 49 W B0 (fun k => k ≠ b ∧ k < H) v l
  pb : Blk W H #[.pointer (some ⟨b, 0, none⟩)] 90
  nb : Blk W (H + 1) #[.string s] 9
  below : Below B0 w W
  kept : KpT w W
theorem EndS.of_row {b B0 H B : Nat} {s : ByteArray} {v : Value} {l : List Nd} {a : Int} {w W W' : World} {row : Option Nat} (h : EndS b B0 H s v l a w W) (hw : B0 ≤ w.heap.size) (hB : B0 ≤ B) (hg : W.grownBy W' row)
    (hr : ∀ r, row = some r → B ≤ r ∧ ∃ o : Obj, W.heap[r]? = some o ∧ o.isCells = false) : EndS b B0 H s v l a w W' := by
  refine ⟨kept_row h.box hg hr, Kd.S_mono (Kd.S_move (Kd.S_bound h.rows) (fun k hk => hg.block k hk.2.2.1 (fun e => ?_))) (fun _ hk => hk.1), kept_row h.pb hg hr, kept_row h.nb hg hr, below_row h.below hw hB hg hr, fun k cs T h1 h2 h3 hb => kept_row (h.kept k cs T h1 h2 h3 hb) hg hr⟩
  obtain ⟨-, o, ho, hc⟩ := hr k e.symm
  obtain ⟨-, -, -, q, -, cells, hq⟩ := hk
  rw [hq] at ho
  cases ho
  cases hc
theorem EndS.next {b B0 H : Nat} {s : ByteArray} {v : Value} {l : List Nd} {a : Int} {w W W' : World} (h : EndS b B0 H s v l a w W) (hw : B0 ≤ w.heap.size) (hb : Below W.heap.size W W') : EndS b B0 H s v l a w W' :=
  ⟨h.box.below hb h.box.lt, Kd.S_below h.rows hb, h.pb.below hb h.pb.lt, h.nb.below hb h.nb.lt, h.below.trans (hb.mono (Nat.le_trans hw h.below.size)), h.kept.trans (KpT.of_below hb)⟩
theorem EndS.setBox {b B0 H Bx : Nat} {s : ByteArray} {v u : Value} {l : List Nd} {a : Int} {w W : World} (h : EndS b B0 H s v l a w W) (hx : H + 1 < Bx) (hbx : b < H) (hB : B0 ≤ Bx) (hT : KpT w (W.setCell ⟨Bx, 0, none⟩ u)) : EndS b B0 H s v l a w (W.setCell ⟨Bx, 0, none⟩ u) :=
  ⟨h.box.setCell_other _ (fun e => by have e2 : b = Bx := e; omega), Kd.S_far (p := ⟨Bx, 0, none⟩) h.rows (fun k hk e => by have e2 : k = Bx := e; have := hk.2; omega) _, h.pb.setCell_other _ (fun e => by have e2 : H = Bx := e; omega), h.nb.setCell_other _ (fun e => by have e2 : H + 1 = Bx := e; omega), h.below.setCell (p := ⟨Bx, 0, none⟩) hB _, hT⟩
def EndP (b B0 : Nat) (l : List Nd) (a : Int) (s : ByteArray) (w : World) (e : Ending) (w' : World) : Prop :=
  e = .returned (.tuple #[]) ∧ (∃ v', Bd b B0 (fun k => k ≠ b) v' l (endA l a s) w') ∧ Below B0 w w' ∧ KpT w w'
set_option maxRecDepth 100000 in
set_option maxHeartbeats 8000000 in
theorem end_el_calls (b B0 : Nat) (v : Value) (l : List Nd) (a : Int) (s : ByteArray) (w : World) (hB : Bd b B0 (fun k => k ≠ b) v l a w) (hok : okUp l) (hl : l.length ≤ 60) :
    Calls Tryz.prog 62 #[.pointer (some ⟨b, 0, none⟩), .string s] w (EndP b B0 l a s w) := by
  have HB := Lib.hid hB
  have HU := Lib.hid hok
  have HL := Lib.hid hl
  have HBL := Lib.hid hB.box.lt
  have HBB := Lib.hid (show B0 ≤ w.heap.size from Nat.le_trans hB.base (Nat.le_of_lt hB.box.lt))
  obtain ⟨A, c, rfl, hlc, hrd⟩ := Kd.S_reads hB.rows
  have HC := Lib.hid hrd
  clear hB hok hl hlc hrd
  refine (callsIn_wide (n := 5)).1 ?_
  refine callsIn_of_wp_marks Tryz.func62 rfl trivial ?_ rfl
  simp only [Tryz.ntmps62, List.size_toArray, List.length_cons, List.length_nil, Nat.reduceAdd, Nat.reduceSub, Array.replicate_succ, Array.replicate_zero, List.push_toArray, List.append_toArray, List.nil_append, List.cons_append]
  refine wpIn_wide.2 ?_
  have Y1 := Lib.hid (show EndS b B0 w.heap.size s (.slice A l.length c) l a w ((w.alloc (.cells #[.pointer (some ⟨b, 0, none⟩)] 90)).alloc (.cells #[.string s] 9)) from
    ⟨(HB.out.box.alloc_old _).alloc_old _, Kd.S_alloc (Kd.S_old HB.out.rows (below_alloc (Below.refl _ w) (.cells #[.pointer (some ⟨b, 0, none⟩)] 90))) _, (Blk.alloc _ _ _).alloc_old _, Blk.alloc_at _ _ _ (by simp), (below_alloc (below_alloc (Below.refl w.heap.size w) _) _).mono HBB.out, KpT.of_below (below_alloc (below_alloc (Below.refl w.heap.size w) _) _)⟩)
  have Y2 := Lib.hid (show Below w.heap.size w ((w.alloc (.cells #[.pointer (some ⟨b, 0, none⟩)] 90)).alloc (.cells #[.string s] 9)) from below_alloc (below_alloc (Below.refl w.heap.size w) _) _)
  have Y3 := Lib.hid (show ((w.alloc (.cells #[.pointer (some ⟨b, 0, none⟩)] 90)).alloc (.cells #[.string s] 9)).heap.size = w.heap.size + 2 by simp)
  go_upto_region 1 with (fail)
  generalize ((w.alloc (.cells #[.pointer (some ⟨b, 0, none⟩)] 90)).alloc (.cells #[.string s] 9)) = w1 at Y1 Y2 Y3 ⊢
  have b0 := Y1.out.box.cell 0
  have b1 := Y1.out.box.cell 1
  have p0 := Y1.out.pb.cell 0
  simp only [List.getElem?_toArray, List.getElem?_cons_zero, List.getElem?_cons_succ] at b0 b1 p0
  have Z1 := Lib.hid (Y1.out.next HBB.out (below_drew (Below.refl _ w1)))
  have Z3 := Lib.hid (show w1.drew.heap.size = w.heap.size + 2 from Y3.out)
  have Z2 := Lib.hid (below_drew Y2.out)
  obtain ⟨w2, hw2⟩ : ∃ y, y = w1.drew := ⟨_, rfl⟩
  rw [← hw2] at Z1 Z2 Z3
  have HW2 := Lib.hid hw2
  clear hw2 b0 b1 p0
  have b0 := Z1.out.box.cell 0
  have b1 := Z1.out.box.cell 1
  have p0 := Z1.out.pb.cell 0
  simp only [List.getElem?_toArray, List.getElem?_cons_zero, List.getElem?_cons_succ] at b0 b1 p0
  have X1 := Blk.alloc w2 #[.slice A l.length c] 38
  have X2 := Blk.alloc_at (w2.alloc (.cells #[.slice A l.length c] 38)) (b := w2.heap.size + 1) #[.int .i64 a] 3 (by simp)
  have V1 := Lib.hid (X1.alloc_old (.cells #[.int .i64 a] 3))
  have V2 := Lib.hid X2
  have VB := Lib.hid (show Below w2.heap.size w2 ((w2.alloc (.cells #[.slice A l.length c] 38)).alloc (.cells #[.int .i64 a] 3)) from below_alloc (below_alloc (Below.refl w2.heap.size w2) _) _)
  have VS := Lib.hid (show ((w2.alloc (.cells #[.slice A l.length c] 38)).alloc (.cells #[.int .i64 a] 3)).heap.size = w.heap.size + 4 by have := Z3.out; simp; omega)
  have VE := Lib.hid (Z1.out.next HBB.out VB.out)
  have VW := Lib.hid (Z2.out.trans (VB.out.mono Z2.out.size))
  obtain ⟨L, hL⟩ : ∃ L : List World, L = [w2, ((w2.alloc (.cells #[.slice A l.length c] 38)).alloc (.cells #[.int .i64 a] 3))] := ⟨_, rfl⟩
  have HL0 := Lib.hid (show L[0]? = some w2 from by rw [hL]; rfl)
  have HL1 := Lib.hid (show L[1]? = some ((w2.alloc (.cells #[.slice A l.length c] 38)).alloc (.cells #[.int .i64 a] 3)) from by rw [hL]; rfl)
  clear hL X1 X2
  have ne := Mix.CL.ne HL0.out
  have nx := Mix.CL.nx (p := 0) (q := 0) HL0.out (Nat.le_refl _)
  have q0 := Mix.CL.at0 HL0.out b0
  have q1 := Mix.CL.at0 HL0.out b1
  have q2 := Mix.CL.at0 HL0.out p0
  clear b0 b1 p0
  refine Mix.wp_region_mix (C := Mix.CL L) [8] (by kernel_rfl) (by kernel_rfl) (by rw [← HW2.out]; exact HL0.out) ?_
  iterate 1 (refine Mix.mix_in 0 0 (by decide) (by kernel_rfl) (fun K hK => ?_); go_simp; refine hK _ ?_; clear hK K)
  iterate 2 (refine Mix.mix_still (by decide) (fun K hK => ?_); go_simp; refine hK _ ?_; clear hK K)
  iterate 2 (refine Mix.mix_in 0 0 (by decide) (by kernel_rfl) (fun K hK => ?_); go_simp; refine hK _ ?_; clear hK K)
  iterate 2 (refine Mix.mix_still (by decide) (fun K hK => ?_); go_simp; refine hK _ ?_; clear hK K)
  iterate 1 (refine Mix.mix_in 0 0 (by decide) (by kernel_rfl) (fun K hK => ?_); go_simp; refine hK _ ?_; clear hK K)
  refine Mix.mix_turn (by decide) (fun K hK => ?_)
  go_simp
  refine ⟨.func (.func 113) #[] #[.pointer (some ⟨w2.heap.size + 1, 0, none⟩), .pointer (some ⟨w2.heap.size, 0, none⟩)], fun w_ hw_ => ?_, hK _ ?_⟩
  · have e_ := (Mix.CL.eq HL0.out hw_).symm
    subst e_
    exact (up_calls _ _ _ _ _).mono fun e_ w_ ⟨h1_, h2_⟩ => ⟨h1_, by rw [h2_]; exact HL1.out⟩
  clear hK K
  refine Mix.mix_nil ?_
  intro w_ hw_
  have e_ := (Mix.CL.eq HL1.out hw_).symm
  subst e_
  clear ne nx q0 q1 q2 hw_ HL0 HL1 Y1 Y2 Y3 Z1 Z2 HW2
  generalize ((w2.alloc (.cells #[.slice A l.length c] 38)).alloc (.cells #[.int .i64 a] 3)) = w3 at V1 V2 VB VS VE VW ⊢
  rename_i K hKK
  show K _ _
  refine hKK _ _ ?_
  clear hKK K
  have HZ := Z3
  refine (wpIn_wide (n := 5)).1 ?_
  refine wpIn_block ?_
  refine range_box (α := Fin l.length) rfl (by decide) (gf := 113) (lb := #[.pointer (some ⟨w2.heap.size + 1, 0, none⟩), .pointer (some ⟨w2.heap.size, 0, none⟩)]) rfl trivial (enters_of Tryz.func113 (by kernel_rfl) rfl)
    (show w2.heap.size + 1 < w3.heap.size by have := VS.out; have := Z3.out; omega)
    (up_box Fence.wide (5 - 1) trivial rfl (by decide) (w2.heap.size + 1) w2.heap.size A c l a w w3 HC.out HU.out VW.out V2.out V1.out (by omega) (by have := Z3.out; omega))
    (fun h k => ⟨h.1.trans k.1, fun b cs T hb h3 => k.2 b cs T hb (h.2 b cs T hb h3)⟩) (kpu_b (by have := VS.out; omega)) (fun _ => rfl)
    (fun pre W => (∀ y ∈ pre, hit l s y.1 = false) ∧ EndS b B0 w.heap.size s (.slice A l.length c) l a w W)
    (fun c_ pre W => c_ = .ret ∧ ∃ p0 x, pre = p0 ++ [x] ∧ (∀ y ∈ p0, hit l s y.1 = false) ∧ hit l s x.1 = true ∧ EndS b B0 w.heap.size s (.slice A l.length c) l (ndAt l x.1).f0 w W)
    (fun s_ X X' row hs hg hr => ⟨hs.1, hs.2.of_row HBB.out (by have := VS.out; have := HBB.out; omega) hg hr⟩)
    (fun c_ s_ X X' row hs hg hr => by
      obtain ⟨h1, p0, x, h2, h3, h4, h5⟩ := hs
      exact ⟨h1, p0, x, h2, h3, h4, h5.of_row HBB.out (by have := VS.out; have := HBB.out; omega) hg hr⟩)
    (fun s_ X u hs => ⟨hs.1, hs.2.setBox (by have := Z3.out; omega) HBL.out (by have := Z3.out; have := HBB.out; omega) (fun k cs T h1 h2 h3 hb => (hs.2.kept k cs T h1 h2 h3 hb).setCell_other _ (fun e => by have e2 : k = w2.heap.size + 1 := e; have := hb.lt; have := Z3.out; omega))⟩)
    ⟨(fun y hy => by cases hy), VE.out⟩
    (fun x => { tmps := #[.pointer (some ⟨b, 0, none⟩), .string s, .pointer (some ⟨w.heap.size, 0, none⟩), .pointer (some ⟨w.heap.size + 1, 0, none⟩), .int .i64 (x.1 : Int), .pointer (some ⟨b, 0, none⟩), .pointer (some ⟨b, 0, none⟩), .pointer (some ⟨b, 0, none⟩), .slice A l.length c, .pointer (some ⟨b, 0, none⟩), .pointer (some ⟨b, 0, none⟩), .pointer (some ⟨b, 1, none⟩), .int .i64 a, .func (.func 113) #[] #[.pointer (some ⟨w2.heap.size + 1, 0, none⟩), .pointer (some ⟨w2.heap.size, 0, none⟩)], .int .i64 (x.1 : Int), undef, undef, undef, undef, undef, undef, undef, undef, undef, undef, undef, undef, undef, undef, undef, undef, undef, undef, undef, undef, undef, undef, undef, undef, undef], defers := [] })
    ?assign ?body ?done ?stop
  case assign =>
    intro r x W K hK
    unfold encU
    rw [show (#[14].zip #[Value.int IntKind.i64 (x.1 : Int)]) = #[(14, Value.int IntKind.i64 (x.1 : Int))] from by simp]
    simp only [List.foldl_toArray, List.foldl_cons, List.foldl_nil, List.setIfInBounds_toArray, List.set_cons_succ, List.set_cons_zero]
    gi_wp2
    exact hK
  case body =>
    rintro r pre x W ⟨hno, hE⟩ hlt
    have hx := x.2
    obtain ⟨g, cap, hv, hg1, hg2, cellsg, hg3⟩ := Kd.S_form hE.rows (by omega)
    injection hv with hv1 hv2 hv3
    subst hv1 hv3
    obtain ⟨oki, ce, hcl, hMe, hcc, hfr, hoki, hHe⟩ := Kd.S_elem hE.rows z49 (x.1 : Int) (by omega) (by omega)
    obtain ⟨va, vk, hce, hRa, hRk⟩ := k49_openM hMe
    subst hce
    rw [Int.toNat_natCast] at hcc
    obtain ⟨y, hy⟩ : ∃ y, y = l.getD x.1 z49 := ⟨_, rfl⟩
    rw [← hy] at hcc
    have HYE := Lib.hid (show y = ndAt l x.1 from hy)
    clear hy
    have t0 : W.cell? ⟨g, x.1 * 5, none⟩ = some (.int .i64 y.f0) := hcc 0 _ rfl
    have t1 : W.cell? ⟨g, x.1 * 5 + 1, none⟩ = some (.string y.f1) := hcc 1 _ rfl
    have HNO := Lib.hid hno
    have HE := Lib.hid hE
    have HX := Lib.hid hx
    obtain ⟨m, hm⟩ : ∃ m, m = x.1 := ⟨_, rfl⟩
    rw [← hm] at t0 t1 HX ⊢
    have HM := Lib.hid hm
    clear hm hno hE hx hlt hcl hMe hcc hfr hoki hHe hRa hRk hg1 hg2 hg3 hv2
    have b0 := HE.out.box.cell 0
    have b1 := HE.out.box.cell 1
    have b1f := HE.out.box.free 1
    have p0 := HE.out.pb.cell 0
    have s0 := HE.out.nb.cell 0
    simp only [List.getElem?_toArray, List.getElem?_cons_zero, List.getElem?_cons_succ] at b0 b1 p0 s0
    have i1 : (0 : Int) ≤ (m : Int) := by omega
    have i2 : (m : Int) < (l.length : Int) := by have := HX.out; omega
    refine wpIn_block ?_
    refine wpIn_seq ?_
    obtain ⟨C, hC⟩ : ∃ C : Nat → World → Prop, C = fun _ w_ => w_ = W.drew := ⟨_, rfl⟩
    have HCI : Hid (∀ i w_, C i w_ ↔ w_ = W.drew) := Lib.hid (fun i w_ => by rw [hC])
    clear hC
    have ne : Nonempty (Mix.Wd C 0) := ⟨⟨W.drew, 0, Nat.le_refl _, (HCI.out _ _).2 rfl⟩⟩
    have q0 : ∀ q : Mix.Wd C 0, q.1.cell? ⟨b, 0, none⟩ = some (.slice (some ⟨g, 0, none⟩) l.length c) := fun ⟨w_, i, _, hw⟩ => by have := (HCI.out _ _).1 hw; subst this; exact b0
    have q1 : ∀ q : Mix.Wd C 0, q.1.cell? ⟨w.heap.size, 0, none⟩ = some (.pointer (some ⟨b, 0, none⟩)) := fun ⟨w_, i, _, hw⟩ => by have := (HCI.out _ _).1 hw; subst this; exact p0
    have q2 : ∀ q : Mix.Wd C 0, q.1.cell? ⟨w.heap.size + 1, 0, none⟩ = some (.string s) := fun ⟨w_, i, _, hw⟩ => by have := (HCI.out _ _).1 hw; subst this; exact s0
    have q3 : ∀ q : Mix.Wd C 0, q.1.cell? ⟨g, m * 5 + 1, none⟩ = some (.string y.f1) := fun ⟨w_, i, _, hw⟩ => by have := (HCI.out _ _).1 hw; subst this; exact t1
    by_cases h0 : m = 0
    · have hh : hit l s m = false := by unfold hit; rw [h0]; rfl
      have HH := Lib.hid hh
      have v1 : ¬ ((0 : Int) < (m : Int)) := by omega
      have v2 : decide (0 < m) = false := by rw [h0]; rfl
      clear h0 hh
      refine Mix.wpIn_region_mix r _ C [] (by kernel_rfl) (by kernel_rfl) (by kernel_rfl) ((HCI.out _ _).2 rfl) ?_
      iterate 14 (refine Mix.mix_still (by decide) (fun K hK => ?_); go_simp; refine hK _ ?_; clear hK K)
      refine Mix.mix_nil ?_
      intro w_ hw_
      have e_ := (HCI.out _ _).1 hw_
      subst e_
      clear ne q0 q1 q2 q3 hw_ b0 b1 b1f p0 s0 t0 t1
      show Code.wpIn _ _ _ _ _ _ _
      gi_wp2
      exact ⟨(KeepsOthers.drew W).from _, ⟨below_drew (Below.refl _ _), fun b cs T _ hb => hb.drew⟩, fun y hy => by
        rcases List.mem_append.1 hy with hy | hy
        · exact HNO.out y hy
        · rw [List.mem_singleton.1 hy, ← HM.out]; exact HH.out, HE.out.next HBB.out (below_drew (Below.refl _ _))⟩
    by_cases ht : y.f1.toList = s.toList
    · have hh : hit l s m = true := by unfold hit; rw [HM.out, ← HYE.out, ← HM.out, decide_eq_true ht]; simp; omega
      have HH := Lib.hid hh
      have v1 : (0 : Int) < (m : Int) := by omega
      have v2 : decide (0 < m) = true := by simp; omega
      have v3 : (y.f1.toList == s.toList) = true := by simpa using ht
      clear h0 hh ht
      refine Mix.wpIn_region_mix r _ C [] (by kernel_rfl) (by kernel_rfl) (by kernel_rfl) ((HCI.out _ _).2 rfl) ?_
      iterate 14 (refine Mix.mix_still (by decide) (fun K hK => ?_); go_simp; refine hK _ ?_; clear hK K)
      refine Mix.mix_nil ?_
      intro w_ hw_
      have e_ := (HCI.out _ _).1 hw_
      subst e_
      clear ne q0 q1 q2 q3 hw_
      show Code.wpIn _ _ _ _ _ _ _
      refine wpIn_cond_true rfl ?_
      refine wpIn_seq ?_
      have E2 := Lib.hid (HE.out.next HBB.out (below_drew (below_drew (Below.refl _ W))))
      obtain ⟨W2, hW2⟩ : ∃ y_, y_ = W.drew.drew := ⟨_, rfl⟩
      have hh : ∀ p, W2.cell? p = W.cell? p := fun p => by rw [hW2]; rfl
      have hf : ∀ p, W2.frozen? p = W.frozen? p := fun p => by rw [hW2]; rfl
      rw [← hW2] at E2
      have HK2 := Lib.hid (show KeepsOthers W W2 by rw [hW2]; exact (KeepsOthers.drew W).trans (KeepsOthers.drew _))
      have HWE := Lib.hid hW2
      have b0' := (hh _).trans b0
      have p0' := (hh _).trans p0
      have t0' := (hh _).trans t0
      have b1' := (hh _).trans b1
      have b1f' := (hf _).trans b1f
      clear b0 b1 b1f p0 s0 t0 t1 hh hf hW2
      obtain ⟨L2, hL⟩ : ∃ L : List World, L = [W2, W2.setCell ⟨b, 1, none⟩ (.int .i64 y.f0)] := ⟨_, rfl⟩
      have HL0 := Lib.hid (show L2[0]? = some W2 from by rw [hL]; rfl)
      have HL1 := Lib.hid (show L2[1]? = some (W2.setCell ⟨b, 1, none⟩ (.int .i64 y.f0)) from by rw [hL]; rfl)
      clear hL
      have ne := Mix.CL.ne HL0.out
      have nx := Mix.CL.nx (p := 0) (q := 0) HL0.out (Nat.le_refl _)
      have q0 := Mix.CL.at0 HL0.out b0'
      have q1 := Mix.CL.at0 HL0.out p0'
      have q2 := Mix.CL.at0 HL0.out t0'
      refine Mix.wpIn_region_mix r _ (Mix.CL L2) [11] (by kernel_rfl) (by kernel_rfl) (by kernel_rfl) (by rw [← HWE.out]; exact HL0.out) ?_
      iterate 2 (refine Mix.mix_in 0 0 (by decide) (by kernel_rfl) (fun K hK => ?_); go_simp; refine hK _ ?_; clear hK K)
      iterate 2 (refine Mix.mix_still (by decide) (fun K hK => ?_); go_simp; refine hK _ ?_; clear hK K)
      iterate 1 (refine Mix.mix_in 0 0 (by decide) (by kernel_rfl) (fun K hK => ?_); go_simp; refine hK _ ?_; clear hK K)
      iterate 3 (refine Mix.mix_still (by decide) (fun K hK => ?_); go_simp; refine hK _ ?_; clear hK K)
      iterate 1 (refine Mix.mix_in 0 0 (by decide) (by kernel_rfl) (fun K hK => ?_); go_simp; refine hK _ ?_; clear hK K)
      iterate 2 (refine Mix.mix_still (by decide) (fun K hK => ?_); go_simp; refine hK _ ?_; clear hK K)
      refine Mix.mix_turn (by decide) (fun K hK => ?_)
      go_simp
      refine ⟨⟨undef, fun w_ hw_ => ?_⟩, hK _ ?_⟩
      · have e_ := (Mix.CL.eq HL0.out hw_).symm
        subst e_
        have d1_ := b1'
        have d2_ := b1f'
        have hs_ := HL1.out
        clear ne nx q0 q1 q2 b1' b1f' b0' p0' t0'
        generalize W2 = yw_ at d1_ d2_ hs_ ⊢
        go_simp
        all_goals exact hs_
      clear hK K
      refine Mix.mix_nil ?_
      intro w_ hw_
      have e_ := (Mix.CL.eq HL1.out hw_).symm
      subst e_
      clear ne nx q0 q1 q2 hw_ b1' b1f' b0' p0' t0'
      show Code.wpIn _ _ _ _ _ _ _
      gi_wp2
      refine ⟨(HK2.out.trans (KeepsOthers.setCell _ _ _)).from _, rfl, pre, x, rfl, HNO.out, by rw [← HM.out]; exact HH.out, ?_⟩
      rw [← HYE.out]
      exact ⟨E2.out.box.set 1 _, Kd.S_far (p := ⟨b, 1, none⟩) E2.out.rows (fun k hk => hk.1) _, E2.out.pb.setCell_other _ (fun e => by have e2 : w.heap.size = b := e; have := HBL.out; omega), E2.out.nb.setCell_other _ (fun e => by have e2 : w.heap.size + 1 = b := e; have := HBL.out; omega), E2.out.below.setCell (p := ⟨b, 1, none⟩) HB.out.base _, E2.out.kept.trans (KpT.set (o := 1) (v := .int .i64 y.f0) E2.out.box (.inr (.inr rfl)))⟩
    · have hh : hit l s m = false := by unfold hit; rw [HM.out, ← HYE.out, decide_eq_false ht, Bool.and_false]
      have HH := Lib.hid hh
      have v1 : (0 : Int) < (m : Int) := by omega
      have v2 : decide (0 < m) = true := by simp; omega
      have v3 : (y.f1.toList == s.toList) = false := by simpa using ht
      clear h0 hh ht
      refine Mix.wpIn_region_mix r _ C [] (by kernel_rfl) (by kernel_rfl) (by kernel_rfl) ((HCI.out _ _).2 rfl) ?_
      iterate 14 (refine Mix.mix_still (by decide) (fun K hK => ?_); go_simp; refine hK _ ?_; clear hK K)
      refine Mix.mix_nil ?_
      intro w_ hw_
      have e_ := (HCI.out _ _).1 hw_
      subst e_
      clear ne q0 q1 q2 q3 hw_ b0 b1 b1f p0 s0 t0 t1
      show Code.wpIn _ _ _ _ _ _ _
      gi_wp2
      exact ⟨(KeepsOthers.drew W).from _, ⟨below_drew (Below.refl _ _), fun b cs T _ hb => hb.drew⟩, fun y hy => by
        rcases List.mem_append.1 hy with hy | hy
        · exact HNO.out y hy
        · rw [List.mem_singleton.1 hy, ← HM.out]; exact HH.out, HE.out.next HBB.out (below_drew (Below.refl _ _))⟩
  case done =>
    rintro D xs W hD rfl ⟨hno, hE⟩ hK
    have HE := Lib.hid hE
    have HK := Lib.hid hK
    have HA := Lib.hid (show endA l a s = a from by
      unfold endA
      rw [List.find?_eq_none.2 (fun y hy => by rw [hno y hy]; decide)])
    have HF := Lib.hid (hE.of_row (B := w3.heap.size) HBB.out (by have := VS.out; have := HBB.out; omega) (grownBy_putObj' W D (.deferred none)) (fun r e => by cases e; exact ⟨hD, _, hK, rfl⟩))
    clear hno hE hK hD
    refine ⟨by simp, .inl ⟨_, _, rfl, run_takeDeferred HK.out, ?_⟩⟩
    refine ⟨_, results_none rfl _ _ _, rfl, ⟨.slice A l.length c, ?_⟩, HF.out.below, HF.out.kept⟩
    rw [HA.out]
    exact ⟨HF.out.box, Kd.S_mono HF.out.rows (fun _ h => h.1), HB.out.base⟩
  case stop =>
    rintro D c_ pre W hD ⟨q, hq⟩ ⟨rfl, p0, x, rfl, hno, hh, hE⟩ hK
    have HK := Lib.hid hK
    have HA := Lib.hid (show endA l a s = (ndAt l x.1).f0 from by
      unfold endA
      rw [hq, List.append_assoc, List.find?_append, List.find?_eq_none.2 (fun y hy => by rw [hno y hy]; decide)]
      simp [hh])
    have HF := Lib.hid (hE.of_row (B := w3.heap.size) HBB.out (by have := VS.out; have := HBB.out; omega) (grownBy_putObj' W D (.deferred none)) (fun r e => by cases e; exact ⟨hD, _, hK, rfl⟩))
    clear hno hE hK hD hq hh
    gi_wp2
    refine ⟨by simp, .inl ⟨_, _, rfl, run_takeDeferred HK.out, ?_⟩⟩
    refine ⟨_, results_none rfl _ _ _, rfl, ⟨.slice A l.length c, ?_⟩, HF.out.below, HF.out.kept⟩
    rw [HA.out]
    exact ⟨HF.out.box, Kd.S_mono HF.out.rows (fun _ h => h.1), HB.out.base⟩
end Go.Proofs.YtkjgnkmnngaioaaGreat.Q
namespace Go.Proofs.YtkjgnkmnngaioaaGreat.Q
open Go.RowKit Go.IntWalk Go.Proofs.YtkjgnkmnngaioaaGreat.Mem Go.Proofs.YtkjgnkmnngaioaaGreatW.PrintWords Go.Proofs.YtkjgnkmnngaioaaGreatW.PrintLast Go.Proofs.YtkjgnkmnngaioaaGreatW.PrintMore
set_option linter.unusedVariables false
set_option linter.unusedSimpArgs false
def bdE (l : List Nd) (a : Nat) (t : Tk) : Int := if rightF t = true then (if t.f0 = 1 then opE l a t else if t.f0 = 2 then 0 else txE l a t.f2) else 2
def bdL (l : List Nd) (a : Nat) (t : Tk) : List Nd := if t.f0 = 1 then opLs l a t else if t.f0 = 2 then l else txL l a t.f2
def bdA (l : List Nd) (a : Nat) (t : Tk) : Nat := if t.f0 = 1 then opA l a t else if t.f0 = 2 then (endA l (a : Int) t.f1).toNat else a
def bdF : List Tk → List Nd → Nat → List Nd × Int
  | [], l, _ => (l, 0)
  | t :: ts, l, a => if bdE l a t = 0 then bdF ts (bdL l a t) (bdA l a t) else ([], bdE l a t)
def rootN : Nd := ⟨-1, ⟨#[114, 111, 111, 116]⟩, ⟨#[]⟩, [], []⟩
def buildF (ts : List Tk) : List Nd × Int := bdF ts [rootN] 0
/-- What is true between two tokens. -/
structure BOk (k : Nat) (l : List Nd) (a : Nat) : Prop where
  at_ : a < l.length
  up : okUp l
  kl : ∀ i, i < l.length → (ndAt l i).f4.length + 1 ≤ l.length
  kr : ∀ i, i < l.length → ∀ q ∈ (ndAt l i).f4, 0 ≤ q ∧ q < (l.length : Int)
  len : l.length ≤ 60
  txt : ∀ i, (ndAt l i).f2.size ≤ 1000000 * k
  par : ∀ i, 0 < i → i < l.length → 0 ≤ (ndAt l i).f0
theorem BOk.kids {k : Nat} {l : List Nd} {a : Nat} (h : BOk k l a) : okKids l := fun i hi => ⟨by have := h.kl i hi; have := h.len; omega, h.kr i hi⟩
theorem ndAt_set {l : List Nd} {a i : Nat} {x : Nd} (ha : a < l.length) : ndAt (l.set a x) i = if i = a then x else ndAt l i := by
  unfold ndAt
  rw [List.getD_eq_getElem?_getD, List.getD_eq_getElem?_getD]
  by_cases h : i = a
  · subst h
    rw [List.getElem?_set_self ha, if_pos rfl]
    rfl
  · rw [List.getElem?_set_ne (Ne.symm h), if_neg h]
theorem ndAt_old {l : List Nd} {i : Nat} {x : Nd} (h : i < l.length) : ndAt (l ++ [x]) i = ndAt l i := by
  unfold ndAt
  rw [List.getD_eq_getElem?_getD, List.getD_eq_getElem?_getD, List.getElem?_append_left h]
theorem ndAt_last {l : List Nd} {x : Nd} : ndAt (l ++ [x]) l.length = x := by
  unfold ndAt
  rw [List.getD_eq_getElem?_getD, List.getElem?_append_right (Nat.le_refl _), Nat.sub_self]
  rfl
theorem addKid_len (l : List Nd) (a : Nat) : (addKid l a).length = l.length := by unfold addKid; rw [List.length_set]
theorem layE_len {l : List Nd} {a : Nat} (h : layE l a = 0) : l.length ≠ 60 := by
  unfold layE at h
  split at h
  · cases h
  · split at h
    · cases h
    · assumption
/-- The nodes behind a new last kid. -/
theorem lay_nd {l : List Nd} {a : Nat} {nd : Nd} (ha : a < l.length) (he : layE l a = 0) (i : Nat) (hi : i < l.length + 1) :
    ndAt (layL l a nd) i = if i = l.length then ⟨(a : Int), nd.f1, nd.f2, nd.f3, nd.f4⟩ else if i = a then ⟨(ndAt l a).f0, (ndAt l a).f1, (ndAt l a).f2, (ndAt l a).f3, (ndAt l a).f4 ++ [(l.length : Int)]⟩ else ndAt l i := by
  unfold layL
  rw [if_pos he]
  by_cases h : i = l.length
  · rw [if_pos h, h]
    have := ndAt_last (l := addKid l a) (x := ⟨(a : Int), nd.f1, nd.f2, nd.f3, nd.f4⟩)
    rw [addKid_len] at this
    exact this
  · rw [if_neg h, ndAt_old (by rw [addKid_len]; omega)]
    unfold addKid
    exact ndAt_set ha
theorem lay_len {l : List Nd} {a : Nat} {nd : Nd} (he : layE l a = 0) : (layL l a nd).length = l.length + 1 := by
  unfold layL
  rw [if_pos he, List.length_append, addKid_len]
  rfl
theorem ndAt_le {l : List Nd} {n : Nat} (h : ∀ i, i < l.length → (ndAt l i).f2.size ≤ n) (i : Nat) : (ndAt l i).f2.size ≤ n := by
  by_cases hi : i < l.length
  · exact h i hi
  · rw [ndAt_far hi]
    exact Nat.zero_le _
theorem BOk.lay {k : Nat} {l : List Nd} {a a' : Nat} {nd : Nd} (h : BOk k l a) (he : layE l a = 0) (h4 : nd.f4 = []) (h2 : nd.f2.size ≤ 1000000) (ha' : a' < l.length + 1) : BOk (k + 1) (layL l a nd) a' := by
  have hl := layE_len he
  have hlen := h.len
  have hn := fun i hi => lay_nd (nd := nd) h.at_ he i hi
  have hll := lay_len (nd := nd) he
  refine ⟨by omega, fun i hi => ?_, fun i hi => ?_, fun i hi q hq => ?_, by omega, ndAt_le fun i hi => ?_, fun i h0 hi => ?_⟩
  · rw [hn i (by omega)]
    by_cases e : i = l.length
    · rw [if_pos e]; have := h.at_; show (a : Int) < i; omega
    · rw [if_neg e]
      by_cases e2 : i = a
      · rw [if_pos e2, e2]; exact h.up a h.at_
      · rw [if_neg e2]; exact h.up i (by omega)
  · rw [hn i (by omega), hll]
    by_cases e : i = l.length
    · rw [if_pos e]; show nd.f4.length + 1 ≤ _; rw [h4]; simp
    · rw [if_neg e]
      by_cases e2 : i = a
      · rw [if_pos e2]
        show ((ndAt l a).f4 ++ [(l.length : Int)]).length + 1 ≤ _
        rw [List.length_append]
        have := h.kl a h.at_
        simp
        omega
      · rw [if_neg e2]; have := h.kl i (by omega); omega
  · rw [hn i (by omega)] at hq
    rw [hll]
    by_cases e : i = l.length
    · rw [if_pos e] at hq; have hq2 : q ∈ nd.f4 := hq; rw [h4] at hq2; cases hq2
    · rw [if_neg e] at hq
      by_cases e2 : i = a
      · rw [if_pos e2] at hq
        have hq2 : q ∈ (ndAt l a).f4 ++ [(l.length : Int)] := hq
        rcases List.mem_append.1 hq2 with hq2 | hq2
        · have := h.kr a h.at_ q hq2; omega
        · rw [List.mem_singleton.1 hq2]; omega
      · rw [if_neg e2] at hq
        have := h.kr i (by omega) q hq; omega
  · rw [hn i (by omega)]
    by_cases e : i = l.length
    · rw [if_pos e]; show nd.f2.size ≤ _; omega
    · rw [if_neg e]
      by_cases e2 : i = a
      · rw [if_pos e2]; have := h.txt a; show (ndAt l a).f2.size ≤ _; omega
      · rw [if_neg e2]; have := h.txt i; omega
  · rw [hn i (by omega)]
    by_cases e : i = l.length
    · rw [if_pos e]; show (0 : Int) ≤ a; omega
    · rw [if_neg e]
      by_cases e2 : i = a
      · rw [if_pos e2]; show 0 ≤ (ndAt l a).f0; rw [← e2]; exact h.par i h0 (by omega)
      · rw [if_neg e2]; exact h.par i h0 (by omega)
theorem BOk.more {k : Nat} {l : List Nd} {a : Nat} (h : BOk k l a) : BOk (k + 1) l a := ⟨h.at_, h.up, h.kl, h.kr, h.len, fun i => by have := h.txt i; omega, h.par⟩
theorem lastIx_lt {k : Nat} {l : List Nd} {a : Nat} (h : BOk k l a) (ht : isTx l a = true) : lastIx l a < l.length := by
  unfold isTx at ht
  rw [Bool.and_eq_true] at ht
  have h1 := of_decide_eq_true ht.1
  have hm : (ndAt l a).f4.getD ((ndAt l a).f4.length - 1) 0 ∈ (ndAt l a).f4 := by
    rw [List.getD_eq_getElem?_getD, List.getElem?_eq_getElem (by omega)]
    exact List.getElem_mem _
  have := h.kr a h.at_ _ hm
  unfold lastIx
  omega
theorem addTx_nd {l : List Nd} {k i : Nat} {s : ByteArray} (hk : k < l.length) : ndAt (addTx l k s) i = if i = k then ⟨(ndAt l k).f0, (ndAt l k).f1, (ndAt l k).f2 ++ s, (ndAt l k).f3, (ndAt l k).f4⟩ else ndAt l i := by
  unfold addTx
  exact ndAt_set hk
theorem addTx_len (l : List Nd) (k : Nat) (s : ByteArray) : (addTx l k s).length = l.length := by unfold addTx; rw [List.length_set]
theorem BOk.tx {k : Nat} {l : List Nd} {a j : Nat} {s : ByteArray} (h : BOk k l a) (hj : j < l.length) (hs : s.size ≤ 1000000) : BOk (k + 1) (addTx l j s) a := by
  have hn := fun i => addTx_nd (l := l) (k := j) (i := i) (s := s) hj
  have hll := addTx_len l j s
  refine ⟨by rw [hll]; exact h.at_, fun i hi => ?_, fun i hi => ?_, fun i hi q hq => ?_, by rw [hll]; exact h.len, fun i => ?_, fun i h0 hi => ?_⟩
  · rw [hn i]
    rw [hll] at hi
    by_cases e : i = j
    · rw [if_pos e, e]; exact h.up j hj
    · rw [if_neg e]; exact h.up i hi
  · rw [hn i, hll]
    rw [hll] at hi
    by_cases e : i = j
    · rw [if_pos e]; exact h.kl j hj
    · rw [if_neg e]; exact h.kl i hi
  · rw [hn i] at hq
    rw [hll] at hi ⊢
    by_cases e : i = j
    · rw [if_pos e] at hq; exact h.kr j hj q hq
    · rw [if_neg e] at hq; exact h.kr i hi q hq
  · rw [hn i]
    by_cases e : i = j
    · rw [if_pos e]
      show ((ndAt l j).f2 ++ s).size ≤ _
      have := h.txt j
      rw [ByteArray.size_append]
      omega
    · rw [if_neg e]; have := h.txt i; omega
  · rw [hn i]
    rw [hll] at hi
    by_cases e : i = j
    · rw [if_pos e]; show 0 ≤ (ndAt l j).f0; rw [← e]; exact h.par i h0 hi
    · rw [if_neg e]; exact h.par i h0 hi
theorem endA_ok {k : Nat} {l : List Nd} {a : Nat} (h : BOk k l a) (s : ByteArray) : 0 ≤ endA l (a : Int) s ∧ endA l (a : Int) s < (l.length : Int) := by
  unfold endA
  split
  · rename_i x hx
    have h1 := List.find?_some hx
    unfold hit at h1
    rw [Bool.and_eq_true] at h1
    have h2 := of_decide_eq_true h1.1
    have h3 := h.par x.1 h2 x.2
    have h4 := h.up x.1 x.2
    have := x.2
    omega
  · have := h.at_; omega
theorem BOk.at {k : Nat} {l : List Nd} {a a' : Nat} (h : BOk k l a) (ha : a' < l.length) : BOk k l a' := ⟨ha, h.up, h.kl, h.kr, h.len, h.txt, h.par⟩
/-- A token more. -/
theorem BOk.step {k : Nat} {l : List Nd} {a : Nat} {t : Tk} (h : BOk k l a) (hs : t.f2.size ≤ 1000000) (he : bdE l a t = 0) : BOk (k + 1) (bdL l a t) (bdA l a t) := by
  unfold bdE at he
  split at he
  · unfold bdL bdA
    by_cases h1 : t.f0 = 1
    · rw [if_pos h1] at he
      rw [if_pos h1, if_pos h1]
      unfold opE at he
      unfold opLs opA
      by_cases hr : t.f1.toList = rootL
      · rw [if_pos hr, if_pos hr]; exact h.more
      · rw [if_neg hr] at he
        rw [if_neg hr, if_neg hr]
        refine h.lay he rfl (by show (0 : Nat) ≤ _; omega) ?_
        have := h.at_
        split <;> omega
    · rw [if_neg h1] at he
      rw [if_neg h1, if_neg h1]
      by_cases h2 : t.f0 = 2
      · rw [if_pos h2, if_pos h2]
        have := endA_ok h t.f1
        exact h.more.at (by omega)
      · rw [if_neg h2] at he
        rw [if_neg h2, if_neg h2]
        unfold txE at he
        unfold txL
        by_cases h0 : t.f2.toList = []
        · rw [if_pos h0]; exact h.more
        · rw [if_neg h0] at he
          rw [if_neg h0]
          by_cases ht : isTx l a = true
          · rw [if_pos ht]; exact h.tx (lastIx_lt h ht) hs
          · rw [if_neg ht] at he
            rw [if_neg ht]
            exact h.lay he rfl hs (by have := h.at_; omega)
  · cases he
theorem BOk.start : BOk 0 [rootN] 0 := by
  have h0 : ∀ i, i < 1 → ndAt [rootN] i = rootN := fun i hi => by have : i = 0 := by omega
                                                                  subst this; rfl
  refine ⟨by decide, fun i hi => ?_, fun i hi => ?_, fun i hi q hq => ?_, by decide, ndAt_le fun i hi => ?_, fun i h1 hi => ?_⟩
  · rw [h0 i hi]; show (-1 : Int) < i; omega
  · rw [h0 i hi]; decide
  · rw [h0 i hi] at hq; cases hq
  · rw [h0 i hi]; decide
  · simp at hi; omega
end Go.Proofs.YtkjgnkmnngaioaaGreat.Q
