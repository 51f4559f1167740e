/- The walk of MeterDoes. -/
import Derived.Test.YtgppemaekgnnfaaMt5
import Derived.Test.YtgppemaekgnnfaaMix
namespace Go.Proofs.Ytgppemaekgnnfaa.Mt
open Go.RowKit Go.Proofs.Ytgppemaekgnnfaa.Mem Go.Proofs.Ytgppemaekgnnfaa.Mix
set_option linter.unusedVariables false

theorem does_nil (limit : Int) (a : Option Addr) (l : List Int) (cap : Nat) (n r b : Int) (w : World) (hl : l.length ≤ 200) (h : limit < 0 ∨ 1099511627776 < limit) :
    Calls Try.prog 3 #[.int .i64 limit, .slice a l.length cap, .int .i64 n, .int .i64 r, .int .i64 b] w fun e w' => e = .returned (.bool true) ∧ Below w.heap.size w w' := by
  have H := Lib.hid h
  clear h
  go_enter Try.func3, Try.ntmps3
  go_wp2_with fail
  refine (awake_calls _).mono ?_
  rintro e w1 ⟨rfl, hw1⟩
  have W1 := Lib.hid hw1
  clear hw1
  go_wp2_with fail
  refine (new_no limit _ H.out).mono ?_
  rintro e w' ⟨rfl, rfl⟩
  go_wp2_with fail
  refine (rnew_no limit _ H.out).mono ?_
  rintro e w' ⟨rfl, rfl⟩
  go_wp2_with fail
  refine (bound_calls n r b _).mono ?_
  rintro e w2 ⟨rfl, hw2⟩
  have W2 := Lib.hid hw2
  clear hw2
  go_wp2_with fail
  refine (rbound_calls n r b _).mono ?_
  rintro e w' ⟨rfl, rfl⟩
  go_wp2_with fail
  go_loop [15] (fun i => i = .int .i64 0) (fun _ => 0)
  case atStart => rfl
  case round =>
    subst hrel
    go_wp2
    go_ret
    exact ⟨rfl, W1.out.trans (W2.out.mono W1.out.size)⟩

/-- Both meters, as the statement's rounds find them. -/
structure St (w0 : World) (bm br : Nat) (lim tk : Int) (ov : Bool) (rtk : Int) (rov : Bool) (w : World) : Prop where
  m : Mtr w bm lim tk ov
  r : RMtr w br lim (lim - rtk) rov
  below : Below w0.heap.size w0 w

/-- The worlds between the calls of one round. -/
def Cl (w0 : World) (bm br : Nat) (lim tk : Int) (ov : Bool) (tk' : Int) (ov' : Bool) : Nat → World → Prop
  | 0 => St w0 bm br lim tk ov tk ov
  | 1 => St w0 bm br lim tk' ov' tk ov
  | _ => St w0 bm br lim tk' ov' tk' ov'

set_option maxHeartbeats 1000000 in
theorem does_some (limit : Int) (a : Option Addr) (l : List Int) (cap : Nat) (n r b : Int) (w : World) (hl : l.length ≤ 200) (h0 : 0 ≤ limit) (h1 : limit ≤ 1099511627776)
    (ha : Arr w a l.length (fun j => .int .i64 (l.getD j 0))) (hx : ∀ j, l.getD j 0 ≤ 9223372036854775807) :
    Calls Try.prog 3 #[.int .i64 limit, .slice a l.length cap, .int .i64 n, .int .i64 r, .int .i64 b] w fun e w' => e = .returned (.bool true) ∧ Below w.heap.size w w' := by
  have HA := Lib.hid ha
  have HX := Lib.hid hx
  clear ha hx
  go_enter Try.func3, Try.ntmps3
  go_wp2_with fail
  refine (awake_calls _).mono ?_
  rintro e w1 ⟨rfl, hw1⟩
  have W1 := Lib.hid hw1
  clear hw1
  go_wp2_with fail
  refine (new_ok limit _ h0 h1).mono ?_
  rintro e w2 ⟨rfl, hb2, hw2⟩
  have W2 := Lib.hid hw2
  have B2 := Lib.hid hb2
  clear hw2 hb2
  go_wp2_with fail
  refine (rnew_ok limit _ h0 h1).mono ?_
  rintro e w3 ⟨rfl, hb3, hw3⟩
  have W3 := Lib.hid hw3
  have B3 := Lib.hid hb3
  clear hw3 hb3
  go_wp2_with fail
  refine (bound_calls n r b _).mono ?_
  rintro e w4 ⟨rfl, hw4⟩
  have W4 := Lib.hid hw4
  clear hw4
  go_wp2_with fail
  refine (rbound_calls n r b _).mono ?_
  rintro e w' ⟨rfl, rfl⟩
  go_wp2_with fail
  have k1 : w1.heap.size < w2.heap.size := B2.out.lt
  have k2 : w2.heap.size < w3.heap.size := B3.out.lt
  have k0 : w.heap.size ≤ w1.heap.size := W1.out.size
  have start : St w w1.heap.size w2.heap.size limit 0 false 0 false w4 := by
    refine ⟨?_, ?_, ?_⟩
    · exact (Blk.below (Blk.below B2.out W3.out k1) W4.out (by omega))
    · rw [Int.sub_zero]
      exact (Blk.below B3.out W4.out k2)
    · exact ((W1.out.trans (W2.out.mono k0)).trans (W3.out.mono (by omega))).trans (W4.out.mono (by omega))
  have START := Lib.hid start
  clear start
  go_loopw [15] (fun i wr => ∃ (k : Nat) (tk : Int) (ov : Bool), k ≤ l.length ∧ i = .int .i64 k ∧ 0 ≤ tk ∧ tk ≤ limit ∧ Hid (St w w1.heap.size w2.heap.size limit tk ov tk ov wr)) (fun i _ => l.length - (intOf i).toNat)
  case atStart => exact ⟨0, 0, false, Nat.zero_le _, rfl, Int.le_refl 0, h0, START⟩
  case round =>
    obtain ⟨k, tk, ov, hk, rfl, t0, t1, S⟩ := hrel
    by_cases hlt : k < l.length
    · obtain ⟨ba, oa, rfl, hba, hca⟩ : ∃ b o, a = some ⟨b, o, none⟩ ∧ b < w.heap.size ∧ w.cell? ⟨b, o + k, none⟩ = some (.int .i64 (l.getD k 0)) := by
        rcases HA.out with h | ⟨b, o, h1, h2, h3⟩
        · omega
        · exact ⟨b, o, h1, h2, h3 k hlt⟩
      have hn := HX.out k
      generalize l.getD k 0 = x at *
      go_wp2_with fail
      have hCS : St w w1.heap.size w2.heap.size limit tk ov tk ov wr.drew := ⟨S.out.m, S.out.r, S.out.below.drew⟩
      -- what each take does to such a world
      have c1 : ∀ y, Cl w w1.heap.size w2.heap.size limit tk ov (takeT limit tk ov x) (takeO limit tk ov x) 0 y → Calls Try.prog 16 #[.pointer (some ⟨w1.heap.size, 0, none⟩), .int .i64 x] y fun e y' => e = .returned (.bool (takeR limit tk ov x)) ∧ Cl w w1.heap.size w2.heap.size limit tk ov (takeT limit tk ov x) (takeO limit tk ov x) 1 y' :=
        fun y hy => (take_calls _ limit tk x ov y hy.m h1 t0 t1 hn).mono fun e y' hp => ⟨hp.e, hp.blk, hp.but.blk hy.r (by omega), hy.below.trans (hp.but.below k0 hy.below.size)⟩
      have c2 : ∀ y, Cl w w1.heap.size w2.heap.size limit tk ov (takeT limit tk ov x) (takeO limit tk ov x) 1 y → Calls Try.prog 17 #[.pointer (some ⟨w2.heap.size, 0, none⟩), .int .i64 x] y fun e y' => e = .returned (.bool (takeR limit tk ov x)) ∧ Cl w w1.heap.size w2.heap.size limit tk ov (takeT limit tk ov x) (takeO limit tk ov x) 2 y' :=
        fun y hy => (rtake_calls _ limit tk x ov y hy.r h1 t0 t1 hn).mono fun e y' hp => ⟨hp.e, hp.but.blk hy.m (by omega), hp.blk, hy.below.trans (hp.but.below (by omega) hy.below.size)⟩
      have bd := takeT_bd (n := x) (ov := ov) t0 t1
      have c3 : ∀ y, Cl w w1.heap.size w2.heap.size limit tk ov (takeT limit tk ov x) (takeO limit tk ov x) 2 y → Calls Try.prog 18 #[.pointer (some ⟨w1.heap.size, 0, none⟩)] y fun e y' => e = .returned (.int .i64 (takeT limit tk ov x)) ∧ Cl w w1.heap.size w2.heap.size limit tk ov (takeT limit tk ov x) (takeO limit tk ov x) 3 y' :=
        fun y hy => (taken_calls _ _ _ _ y hy.m).mono fun e y' ⟨he, hq⟩ => ⟨he, hq ▸ hy⟩
      have c4 : ∀ y, Cl w w1.heap.size w2.heap.size limit tk ov (takeT limit tk ov x) (takeO limit tk ov x) 3 y → Calls Try.prog 19 #[.pointer (some ⟨w1.heap.size, 0, none⟩)] y fun e y' => e = .returned (.int .i64 (limit - takeT limit tk ov x)) ∧ Cl w w1.heap.size w2.heap.size limit tk ov (takeT limit tk ov x) (takeO limit tk ov x) 4 y' :=
        fun y hy => (left_calls _ _ _ _ y hy.m h1 bd.1 bd.2).mono fun e y' ⟨he, nq, hq⟩ => ⟨he, hq ▸ ⟨hy.m, hy.r, below_drewN hy.below nq⟩⟩
      have c5 : ∀ y, Cl w w1.heap.size w2.heap.size limit tk ov (takeT limit tk ov x) (takeO limit tk ov x) 4 y → Calls Try.prog 20 #[.pointer (some ⟨w1.heap.size, 0, none⟩)] y fun e y' => e = .returned (.bool (takeO limit tk ov x)) ∧ Cl w w1.heap.size w2.heap.size limit tk ov (takeT limit tk ov x) (takeO limit tk ov x) 5 y' :=
        fun y hy => (over_calls _ _ _ _ y hy.m).mono fun e y' ⟨he, hq⟩ => ⟨he, hq ▸ hy⟩
      have n0 : Nonempty (Wd (Cl w w1.heap.size w2.heap.size limit tk ov (takeT limit tk ov x) (takeO limit tk ov x)) 0) := ⟨⟨wr.drew, 0, Nat.le_refl _, hCS⟩⟩
      have n2 : Nonempty (Wd (Cl w w1.heap.size w2.heap.size limit tk ov (takeT limit tk ov x) (takeO limit tk ov x)) 2) := by
        obtain ⟨_, y1, _, q1⟩ := some_end (c1 _ hCS)
        obtain ⟨_, y2, _, q2⟩ := some_end (c2 _ q1)
        exact ⟨⟨y2, 2, Nat.le_refl _, q2⟩⟩
      have C1 := Lib.hid c1
      have C2 := Lib.hid c2
      have C3 := Lib.hid c3
      have C4 := Lib.hid c4
      have C5 := Lib.hid c5
      clear c1 c2 c3 c4 c5
      have hab : ∀ p, ∀ y : Wd (Cl w w1.heap.size w2.heap.size limit tk ov (takeT limit tk ov x) (takeO limit tk ov x)) p, y.1.cell? ⟨ba, oa + k, none⟩ = some (.int .i64 x) := by
        rintro p ⟨y, i, _, hy⟩
        have hb : Below w.heap.size w y := by
          rcases i with _ | _ | i
          · exact hy.below
          · exact hy.below
          · exact hy.below
        rw [hb.cell (p := ⟨ba, oa + k, none⟩) hba]; exact hca
      have hr0 : ∀ y : Wd (Cl w w1.heap.size w2.heap.size limit tk ov (takeT limit tk ov x) (takeO limit tk ov x)) 2, y.1.cell? ⟨w2.heap.size, 0, none⟩ = some (.int .i64 limit) ∧ y.1.cell? ⟨w2.heap.size, 1, none⟩ = some (.int .i64 (limit - takeT limit tk ov x)) ∧ y.1.cell? ⟨w2.heap.size, 2, none⟩ = some (.bool (takeO limit tk ov x)) := by
        rintro ⟨y, i, hi, hy⟩
        rcases i with _ | _ | i
        · omega
        · omega
        · exact ⟨hy.r.cell 0, hy.r.cell 1, hy.r.cell 2⟩
      have hr1 := fun y => (hr0 y).1
      have hr2 := fun y => (hr0 y).2.1
      have hr3 := fun y => (hr0 y).2.2
      have hab0 := hab 0
      have esub : IntKind.i64.wrap (limit - (limit - takeT limit tk ov x)) = takeT limit tk ov x := by
        rw [IntKind.wrap_i64]; omega
      clear hr0 hab
      refine wp_region_mix (C := Cl w w1.heap.size w2.heap.size limit tk ov (takeT limit tk ov x) (takeO limit tk ov x)) [5, 11, 15, 29, 38] (by kernel_rfl) (by kernel_rfl) hCS ?_
      iterate 5 (refine mix_still (by decide) (fun K hK => ?_); go_simp; refine hK _ ?_; clear hK K)
      (refine mix_turn (by decide) (fun K hK => ?_); go_simp; refine ⟨_, C1.out, hK _ ?_⟩; clear hK K)
      iterate 5 (refine mix_still (by decide) (fun K hK => ?_); go_simp; refine hK _ ?_; clear hK K)
      (refine mix_turn (by decide) (fun K hK => ?_); go_simp; refine ⟨_, C2.out, hK _ ?_⟩; clear hK K)
      iterate 3 (refine mix_still (by decide) (fun K hK => ?_); go_simp; refine hK _ ?_; clear hK K)
      (refine mix_turn (by decide) (fun K hK => ?_); go_simp; refine ⟨_, C3.out, hK _ ?_⟩; clear hK K)
      iterate 3 (refine mix_still (by decide) (fun K hK => ?_); go_simp; refine hK _ ?_; clear hK K)
      (refine mix_from 2 (by decide) (by kernel_rfl) (fun K hK => ?_); go_simp; refine hK _ ?_; clear hK K)
      iterate 3 (refine mix_still (by decide) (fun K hK => ?_); go_simp; refine hK _ ?_; clear hK K)
      (refine mix_from 2 (by decide) (by kernel_rfl) (fun K hK => ?_); go_simp; refine hK _ ?_; clear hK K)
      iterate 5 (refine mix_still (by decide) (fun K hK => ?_); go_simp; refine hK _ ?_; clear hK K)
      (refine mix_turn (by decide) (fun K hK => ?_); go_simp; refine ⟨_, C4.out, hK _ ?_⟩; clear hK K)
      iterate 3 (refine mix_still (by decide) (fun K hK => ?_); go_simp; refine hK _ ?_; clear hK K)
      (refine mix_from 2 (by decide) (by kernel_rfl) (fun K hK => ?_); go_simp; refine hK _ ?_; clear hK K)
      iterate 4 (refine mix_still (by decide) (fun K hK => ?_); go_simp; refine hK _ ?_; clear hK K)
      (refine mix_turn (by decide) (fun K hK => ?_); go_simp; refine ⟨_, C5.out, hK _ ?_⟩; clear hK K)
      iterate 3 (refine mix_still (by decide) (fun K hK => ?_); go_simp; refine hK _ ?_; clear hK K)
      (refine mix_from 2 (by decide) (by kernel_rfl) (fun K hK => ?_); go_simp; refine hK _ ?_; clear hK K)
      iterate 2 (refine mix_still (by decide) (fun K hK => ?_); go_simp; refine hK _ ?_; clear hK K)
      refine mix_nil ?_
      intro w' hw'
      have S' : Hid (St w w1.heap.size w2.heap.size limit (takeT limit tk ov x) (takeO limit tk ov x) (takeT limit tk ov x) (takeO limit tk ov x) w') := hw'
      clear hw' esub C1 C2 C3 C4 C5 hr1 hr2 hr3 hab0 n0 n2 hCS
      go_wp2
      go_roundw
      case rel => exact ⟨k + 1, _, _, by omega, by go_num, bd.1, bd.2, S'⟩
      case measure => simp [intOf]; omega
    · go_wp2
      go_ret
      exact ⟨rfl, S.out.below⟩

theorem wf_i64 {a : Int} (h : (Lit.int .i64 a).wf = true) : -9223372036854775808 ≤ a ∧ a ≤ 9223372036854775807 := by
  simp [Lit.wf, IntKind.min, IntKind.max, IntKind.signed, IntKind.bits] at h
  omega
theorem getD_le {l : List Int} (h : ∀ x ∈ l, (Lit.int .i64 x).wf = true) (j : Nat) : l.getD j 0 ≤ 9223372036854775807 := by
  rw [List.getD_eq_getElem?_getD]
  rcases Nat.lt_or_ge j l.length with hj | hj
  · rw [List.getElem?_eq_getElem hj]; exact (wf_i64 (h _ (List.getElem_mem hj))).2
  · rw [List.getElem?_eq_none hj]; decide

theorem does_long (limit : Int) (a : Option Addr) (l : List Int) (cap : Nat) (n r b : Int) (w : World) (hl : 200 < l.length) (hb : l.length ≤ 140737488351232) :
    Calls Try.prog 3 #[.int .i64 limit, .slice a l.length cap, .int .i64 n, .int .i64 r, .int .i64 b] w fun e w' => e = .returned (.bool true) ∧ Below w.heap.size w w' := by
  go_enter Try.func3, Try.ntmps3
  go_wp2_with fail
  refine (awake_calls _).mono ?_
  rintro e w1 ⟨rfl, hw1⟩
  have W1 := Lib.hid hw1
  clear hw1
  go_wp2_with fail
  go_ret
  exact ⟨rfl, W1.out⟩

theorem does_walk (limit : Int) (a : Option Addr) (l : List Int) (cap : Nat) (n r b : Int) (w : World) (h0 : (Lit.int .i64 limit).wf = true)
    (ha : Arr w a l.length (fun j => .int .i64 (l.getD j 0))) (hb : l.length * 8 ≤ 140737488351232) (hx : ∀ x ∈ l, (Lit.int .i64 x).wf = true)
    (h1 : (Lit.int .i64 n).wf = true) (h2 : (Lit.int .i64 r).wf = true) (h3 : (Lit.int .i64 b).wf = true) :
    Calls Try.prog 3 #[.int .i64 limit, .slice a l.length cap, .int .i64 n, .int .i64 r, .int .i64 b] w fun e w' => e = .returned (.bool true) ∧ Below w.heap.size w w' := by
  by_cases hl : l.length ≤ 200
  · by_cases h : 0 ≤ limit ∧ limit ≤ 1099511627776
    · exact does_some limit a l cap n r b w hl h.1 h.2 ha (getD_le hx)
    · exact does_nil limit a l cap n r b w hl (by omega)
  · exact does_long limit a l cap n r b w (by omega) (by omega)
end Go.Proofs.Ytgppemaekgnnfaa.Mt
