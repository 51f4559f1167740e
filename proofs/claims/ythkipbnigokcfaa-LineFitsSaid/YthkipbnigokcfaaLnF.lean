/- Fill: what it computes, and that the Go code computes it. -/
import Derived.Test.YthkipbnigokcfaaLnD
import Derived.Test.YthkipbnigokcfaaLnB
import Derived.Test.YthkipbnigokcfaaMixIn
import Derived.RangeFuncWrites
namespace Go.Proofs.Ythkipbnigokcfaa.Q
open Go.RowKit Go.Shelf Go.IntWalk Go.Proofs.Ythkipbnigokcfaa.Mem Go.Proofs.YthkipbnigokcfaaW.PrintWords Go.Proofs.YthkipbnigokcfaaW.PrintLast Go.Proofs.YthkipbnigokcfaaW.PrintMore
set_option linter.unusedVariables false
set_option linter.unusedSimpArgs false
attribute [local go_sem] Oper.semAt_some

def line_Fill.f (l0 : List Pc) (a1 a2 : Int) : Option (List Pl × Int × Bool) :=
  if l0.length ≤ 1000 then (if inB a1 = true ∧ l0.any badP = false then some ((fillS l0 a1 a2).out, (fillS l0 a1 a2).top, !(fillS l0 a1 a2).rough) else some ([], 0, false)) else none

/-- The loop's book-keeping leaves the filler. -/
theorem FI.own {g : Nat} {w0 w1 : World} {room align : Int} {s : St} {v : Value} {W W' : World} {row : Option Nat} {B : Nat} (h : FI g w0 w1 room align s v W) (hg : W.grownBy W' row)
    (hr : ∀ r, row = some r → B ≤ r ∧ ∃ o : Obj, W.heap[r]? = some o ∧ o.isCells = false) (h0 : w0.heap.size ≤ B) (h1 : w1.heap.size ≤ B) : FI g w0 w1 room align s v W' := by
  refine ⟨h.box.of_block (hg.block _ h.box.lt (fun e => ?_)), Kd.R_mono (Kd.R_grown (Kd.R_bound h.row) hg (fun k hk e => ?_)) (fun _ hk => hk.1), h.below.grown hg h.below.size (fun k e => Nat.le_trans h0 (hr k e).1), h.ge, ⟨Nat.le_trans h.kept.size hg.size, fun b b1 b2 b3 => (hg.block b (Nat.lt_of_lt_of_le b1 h.kept.size) (fun e => ?_)).trans (h.kept.block b b1 b2 b3)⟩⟩
  · obtain ⟨-, o, ho, hc⟩ := hr _ e.symm
    have := h.box
    unfold Blk at this
    rw [this] at ho
    cases ho
    cases hc
  · obtain ⟨-, o, ho, hc⟩ := hr _ e.symm
    obtain ⟨-, -, -, q, -, cells, hq⟩ := hk
    rw [hq] at ho
    cases ho
    cases hc
  · have := (hr _ e.symm).1
    omega
theorem below_of {B : Nat} {w W W' : World} (h : Below B w W) (k : Below B w W') (hs : W.heap.size ≤ W'.heap.size) : Below B W W' :=
  ⟨k.os.trans h.os.symm, k.tape.trans h.tape.symm, k.output.trans h.output.symm, hs, fun b hb => (k.block b hb).trans (h.block b hb).symm⟩
theorem kept_from {g : Nat} {W W' : World} (h : Kpt g W W') {cs : Array Value} {T : TypeId} (hb : Blk W g cs T) (B : Nat) : KeepsFrom B W W' :=
  ⟨h.size, fun k o _ hk ho => (h.block k (Array.getElem?_eq_some_iff.1 hk).1 (fun e => by
      subst e
      unfold Blk at hb
      rw [hb] at hk
      cases hk
      cases ho) (fun cs fr e => by rw [e] at hk; cases hk; cases ho)).trans hk⟩

set_option maxRecDepth 100000 in
set_option maxHeartbeats 4000000 in
theorem fill_calls (A : Option Addr) (c : Nat) (l : List Pc) (room align : Int) (w : World) (hC : Kd.C k32 w A l.length l) (hc : l.length ≤ c) (hL : l.length ≤ 1000) (hin : inB room = true) (hok : l.any badP = false) :
    Calls Try.prog 9 #[.slice A l.length c, .int .i64 room, .int .i64 align] w fun e w' => ∃ v, e = .returned (.tuple #[v, .int .i64 (fillS l room align).top, .bool (!(fillS l room align).rough)]) ∧
      Kd.R k30 30 w' w.heap.size (fun _ => True) v (fillS l room align).out ∧ Below w.heap.size w w' := by
  have HC := Lib.hid hC
  have HIN := Lib.hid hin
  have HOK := Lib.hid hok
  have HLL := Lib.hid hL
  have HCC := Lib.hid hc
  clear hC hin hok hL hc
  refine (callsIn_wide (n := 5)).1 ?_
  refine callsIn_of_wp_marks Try.func9 rfl trivial ?_ rfl
  simp only [Try.ntmps9, List.size_toArray, List.length_cons, List.length_nil, Nat.reduceAdd, Nat.reduceSub, Array.replicate_succ, Array.replicate_zero, List.push_toArray, List.append_toArray, List.nil_append, List.cons_append]
  refine wpIn_wide.2 ?_
  go_wp2_with (first
    | (go_at_call 15; refine (within_calls _ _).mono ?_; rintro e w' ⟨rfl, rfl⟩; rw [HIN.out])
    | (go_at_call 16; refine (contains_calls _ _ l _ (Kd.C_below HC.out ((Below.refl _ _).alloc (Nat.le_refl _) _)) (by have := HLL.out; omega)).mono ?_; rintro e w1 ⟨rfl, hb1⟩; rw [HOK.out]; have HB1 := Lib.hid (((Below.refl _ w).alloc (Nat.le_refl _) (.cells #[.int .i64 room] 2)).trans (hb1.mono (by simp))); have HS1 := Lib.hid (show w.heap.size + 1 ≤ w1.heap.size by have := hb1.size; simpa using this); have T4 := Lib.hid ((Blk.alloc w #[.int .i64 room] 2).below hb1 (by simp)); have t4 := T4.out.cell 0; simp only [List.getElem?_toArray, List.getElem?_cons_zero] at t4; clear hb1)
    | (go_at_call 18; refine (rows_calls _ _ _ _).mono ?_; rintro e w2 ⟨rfl, rfl⟩))
  rename_i K hKK
  have HKK := Lib.hid hKK
  clear hKK t4
  have X0 := Blk.alloc w1 #[.slice none 0 0, .int .i64 0, .int .i64 0, .int .i64 0, .int .i64 0, .int .i64 0, .int .i64 room, .int .i64 align, .bool false] 47
  have X1 := Blk.alloc_at (w1.alloc (.cells #[.slice none 0 0, .int .i64 0, .int .i64 0, .int .i64 0, .int .i64 0, .int .i64 0, .int .i64 room, .int .i64 align, .bool false] 47)) (b := w1.heap.size + 1) #[.pointer (some ⟨w1.heap.size, 0, none⟩)] 45 (by simp)
  have X2 := Blk.alloc_at ((w1.alloc (.cells #[.slice none 0 0, .int .i64 0, .int .i64 0, .int .i64 0, .int .i64 0, .int .i64 0, .int .i64 room, .int .i64 align, .bool false] 47)).alloc (.cells #[.pointer (some ⟨w1.heap.size, 0, none⟩)] 45)) (b := w1.heap.size + 1 + 1) #[.slice A l.length c] 22 (by simp)
  have Y0 := Lib.hid ((X0.alloc_old (.cells #[.pointer (some ⟨w1.heap.size, 0, none⟩)] 45)).alloc_old (.cells #[.slice A l.length c] 22))
  have Y1 := Lib.hid (X1.alloc_old (.cells #[.slice A l.length c] 22))
  have Y2 := Lib.hid X2
  have YB := Lib.hid (HB1.out.alloc HB1.out.size (.cells #[.slice none 0 0, .int .i64 0, .int .i64 0, .int .i64 0, .int .i64 0, .int .i64 0, .int .i64 room, .int .i64 align, .bool false] 47) |>.alloc (by have := HS1.out; simp; omega) (.cells #[.pointer (some ⟨w1.heap.size, 0, none⟩)] 45) |>.alloc (by have := HS1.out; simp; omega) (.cells #[.slice A l.length c] 22))
  have Y4 := Lib.hid (((T4.out.alloc_old (.cells #[.slice none 0 0, .int .i64 0, .int .i64 0, .int .i64 0, .int .i64 0, .int .i64 0, .int .i64 room, .int .i64 align, .bool false] 47)).alloc_old (.cells #[.pointer (some ⟨w1.heap.size, 0, none⟩)] 45)).alloc_old (.cells #[.slice A l.length c] 22))
  clear X0 X1 X2 T4
  generalize ((w1.alloc (.cells #[.slice none 0 0, .int .i64 0, .int .i64 0, .int .i64 0, .int .i64 0, .int .i64 0, .int .i64 room, .int .i64 align, .bool false] 47)).alloc (.cells #[.pointer (some ⟨w1.heap.size, 0, none⟩)] 45)).alloc (.cells #[.slice A l.length c] 22) = W0 at Y0 Y1 Y2 Y4 YB ⊢
  have F0 := Lib.hid (show FI w1.heap.size w W0 room align st0 (.slice none 0 0) W0 from ⟨Y0.out, Kd.R_nil _ _ _ _ _, YB.out, by have := HS1.out; omega, Kpt.refl _ _⟩)
  have HR := Lib.hid (inB_in HIN.out)
  have HP := Lib.hid (ok_of_any HOK.out)
  refine (wpIn_wide (n := 5)).1 ?_
  refine wpIn_rangeFunc_ownG rfl (by decide) (gf := 24) (lb := #[.pointer (some ⟨w1.heap.size + 1 + 1, 0, none⟩)]) rfl trivial (enters_of Try.func24 (by kernel_rfl) rfl)
    (rows_stops Fence.wide (5 - 1) trivial rfl (by decide) (w1.heap.size + 1 + 1) A c l w W0 HC.out (by have := HLL.out; omega) HCC.out YB.out Y2.out)
    (fun h k => ⟨h.1.trans k.1, fun cs T hb => k.2 cs T (h.2 cs T hb)⟩) ?kb (Below.refl _ _) (fun _ => rfl)
    (fun pre W => ∃ v n, n ≤ pre.length * l.length ∧ Fine (stepAll l room align pre) n ∧ FI w1.heap.size w W0 room align (stepAll l room align pre) v W)
    (fun _ _ _ => False) ?own (fun _ _ _ _ _ hs _ _ => hs) ⟨_, 0, Nat.zero_le _, st0_fine, F0.out⟩
    (fun x => { tmps := #[.slice A l.length c, .int .i64 room, .int .i64 align, undef, .pointer (some ⟨w.heap.size, 0, none⟩), undef, .slice none 0 0, .int .i64 0, .bool false, .pointer (some ⟨(w1.heap.size + 1), 0, none⟩), .int .i64 (x.1.1 : Int), .slice (A.map (·.add (x.1.1 * 6))) x.1.2 x.1.2, .int .i64 room, .bool true, .bool false, .bool false, .slice A l.length c, .bool false, .bool false, .int .i64 room, .int .i64 align, .agg #[.slice none 0 0, .int .i64 0, .int .i64 0, .int .i64 0, .int .i64 0, .int .i64 0, .int .i64 room, .int .i64 align, .bool false], .pointer (some ⟨w1.heap.size, 0, none⟩), .slice A l.length c, .func (.func 24) #[] #[.pointer (some ⟨w1.heap.size + 1 + 1, 0, none⟩)], .int .i64 (x.1.1 : Int), .slice (A.map (·.add (x.1.1 * 6))) x.1.2 x.1.2, undef, undef, undef, undef, undef, undef, undef, undef, undef, undef, undef, undef, undef, undef, undef, undef, undef, undef, undef, undef, undef, undef, undef, undef, undef, undef, undef, undef, undef, undef, undef, undef, undef, undef, undef, undef, undef, undef], defers := [] })
    ?assign ?body ?done ?stop
  case kb =>
    intro W b o o' hb ho hc hw
    exact ⟨belowK_b (w := W0) YB.out.size W b o o' hb ho hc hw, fun cs T hx => hx.of_block (World.putObj_heap_other (by have := Y2.out.lt; omega))⟩
  case own =>
    rintro s W W' row ⟨v, n, h1, h2, h3⟩ hg hr
    exact ⟨v, n, h1, h2, h3.own hg hr YB.out.size (Nat.le_refl _)⟩
  case assign =>
    intro l x W K hK
    unfold encR
    gi_wp2
    exact hK
  case body =>
    rintro r pre x W ⟨v, n, hn, hf, hi⟩ hlt
    have hx := x.2
    have hL := HLL.out
    have hn1 : n ≤ 1000000 := Nat.le_trans hn (Nat.mul_le_mul (show pre.length ≤ 1000 by omega) hL)
    have hst := Lib.hid (stepAll_snoc l room align pre x)
    unfold stepR at hst
    have hlen : ((l.drop x.1.1).take x.1.2).length = x.1.2 := by simp; omega
    have hcr : Kd.C k32 w (A.map (·.add (x.1.1 * 6))) ((l.drop x.1.1).take x.1.2).length ((l.drop x.1.1).take x.1.2) := by
      have h1 := Kd.C_drop (m := x.1.1) (c := l.length) HC.out (by omega) (Nat.le_refl _)
      rw [if_neg (by omega)] at h1
      exact Kd.C_take (m := x.1.2) h1 (by simp; omega)
    have hokr : ∀ p ∈ (l.drop x.1.1).take x.1.2, okP p := fun p hm => HP.out p (List.mem_of_mem_drop (List.mem_of_mem_take hm))
    have hall := all_fine (align := align) HR.out HP.out (pre ++ [x])
    refine wpIn_mono (Q := Mix.onlyN fun _ W' => KeepsFrom W0.heap.size W W' ∧ KpB w.heap.size (w1.heap.size + 1 + 1) W W' ∧ ∃ v, FI w1.heap.size w W0 room align (stepAll l room align (pre ++ [x])) v W') ?_ (fun e a W' h => by
      cases e <;> first | exact h.elim | exact ⟨h.1, h.2.1, by obtain ⟨v, h3⟩ := h.2.2; obtain ⟨m, hm1, hm2⟩ := hall; exact ⟨v, m, hm1, hm2, h3⟩⟩)
    rw [hst.out]
    clear hall hst
    have BX1 := Lib.hid (hi.kept.blk Y1.out (by omega) (by decide))
    have BX2 := Lib.hid (hi.kept.blk Y2.out (by omega) (by decide))
    have BX4 := Lib.hid (hi.kept.blk Y4.out (by have := HS1.out; omega) (by decide))
    have HI := Lib.hid hi.now
    have HI0 := Lib.hid hi
    generalize stepAll l room align pre = s at HI HI0 hf ⊢
    have hafter := Lib.hid (fun (w_ : World) (hw_ : Below W.heap.size W w_) => after_calls w1.heap.size w W room align s v n _ x.1.2 _ w_ (HI.out.next hw_) hf hcr (by rw [hlen]; omega))
    rw [hlen] at hafter hcr
    have HF := Lib.hid hf
    have HCR := Lib.hid hcr
    have HOKR := Lib.hid hokr
    have HLEN := Lib.hid hlen
    have HN1 := Lib.hid hn1
    have HX := Lib.hid hx
    obtain ⟨f, hf_⟩ : ∃ f, f = x.1.1 := ⟨_, rfl⟩
    obtain ⟨m, hm_⟩ : ∃ m, m = x.1.2 := ⟨_, rfl⟩
    rw [← hf_, ← hm_] at hafter HCR HOKR HLEN HX ⊢
    clear hf_ hm_ hi hf hcr hokr hlen hn hlt hn1 hx hL
    obtain ⟨rw_, hrw⟩ : ∃ q, q = (l.drop f).take m := ⟨_, rfl⟩
    obtain ⟨A2, hA2⟩ : ∃ q, q = A.map (·.add (f * 6)) := ⟨_, rfl⟩
    rw [← hrw, ← hA2] at hafter HCR ⊢
    rw [← hrw] at HOKR HLEN
    clear hrw hA2
    obtain ⟨A1, c1, rfl⟩ := Kd.R_slice HI.out.row
    refine wpIn_block ?_
    refine wpIn_seq ?_
    refine wpIn_seq ?_
    have b9 := BX1.out.cell 0
    have b4 := BX4.out.cell 0
    have b0 := HI.out.box.cell 0
    have b1 := HI.out.box.cell 1
    simp only [FB, List.getElem?_toArray, List.getElem?_cons_zero, List.getElem?_cons_succ] at b9 b4 b0 b1
    obtain ⟨C, hC⟩ : ∃ C : Nat → World → Prop, C = fun _ w_ => Below W.heap.size W w_ := ⟨_, rfl⟩
    have HCI : Hid (∀ i w_, C i w_ ↔ Below W.heap.size W w_) := Lib.hid (fun i w_ => by rw [hC])
    clear hC
    have ne : Nonempty (Mix.Wd C 0) := ⟨⟨W, 0, Nat.le_refl _, (HCI.out _ _).2 (Below.refl _ _)⟩⟩
    have q9 : ∀ q : Mix.Wd C 0, q.1.cell? ⟨w1.heap.size + 1, 0, none⟩ = some (.pointer (some ⟨w1.heap.size, 0, none⟩)) := fun ⟨w_, i, _, hw⟩ => (((HCI.out _ _).1 hw).cell (p := ⟨w1.heap.size + 1, 0, none⟩) BX1.out.lt).trans b9
    have q4 : ∀ q : Mix.Wd C 0, q.1.cell? ⟨w.heap.size, 0, none⟩ = some (.int .i64 room) := fun ⟨w_, i, _, hw⟩ => (((HCI.out _ _).1 hw).cell (p := ⟨w.heap.size, 0, none⟩) BX4.out.lt).trans b4
    have q0 : ∀ q : Mix.Wd C 0, q.1.cell? ⟨w1.heap.size, 0, none⟩ = some (.slice A1 s.out.length c1) := fun ⟨w_, i, _, hw⟩ => (((HCI.out _ _).1 hw).cell (p := ⟨w1.heap.size, 0, none⟩) HI.out.box.lt).trans b0
    have q1 : ∀ q : Mix.Wd C 0, q.1.cell? ⟨w1.heap.size, 1, none⟩ = some (.int .i64 s.op) := fun ⟨w_, i, _, hw⟩ => (((HCI.out _ _).1 hw).cell (p := ⟨w1.heap.size, 1, none⟩) HI.out.box.lt).trans b1
    clear b9 b4 b0 b1
    refine Mix.wpIn_region_mix r _ C [2] (by kernel_rfl) (by kernel_rfl) (by kernel_rfl) ((HCI.out _ _).2 (below_drew (Below.refl _ _))) ?_
    iterate 2 (refine Mix.mix_still (by decide) (fun K hK => ?_); go_simp; refine hK _ ?_; clear hK K)
    refine Mix.mix_turn (by decide) (fun K hK => ?_)
    go_simp
    refine ⟨.int .i64 (s.after rw_), fun w_ hw_ => ?_, hK _ ?_⟩
    · exact (hafter.out w_ ((HCI.out _ _).1 hw_)).mono fun e w2 ⟨h1, h2⟩ => ⟨h1, (HCI.out _ _).2 (((HCI.out _ _).1 hw_).trans (h2.mono ((HCI.out _ _).1 hw_).size))⟩
    clear hK K
    obtain ⟨af, haf⟩ : ∃ q, q = s.after rw_ := ⟨_, rfl⟩
    rw [← haf]
    rw [← haf] at hafter
    have HAF := Lib.hid haf
    clear haf hafter
    have hput := fun (t : St) (v : Value) (w_ : World) (h : FI w1.heap.size w W room align t v w_) (hf : Fine t n) => put_calls w1.heap.size w W room align t v n f A2 m rw_ w_ h hf (by rw [HLEN.out]; exact HCR.out) HOKR.out (by have := HX.out; have := HN1.out; have := HLL.out; have := HLEN.out; omega) (by omega) (by have := HX.out; have := HLL.out; omega)
    rw [HLEN.out] at hput
    have HPUT := Lib.hid hput
    clear hput
    by_cases i1 : room < af
    · by_cases i2 : (s.op : Int) < (s.out.length : Int)
      · have hgo := Lib.hid (show (s.after rw_ > room ∧ s.op < s.out.length) from ⟨by rw [← HAF.out]; exact i1, by omega⟩)
        have hrow : s.row room align f rw_ = (s.fin room align).put f rw_ := by unfold St.row; rw [if_pos hgo.out]
        rw [hrow]
        iterate 14 (refine Mix.mix_still (by decide) (fun K hK => ?_); go_simp; refine hK _ ?_; clear hK K)
        refine Mix.mix_nil ?_
        intro w_ hw_
        have hb := Lib.hid ((HCI.out _ _).1 hw_)
        clear hw_ q9 q4 q0 q1 ne
        have HI2 := Lib.hid (HI.out.next hb.out)
        have c9 := (BX1.out.below hb.out BX1.out.lt).cell 0
        simp only [List.getElem?_toArray, List.getElem?_cons_zero] at c9
        show Code.wpIn _ _ _ _ _ _ _
        gi_wp2_with (first
          | (refine ⟨trivial, ?_⟩; gi_at_call 20; refine (CallsIn.inRound r (callsIn_wide.2 (end_calls w1.heap.size w W room align s _ n _ HI2.out HF.out HR.out (by have := HN1.out; omega)))).mono ?_; rintro e w3 ⟨rfl, v3, h3⟩; have HI3 := Lib.hid h3; have c9' := (HI3.out.kept.blk BX1.out (by omega) (by decide)).cell 0; simp only [List.getElem?_toArray, List.getElem?_cons_zero] at c9'; clear h3 c9)
          | (refine ⟨trivial, ?_⟩; gi_at_call 21; refine (CallsIn.inRound r (callsIn_wide.2 (HPUT.out (s.fin room align) _ _ HI3.out (fin_fine HF.out HR.out)))).mono ?_; rintro e w4 ⟨rfl, v4, h4⟩; have HI4 := Lib.hid h4; clear h4))
        have HK := Lib.hid HI4.out.kept
        refine ⟨kept_from HK.out HI.out.box _, ⟨below_of HI0.out.below HI4.out.below HK.out.size, fun cs T hx => ?_⟩, v4, HI4.out.box, HI4.out.row, HI4.out.below, HI4.out.ge, HI0.out.kept.trans HK.out⟩
        have hx2 := BX2.out
        unfold Blk at hx hx2
        rw [hx2] at hx
        cases hx
        exact HK.out.blk BX2.out (by omega) (by decide)
      · have hgo := Lib.hid (show ¬ (s.after rw_ > room ∧ s.op < s.out.length) from fun h => i2 (by have := h.2; omega))
        have hrow : s.row room align f rw_ = s.put f rw_ := by unfold St.row; rw [if_neg hgo.out]
        rw [hrow]
        iterate 14 (refine Mix.mix_still (by decide) (fun K hK => ?_); go_simp; refine hK _ ?_; clear hK K)
        refine Mix.mix_nil ?_
        intro w_ hw_
        have hb := Lib.hid ((HCI.out _ _).1 hw_)
        clear hw_ q9 q4 q0 q1 ne
        have HI2 := Lib.hid (HI.out.next hb.out)
        have c9 := (BX1.out.below hb.out BX1.out.lt).cell 0
        simp only [List.getElem?_toArray, List.getElem?_cons_zero] at c9
        show Code.wpIn _ _ _ _ _ _ _
        gi_wp2_with (refine ⟨trivial, ?_⟩; gi_at_call 21; refine (CallsIn.inRound r (callsIn_wide.2 (HPUT.out s _ _ HI2.out HF.out))).mono ?_; rintro e w4 ⟨rfl, v4, h4⟩; have HI4 := Lib.hid h4; clear h4)
        have HK := Lib.hid HI4.out.kept
        refine ⟨kept_from HK.out HI.out.box _, ⟨below_of HI0.out.below HI4.out.below HK.out.size, fun cs T hx => ?_⟩, v4, HI4.out.box, HI4.out.row, HI4.out.below, HI4.out.ge, HI0.out.kept.trans HK.out⟩
        have hx2 := BX2.out
        unfold Blk at hx hx2
        rw [hx2] at hx
        cases hx
        exact HK.out.blk BX2.out (by omega) (by decide)
    · have hgo := Lib.hid (show ¬ (s.after rw_ > room ∧ s.op < s.out.length) from fun h => i1 (by rw [HAF.out]; exact h.1))
      have hrow : s.row room align f rw_ = s.put f rw_ := by unfold St.row; rw [if_neg hgo.out]
      rw [hrow]
      iterate 14 (refine Mix.mix_still (by decide) (fun K hK => ?_); go_simp; refine hK _ ?_; clear hK K)
      refine Mix.mix_nil ?_
      intro w_ hw_
      have hb := Lib.hid ((HCI.out _ _).1 hw_)
      clear hw_ q9 q4 q0 q1 ne
      have HI2 := Lib.hid (HI.out.next hb.out)
      have c9 := (BX1.out.below hb.out BX1.out.lt).cell 0
      simp only [List.getElem?_toArray, List.getElem?_cons_zero] at c9
      show Code.wpIn _ _ _ _ _ _ _
      gi_wp2_with (refine ⟨trivial, ?_⟩; gi_at_call 21; refine (CallsIn.inRound r (callsIn_wide.2 (HPUT.out s _ _ HI2.out HF.out))).mono ?_; rintro e w4 ⟨rfl, v4, h4⟩; have HI4 := Lib.hid h4; clear h4)
      have HK := Lib.hid HI4.out.kept
      refine ⟨kept_from HK.out HI.out.box _, ⟨below_of HI0.out.below HI4.out.below HK.out.size, fun cs T hx => ?_⟩, v4, HI4.out.box, HI4.out.row, HI4.out.below, HI4.out.ge, HI0.out.kept.trans HK.out⟩
      have hx2 := BX2.out
      unfold Blk at hx hx2
      rw [hx2] at hx
      cases hx
      exact HK.out.blk BX2.out (by omega) (by decide)
  case done =>
    rintro D xs W hD rfl ⟨v, n, hn, hf, hi⟩ hK
    have hL := HLL.out
    have hn1 : n ≤ 1000000 := Nat.le_trans hn (Nat.mul_le_mul (show ((itr l l.length).1).length ≤ 1000 by have := (itr_le l l.length).2; omega) hL)
    have HFS := Lib.hid (fill_step l room align)
    have BX1 := Lib.hid (hi.kept.blk Y1.out (by omega) (by decide))
    have HI := Lib.hid hi.now
    have HI0 := Lib.hid hi
    generalize stepAll l room align (itr l l.length).1 = s at HFS HI HI0 hf
    have HF := Lib.hid hf
    have HN1 := Lib.hid hn1
    have HK := Lib.hid hK
    have HD := Lib.hid hD
    clear hi hf hn hn1 hK hD hL
    have b9 := BX1.out.cell 0
    simp only [List.getElem?_toArray, List.getElem?_cons_zero] at b9
    show K _ _
    refine HKK.out _ _ ?_
    clear HKK
    go_wp2_with (go_at_call 20; refine (end_calls w1.heap.size w W room align s _ n _ HI.out HF.out HR.out (by have := HN1.out; omega)).mono ?_; rintro e w3 ⟨rfl, v3, h3⟩; rw [HFS.out] at h3; have HI3 := Lib.hid h3; have BX3 := Lib.hid (h3.kept.blk BX1.out (by omega) (by decide)); clear h3 b9)
    obtain ⟨A3, c3, rfl⟩ := Kd.R_slice HI3.out.row
    have HK3 := Lib.hid (HI3.out.kept)
    have c9 := BX3.out.cell 0
    have b0 := HI3.out.box.cell 0
    have b5 := HI3.out.box.cell 5
    have b8 := HI3.out.box.cell 8
    simp only [FB, List.getElem?_toArray, List.getElem?_cons_zero, List.getElem?_cons_succ] at c9 b0 b5 b8
    go_still (by kernel_rfl)
    clear c9 b0 b5 b8
    show Exit.then _ _ _ _ w3.drew
    have HI4 := Lib.hid (HI3.out.next (below_drew (Below.refl _ _)))
    generalize w3.drew = w4 at HI4 ⊢
    go_wp2
    have hKD : w4.heap[D]? = some (.deferred (some [])) := (kept_from HI4.out.kept HI.out.box D).same D _ (Nat.le_refl _) HK.out rfl
    refine ⟨by simp, .inl ⟨_, _, rfl, run_takeDeferred hKD, ?_⟩⟩
    have hfin : FI w1.heap.size w W0 room align (fillS l room align) (.slice A3 (fillS l room align).out.length c3) (w4.putObj D (.deferred none)) :=
      FI.own (B := D) (w1 := W0) ⟨HI4.out.box, HI4.out.row, HI4.out.below, HI4.out.ge, HI0.out.kept.trans HI4.out.kept⟩ (grownBy_putObj' w4 D _) (fun r e => by cases e; exact ⟨Nat.le_refl _, _, hKD, rfl⟩) (Nat.le_trans YB.out.size HD.out) HD.out
    exact ⟨_, results_tmp3 rfl _ _ _, _, rfl, hfin.row, hfin.below⟩
  case stop =>
    rintro D c pre W _ _ h _
    exact h.elim

set_option maxHeartbeats 1000000 in
theorem fill_bad (A : Option Addr) (c : Nat) (l : List Pc) (room align : Int) (w : World) (hC : Kd.C k32 w A l.length l) (hL : l.length ≤ 1000) (hbad : ¬ (inB room = true ∧ l.any badP = false)) :
    Calls Try.prog 9 #[.slice A l.length c, .int .i64 room, .int .i64 align] w fun e w' => ∃ v, e = .returned (.tuple #[v, .int .i64 0, .bool false]) ∧
      Kd.R k30 30 w' w.heap.size (fun _ => True) v ([] : List Pl) ∧ Below w.heap.size w w' := by
  have HC := Lib.hid hC
  have HLL := Lib.hid hL
  clear hC hL
  rcases Bool.eq_false_or_eq_true (inB room) with h1 | h1
  · have h2 : l.any badP = true := by
      cases h : l.any badP with
      | true => rfl
      | false => exact (hbad ⟨h1, h⟩).elim
    have HIN := Lib.hid h1
    have HBAD := Lib.hid h2
    clear h1 h2 hbad
    go_enter Try.func9, Try.ntmps9
    go_wp2_with (first
      | (go_at_call 15; refine (within_calls _ _).mono ?_; rintro e w' ⟨rfl, rfl⟩; rw [HIN.out])
      | (go_at_call 16; refine (contains_calls _ _ l _ (Kd.C_below HC.out ((Below.refl _ _).alloc (Nat.le_refl _) _)) (by have := HLL.out; omega)).mono ?_; rintro e w1 ⟨rfl, hb1⟩; rw [HBAD.out]; have HB1 := Lib.hid (((Below.refl _ w).alloc (Nat.le_refl _) (.cells #[.int .i64 room] 2)).trans (hb1.mono (by simp))); clear hb1))
    go_ret3
    exact ⟨_, rfl, Kd.R_nil _ _ _ _ _, HB1.out⟩
  · have HIN := Lib.hid h1
    clear h1 hbad
    go_enter Try.func9, Try.ntmps9
    go_wp2_with (go_at_call 15; refine (within_calls _ _).mono ?_; rintro e w' ⟨rfl, rfl⟩; rw [HIN.out])
    go_ret3
    exact ⟨_, rfl, Kd.R_nil _ _ _ _ _, (Below.refl _ _).alloc (Nat.le_refl _) _⟩

theorem line_Fill.calls (A0 : Option Addr) (c0 : Nat) (l0 : List Pc) (a1 a2 : Int) (r0 : List Pl) (r1 : Int) (r2 : Bool) (w : World) (hr0 : Kd.C k32 w A0 l0.length l0) (hc0 : l0.length ≤ c0) (h : line_Fill.f l0 a1 a2 = some (r0, r1, r2)) :
    Calls Try.prog 9 #[.slice A0 l0.length c0, .int .i64 a1, .int .i64 a2] w fun e w' => ∃ v, e = .returned (.tuple #[v, .int .i64 r1, .bool r2]) ∧ Kd.R k30 30 w' w.heap.size (fun _ => True) v r0 ∧ Below w.heap.size w w' := by
  unfold line_Fill.f at h
  split at h
  · rename_i hl
    split at h
    · rename_i hg
      simp only [Option.some.injEq, Prod.mk.injEq] at h
      obtain ⟨rfl, rfl, rfl⟩ := h
      exact fill_calls A0 c0 l0 a1 a2 w hr0 hc0 hl hg.1 hg.2
    · rename_i hg
      simp only [Option.some.injEq, Prod.mk.injEq] at h
      obtain ⟨rfl, rfl, rfl⟩ := h
      exact fill_bad A0 c0 l0 a1 a2 w hr0 hl hg
  · cases h
end Go.Proofs.Ythkipbnigokcfaa.Q
