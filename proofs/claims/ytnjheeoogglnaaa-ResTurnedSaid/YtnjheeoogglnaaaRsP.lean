/- The public part of a table: slices.Clone and Public: what each computes, and that the Go code computes it. -/
import Derived.Test.YtnjheeoogglnaaaRsF
import Derived.Lib.SliceRun
import Derived.Outline
namespace Go.Proofs.Ytnjheeoogglnaaa.R
open Go.RowKit Go.Proofs.Ytnjheeoogglnaaa.Mem Go.Proofs.YtnjheeoogglnaaaW.PrintWords Go.Proofs.YtnjheeoogglnaaaW.PrintLast Go.Proofs.YtnjheeoogglnaaaW.PrintMore
set_option linter.unusedVariables false
set_option linter.unusedSimpArgs false

theorem clone_nil (c0 : Nat) (l : List S47) (w : World) :
    Calls Try.prog 39 #[.slice none l.length c0] w fun e w' => e = .returned (.slice none 0 0) ∧ w = w' := by
  have e1 := fun (W : World) => Lib.run_eql_slice_nil (P := Try.prog) W 22 47 none l.length c0 0 0 Try.underlying22
  go_enter Try.func39, Try.ntmps39
  go_wp2_with fail
  go_ret
  exact ⟨rfl, rfl⟩
theorem R_none (W : World) (base : Nat) (hb : base ≤ W.heap.size) : Kd.R k47 47 (W.alloc (.cells #[] 47)) base (fun _ => True) (.slice (some ⟨W.heap.size, 0, none⟩) 0 0) [] :=
  ⟨fun _ _ => trivial, OwnRow.lit W base (inner := []) (Reps.none _ _) hb (by simp)⟩
theorem clone_some (ad : Addr) (c0 : Nat) (l : List S47) (w : World) (hr0 : Kd.C k47 w (some ad) l.length l) (hl : l.length < 3518437208883) :
    Calls Try.prog 39 #[.slice (some ad) l.length c0] w fun e w' => ∃ v0, e = .returned v0 ∧ Kd.R k47 47 w' w.heap.size (fun _ => True) v0 l ∧ Below w.heap.size w w' := by
  have HR := Lib.hid hr0
  clear hr0
  have e1 := fun (W : World) => Lib.run_eql_slice_nil (P := Try.prog) W 22 47 (some ad) l.length c0 0 0 Try.underlying22
  have hB : Below w.heap.size w (w.alloc (.cells #[] 47)) := (Below.refl _ _).alloc (Nat.le_refl _) _
  have HB := Lib.hid hB
  clear hB
  go_enter Try.func39, Try.ntmps39
  go_wp2_with (at_builtin; refine Kd.R_append_rows k47 (w0 := w) w.heap.size rfl (.tmp 5) (.tmp 6) 22 47 (.agg #[.string ⟨#[]⟩, .int .i64 0, .int .i64 0, .bool false]) 40 rfl Try.underlying22 info47 rfl (by decide) (by omega) (.slice (some ⟨w.heap.size, 0, none⟩) 0 0) [] l (some ad) l.length c0 (fun _ => True) (fun _ => False) rfl rfl (R_none w _ (Nat.le_refl _)) (Kd.C_below HR.out HB.out) (fun _ _ h => h) (fun _ h => h.elim) (fun _ _ => trivial) HB.out (by simp) (by simp; omega) ?_; intro v1 w1 h1 h2 h3 h4; have H1 := Lib.hid h1; have H2 := Lib.hid h2; clear h1 h2 h3 h4)
  go_ret
  exact ⟨_, rfl, by simpa using H1.out, H2.out⟩

theorem clone_calls (A0 : Option Addr) (c0 : Nat) (l : List S47) (w : World) (hr0 : Kd.C k47 w A0 l.length l) (hl : l.length < 3518437208883) :
    Calls Try.prog 39 #[.slice A0 l.length c0] w fun e w' => ∃ A1 c1, e = .returned (.slice A1 l.length c1) ∧ Kd.R k47 47 w' w.heap.size (fun _ => True) (.slice A1 l.length c1) l ∧ Below w.heap.size w w' := by
  rcases A0 with _ | ad
  · have h0 : l = [] := by
      rcases l with _ | ⟨x, l⟩
      · rfl
      · obtain ⟨ad, _, h, _⟩ := Kd.C_get hr0 z47 0 (by omega) (by simp)
        cases h
    subst h0
    exact (clone_nil c0 [] w).mono fun e w' ⟨he, hw⟩ => ⟨none, 0, he, hw ▸ Kd.R_nil _ _ _ _ _, hw ▸ Below.refl _ _⟩
  · exact (clone_some ad c0 l w hr0 hl).mono fun e w' ⟨v0, he, h1, h2⟩ => by
      obtain ⟨A, c, rfl⟩ := Kd.R_slice h1
      exact ⟨A, c, he, h1, h2⟩

/-- What is public of an image. -/
def pub (x : S47) : S47 := if x.f3 = true then x else ⟨x.f0, 0, 0, false⟩
def pubTo (k : Nat) (l : List S47) : List S47 := (l.take k).map pub ++ l.drop k
theorem pubTo_length (k : Nat) (l : List S47) (h : k ≤ l.length) : (pubTo k l).length = l.length := by unfold pubTo; simp; omega
theorem pubTo_get (k : Nat) (l : List S47) (h : k < l.length) : (pubTo k l).getD k z47 = l[k] := by
  unfold pubTo
  rw [List.getD_eq_getElem?_getD, List.getElem?_append_right (by simp; omega)]
  simp [List.getElem?_drop, h, Nat.min_eq_left (Nat.le_of_lt h)]
theorem pubTo_succ (k : Nat) (l : List S47) (h : k < l.length) : pubTo (k + 1) l = (pubTo k l).set k (pub l[k]) := by
  unfold pubTo
  rw [List.take_succ_eq_append_getElem h, List.map_append, List.set_append_right _ _ (by simp; omega)]
  have e : k - ((l.take k).map pub).length = 0 := by simp; omega
  rw [e]
  conv => rhs; rw [List.drop_eq_getElem_cons h]
  rw [List.set_cons_zero]
  simp
theorem pubTo_zero (l : List S47) : pubTo 0 l = l := by simp [pubTo]
theorem pubTo_all (l : List S47) : pubTo l.length l = l.map pub := by simp [pubTo]
theorem pubTo_same (k : Nat) (l : List S47) (h : k < l.length) (ho : l[k].f3 = true) : pubTo (k + 1) l = pubTo k l := by
  rw [pubTo_succ k l h]
  have hp : pub l[k] = l[k] := by unfold pub; rw [if_pos ho]
  rw [hp]
  have hk : k < (pubTo k l).length := by rw [pubTo_length k l (by omega)]; exact h
  have hg : (pubTo k l)[k] = l[k] := by
    have := pubTo_get k l h
    rwa [List.getD_eq_getElem?_getD, List.getElem?_eq_getElem hk, Option.getD_some] at this
  rw [← hg, List.set_getElem_self]

theorem row_far {d : Kd S47} {e B : Nat} {ok : Nat → Prop} {w w1 : World} {v : Value} {xs : List S47} (h : Kd.R d e w B ok v xs) (hm : ∀ k, B ≤ k → w1.heap[k]? = w.heap[k]?) : Kd.R d e w1 B ok v xs :=
  Kd.R_mono (Kd.R_move (Kd.R_bound h) (fun k hk => hm k hk.2.1)) (fun _ hk => hk.1)
structure PubI (w : World) (l : List S47) (adv : Int) (o : Bool) (v0 : Value) (k : Nat) (wr : World) : Prop where
  box : Blk wr w.heap.size #[v0, .int .i64 adv, .bool o] 26
  res : Blk wr (w.heap.size + 1) #[.slice none 0 0, .int .i64 0, .bool false] 26
  row : Kd.R k47 47 wr (w.heap.size + 2) (fun _ => True) v0 (pubTo k l)
  below : Below w.heap.size w wr
theorem PubI.next {w : World} {l : List S47} {adv : Int} {o : Bool} {v0 : Value} {k k' : Nat} {wr wr' : World} (h : PubI w l adv o v0 k wr) (hb : Below wr.heap.size wr wr') (hk : pubTo k' l = pubTo k l) : PubI w l adv o v0 k' wr' :=
  ⟨h.box.below hb h.box.lt, h.res.below hb h.res.lt, by rw [hk]; exact Kd.R_below h.row hb, h.below.trans (hb.mono h.below.size)⟩

theorem sizeImage : (Try.prog.info? 47).map (·.size) = some 4 := by kernel_rfl
set_option maxHeartbeats 2000000 in
theorem public_calls (A0 : Option Addr) (c0 : Nat) (l : List S47) (adv : Int) (o : Bool) (w : World) (hr0 : Kd.C k47 w A0 l.length l) (hl : l.length < 3518437208883) :
    Calls Try.prog 22 #[.agg #[.slice A0 l.length c0, .int .i64 adv, .bool o]] w fun e w' => ∃ v0_ : Value, e = .returned (.agg #[v0_, .int .i64 (if o = true then adv else 0), .bool o]) ∧ Kd.R k47 47 w' w.heap.size (fun _ => True) v0_ (l.map pub) ∧ Below w.heap.size w w' := by
  have HR := Lib.hid hr0
  clear hr0
  go_enter Try.func22, Try.ntmps22
  go_wp2_with fail
  have B0 : Below w.heap.size w ((w.alloc (.cells #[.slice A0 l.length c0, .int .i64 adv, .bool o] 26)).alloc (.cells #[.slice none 0 0, .int .i64 0, .bool false] 26)) := ((Below.refl _ _).alloc (Nat.le_refl _) _).alloc (by simp) _
  have X0 : Blk ((w.alloc (.cells #[.slice A0 l.length c0, .int .i64 adv, .bool o] 26)).alloc (.cells #[.slice none 0 0, .int .i64 0, .bool false] 26)) w.heap.size #[.slice A0 l.length c0, .int .i64 adv, .bool o] 26 := (Blk.alloc w _ _).alloc_old _
  have X1 : Blk ((w.alloc (.cells #[.slice A0 l.length c0, .int .i64 adv, .bool o] 26)).alloc (.cells #[.slice none 0 0, .int .i64 0, .bool false] 26)) (w.heap.size + 1) #[.slice none 0 0, .int .i64 0, .bool false] 26 := Blk.alloc_at _ _ _ (by simp)
  have X2 : ((w.alloc (.cells #[.slice A0 l.length c0, .int .i64 adv, .bool o] 26)).alloc (.cells #[.slice none 0 0, .int .i64 0, .bool false] 26)).heap.size = w.heap.size + 2 := by simp
  generalize (w.alloc (.cells #[.slice A0 l.length c0, .int .i64 adv, .bool o] 26)).alloc (.cells #[.slice none 0 0, .int .i64 0, .bool false] 26) = W0 at B0 X0 X1 X2 ⊢
  refine (clone_calls A0 c0 l W0 (Kd.C_below HR.out B0) hl).mono ?_
  rintro e w1 ⟨A1, c1, rfl, hR, hb⟩
  have Y0 := X0.below hb X0.lt
  have Y1 := X1.below hb X1.lt
  have B1 := B0.trans (hb.mono B0.size)
  have P1 : Hid (PubI w l adv o (.slice A1 l.length c1) 0 (w1.setCell ⟨w.heap.size, 0, none⟩ (.slice A1 l.length c1))) := by
    refine ⟨Y0.set 0 _, Y1.setCell_other _ (by simp), ?_, B1.setCell (Nat.le_refl _) _⟩
    rw [pubTo_zero]
    exact Kd.R_set (X2 ▸ hR) Y0 (by decide) _ _
  have y0 := Y0.cell 0
  have y1 := Y0.cell 1
  have y2 := Y0.cell 2
  have f0 := Y0.free 0
  simp only [List.getElem?_toArray, List.getElem?_cons_zero, List.getElem?_cons_succ] at y0 y1 y2
  clear hR hb Y0 Y1 B1 B0 X0 X1 X2
  go_wp2_with fail
  clear y0 y1 y2 f0
  generalize w1.setCell ⟨w.heap.size, 0, none⟩ (.slice A1 l.length c1) = W1 at P1 ⊢
  go_loopw [12] (fun i wr => ∃ k : Nat, k ≤ l.length ∧ i = .int .i64 k ∧ Hid (PubI w l adv o (.slice A1 l.length c1) k wr)) (fun i wr => l.length - (intOf i).toNat)
  case atStart => exact ⟨0, Nat.zero_le _, rfl, P1⟩
  case round =>
    obtain ⟨k, hk, rfl, P⟩ := hrel
    clear P1
    by_cases hlt : k < l.length
    · obtain ⟨g, cap, hv, hg1, hg2, cells, hcell⟩ := Kd.R_form P.out.row (by rw [pubTo_length k l hk]; omega)
      simp only [Value.slice.injEq] at hv
      obtain ⟨rfl, -, rfl⟩ := hv
      obtain ⟨c, hcl, hcM, hcc, hcf⟩ := Kd.R_elem P.out.row z47 (k : Int) (by omega) (by omega)
      rw [Int.toNat_natCast, pubTo_get k l hlt] at hcM
      have hc4 := k47_openM hcM
      have e0 := hcc 0 _ (by rw [hc4]; rfl)
      have e1 := hcc 1 _ (by rw [hc4]; rfl)
      have e2 := hcc 2 _ (by rw [hc4]; rfl)
      have e3 := hcc 3 _ (by rw [hc4]; rfl)
      have hS : Hid (l[k].f3 = true → pubTo (k + 1) l = pubTo k l) := Lib.hid (pubTo_same k l hlt)
      have hN : Hid (pubTo (k + 1) l = (pubTo k l).set k (pub l[k])) := Lib.hid (pubTo_succ k l hlt)
      generalize hx : l[k] = x at *
      obtain ⟨x0, x1, x2, x3⟩ := x
      have sz : (k47 : Kd S47).sz = 4 := rfl
      simp only [Int.toNat_natCast, sz, Nat.add_zero] at e0 e1 e2 e3
      have y0 := P.out.box.cell 0
      have HG := Lib.hid hg2
      have HC := Lib.hid hcell
      have H4 := Lib.hid hc4
      have HCC := Lib.hid hcc
      have HCL := Lib.hid hcl
      have HCM := Lib.hid hcM
      have z0 := hcf 0
      have z1 := hcf 1
      have z2 := hcf 2
      have z3 := hcf 3
      simp only [Int.toNat_natCast, sz, Nat.add_zero] at z0 z1 z2 z3
      have hA : Below wr.heap.size wr (wr.alloc (.cells #[.string x0, .int .i64 x1, .int .i64 x2, .bool x3] 47)) := (Below.refl _ _).alloc (Nat.le_refl _) _
      have HA := Lib.hid hA
      clear hc4 hcc hcf hcl hcM hx hcell sz hA
      simp only [List.getElem?_toArray, List.getElem?_cons_zero] at y0
      have sz1 : w.heap.size + 1 < wr.heap.size := P.out.res.lt
      have sz2 : w.heap.size < wr.heap.size := P.out.box.lt
      cases x3
      · go_wp2_with fail
        go_roundw
        case rel =>
          refine ⟨k + 1, by omega, by go_num, Lib.hid (PubI.next (k := k + 1) ?_ ((Below.refl _ _).alloc (Nat.le_refl _) _) rfl)⟩
          have hs := (Kd.R_seg (x' := ⟨x0, 0, 0, false⟩) (okp := fun _ => False) (c := c) (seg := [.string x0, .int .i64 0, .int .i64 0, .bool false]) (j := 0) P.out.row (k : Int) (by omega) (by omega) HCL.out HCC.out (Nat.le_refl 4) (by rw [H4.out]; exact k47_mkM _ _ _ ⟨x0, 0, 0, false⟩) (fun _ hf => hf.elim)).1
          refine ⟨(((P.out.box.setCell_other _ ?_).setCell_other _ ?_).setCell_other _ ?_).setCell_other _ ?_, (((P.out.res.setCell_other _ ?_).setCell_other _ ?_).setCell_other _ ?_).setCell_other _ ?_, ?_, (((P.out.below.setCell ?_ _).setCell ?_ _).setCell ?_ _).setCell ?_ _⟩
          all_goals first | (simp; omega) | skip
          rw [hN.out]
          rw [Int.toNat_natCast] at hs
          exact hs
        case measure => simp [intOf]; omega
      · go_wp2_with fail
        go_roundw
        case rel => exact ⟨k + 1, by omega, by go_num, Lib.hid (P.out.next ((Below.refl _ _).alloc (Nat.le_refl _) _) (hS.out rfl))⟩
        case measure => simp [intOf]; omega
    · have hkl : Hid (pubTo k l = l.map pub) := Lib.hid (by rw [show k = l.length from by omega, pubTo_all])
      have y0 := P.out.box.cell 0
      have y1 := P.out.box.cell 1
      have y2 := P.out.box.cell 2
      have f0 := P.out.box.free 0
      have f1 := P.out.box.free 1
      have f2 := P.out.box.free 2
      have r0 := P.out.res.cell 0
      have r1 := P.out.res.cell 1
      have r2 := P.out.res.cell 2
      have g0 := P.out.res.free 0
      have g1 := P.out.res.free 1
      have g2 := P.out.res.free 2
      simp only [List.getElem?_toArray, List.getElem?_cons_zero, List.getElem?_cons_succ] at y0 y1 y2 r0 r1 r2
      have N1 := P.out.res
      have R0 := Lib.hid P.out.row
      have K0 := Lib.hid P.out.box
      have K1 := Lib.hid P.out.res
      have BB := Lib.hid P.out.below
      clear N1
      have hz : w.heap.size + 1 < wr.heap.size := K1.out.lt
      cases o
      · go_wp2_with fail
        refine bodyPost_ret (v := .agg #[.slice A1 l.length c1, .int .i64 0, .bool false]) (by simp [results, Try.results22, go_sem, r0, r1, r2]) rfl ⟨_, rfl, ?_, ?_⟩
        · rw [← hkl.out]
          refine Kd.R_lower (row_far R0.out (fun q hq => ?_)) (show w.heap.size ≤ w.heap.size + 2 by omega)
          repeat rw [Below.heap_setCell _ _ _ _ (by simp; omega)]
        · repeat (first | exact BB.out | refine Below.setCell ?_ (by first | (simp; done) | (simp; omega)) _)
      · go_wp2_with fail
        refine bodyPost_ret (v := .agg #[.slice A1 l.length c1, .int .i64 adv, .bool true]) (by simp [results, Try.results22, go_sem, r0, r1, r2]) rfl ⟨_, rfl, ?_, ?_⟩
        · rw [← hkl.out]
          refine Kd.R_lower (row_far R0.out (fun q hq => ?_)) (show w.heap.size ≤ w.heap.size + 2 by omega)
          repeat rw [Below.heap_setCell _ _ _ _ (by simp; omega)]
        · repeat (first | exact BB.out | refine Below.setCell ?_ (by first | (simp; done) | (simp; omega)) _)

def res_Public.f (l0_0 : List S47) (a0_1 : Int) (a0_2 : Bool) : Option (List S47 × Int × Bool) :=
  if l0_0.length < 3518437208883 then some (l0_0.map pub, (if a0_2 = true then a0_1 else 0), a0_2) else none
theorem res_Public.calls (A0_0 : Option Addr) (c0_0 : Nat) (l0_0 : List S47) (a0_1 : Int) (a0_2 : Bool) (r1 : List S47) (r2 : Int) (r3 : Bool) (w : World) (hr0_0 : Kd.C k47 w A0_0 l0_0.length l0_0) (hc0_0 : l0_0.length ≤ c0_0) (h : res_Public.f l0_0 a0_1 a0_2 = some (r1, r2, r3)) :
    Calls Try.prog 22 #[.agg #[.slice A0_0 l0_0.length c0_0, .int .i64 a0_1, .bool a0_2]] w fun e w' => ∃ v0_ : Value, e = .returned (.agg #[v0_, .int .i64 r2, .bool r3]) ∧ Kd.R k47 47 w' w.heap.size (fun _ => True) v0_ r1 ∧ Below w.heap.size w w' := by
  unfold res_Public.f at h
  by_cases hl : l0_0.length < 3518437208883
  · rw [if_pos hl] at h
    simp only [Option.some.injEq, Prod.mk.injEq] at h
    obtain ⟨rfl, rfl, rfl⟩ := h
    exact public_calls A0_0 c0_0 l0_0 a0_1 a0_2 w hr0_0 hl
  · rw [if_neg hl] at h; cases h
end Go.Proofs.Ytnjheeoogglnaaa.R
