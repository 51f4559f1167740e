/- A table of the document's (own), and the document's Public: what each computes, and that the Go code computes it. -/
import Derived.Test.YtnjheeoogglnaaaRsP
namespace Go.Proofs.Ytnjheeoogglnaaa.R
open Go.RowKit Go.Proofs.Ytnjheeoogglnaaa.Mem Go.Proofs.YtnjheeoogglnaaaW.PrintWords Go.Proofs.YtnjheeoogglnaaaW.PrintLast Go.Proofs.YtnjheeoogglnaaaW.PrintMore
set_option linter.unusedVariables false
set_option linter.unusedSimpArgs false

def cv (x : S47) : S66 := ⟨x.f0, x.f1, x.f2, x.f3⟩
def ownTo (k : Nat) (l : List S47) : List S66 := (l.take k).map cv
structure OwnI (w : World) (l : List S47) (A0 : Option Addr) (c0 : Nat) (adv : Int) (o : Bool) (k : Nat) (v : Value) (wr : World) : Prop where
  inp : Blk wr w.heap.size #[.slice A0 l.length c0, .int .i64 adv, .bool o] 26
  res : Blk wr (w.heap.size + 1) #[.slice none 0 0, .int .i64 0, .bool false] 31
  out : Blk wr (w.heap.size + 2) #[v, .int .i64 adv, .bool o] 31
  row : Kd.R k66 66 wr (w.heap.size + 3) (fun _ => True) v (ownTo k l)
  below : Below w.heap.size w wr
theorem row_far' {d : Kd S66} {e B : Nat} {ok : Nat → Prop} {w w1 : World} {v : Value} {xs : List S66} (h : Kd.R d e w B ok v xs) (hm : ∀ k, B ≤ k → w1.heap[k]? = w.heap[k]?) : Kd.R d e w1 B ok v xs :=
  Kd.R_mono (Kd.R_move (Kd.R_bound h) (fun k hk => hm k hk.2.1)) (fun _ hk => hk.1)
theorem OwnI.store {w : World} {l : List S47} {A0 : Option Addr} {c0 : Nat} {adv : Int} {o : Bool} {k : Nat} {v v1 : Value} {wr w1 : World} (h : OwnI w l A0 c0 adv o k v wr) (hb : Below (w.heap.size + 3) wr w1)
    (hr : Kd.R k66 66 w1 (w.heap.size + 3) (fun _ => True) v1 (ownTo (k + 1) l)) : OwnI w l A0 c0 adv o (k + 1) v1 (w1.setCell ⟨w.heap.size + 2, 0, none⟩ v1) :=
  ⟨(h.inp.below hb (by omega)).setCell_other _ (by simp), (h.res.below hb (by omega)).setCell_other _ (by simp), (h.out.below hb (by omega)).set 0 _, row_far' hr (fun k hk => Below.heap_setCell _ _ _ _ (by simp; omega)), (h.below.trans (hb.mono (by omega))).setCell (by simp) _⟩

set_option maxHeartbeats 4000000 in
theorem own_calls (A0 : Option Addr) (c0 : Nat) (l : List S47) (adv : Int) (o : Bool) (w : World) (hr0 : Kd.C k47 w A0 l.length l) (hl : l.length < 3518437208883) :
    Calls Try.prog 12 #[.agg #[.slice A0 l.length c0, .int .i64 adv, .bool o]] w fun e w' => ∃ v0_ : Value, e = .returned (.agg #[v0_, .int .i64 adv, .bool o]) ∧ Kd.R k66 66 w' w.heap.size (fun _ => True) v0_ (l.map cv) ∧ Below w.heap.size w w' := by
  have HR := Lib.hid hr0
  clear hr0
  go_enter Try.func12, Try.ntmps12
  go_wp2_with fail
  have P0 : Hid (OwnI w l A0 c0 adv o 0 (.slice none 0 0) (((w.alloc (.cells #[.slice A0 l.length c0, .int .i64 adv, .bool o] 26)).alloc (.cells #[.slice none 0 0, .int .i64 0, .bool false] 31)).alloc (.cells #[.slice none 0 0, .int .i64 adv, .bool o] 31))) :=
    Lib.hid ⟨((Blk.alloc w _ _).alloc_old _).alloc_old _, (Blk.alloc_at _ _ _ (by simp)).alloc_old _, Blk.alloc_at _ _ _ (by simp), Kd.R_nil _ _ _ _ _, (((Below.refl _ _).alloc (Nat.le_refl _) _).alloc (by simp) _).alloc (by simp; omega) _⟩
  generalize ((w.alloc (.cells #[.slice A0 l.length c0, .int .i64 adv, .bool o] 26)).alloc (.cells #[.slice none 0 0, .int .i64 0, .bool false] 31)).alloc (.cells #[.slice none 0 0, .int .i64 adv, .bool o] 31) = W0 at P0 ⊢
  go_loopw [12] (fun i wr => ∃ (k : Nat) (v : Value), k ≤ l.length ∧ i = .int .i64 k ∧ Hid (OwnI w l A0 c0 adv o k v wr)) (fun i wr => l.length - (intOf i).toNat)
  case atStart => exact ⟨0, _, Nat.zero_le _, rfl, P0⟩
  case round =>
    obtain ⟨k, v, hk, rfl, P⟩ := hrel
    clear P0
    obtain ⟨A1, c1, rfl⟩ := Kd.R_slice P.out.row
    by_cases hlt : k < l.length
    · obtain ⟨ad, rfl, e0, e1, e2, e3⟩ := at_T47 (Kd.C_below HR.out P.out.below) (k : Int) (by omega) (by omega)
      have hrd : Hid (ownTo (k + 1) l = ownTo k l ++ [cv (rd_T47 l (k : Int))]) := Lib.hid (by
        unfold ownTo; rw [List.take_succ_eq_append_getElem hlt, List.map_append]; simp [rd_T47, hlt])
      have hlen : (ownTo k l).length ≤ 3518437208882 := by simp [ownTo]; omega
      generalize rd_T47 l (k : Int) = x at *
      obtain ⟨x0, x1, x2, x3⟩ := x
      simp only [Int.toNat_natCast] at e0 e1 e2 e3
      have y0 := P.out.out.cell 0
      simp only [List.getElem?_toArray, List.getElem?_cons_zero] at y0
      have sz1 : w.heap.size + 2 < wr.heap.size := P.out.out.lt
      have hA : Below wr.heap.size wr (wr.alloc (.cells #[.string x0, .int .i64 x1, .int .i64 x2, .bool x3] 47)) := (Below.refl _ _).alloc (Nat.le_refl _) _
      have HA := Lib.hid hA
      clear hA
      go_wp2_with (at_builtin; refine Kd.R_append k66 (w0 := wr) (W := wr.alloc (.cells #[.string x0, .int .i64 x1, .int .i64 x2, .bool x3] 47)) (w.heap.size + 3) rfl (.tmp 17) (.tmp 19) 28 66 (.agg #[.string ⟨#[]⟩, .int .i64 0, .int .i64 0, .bool false]) 40 rfl Try.underlying28 info66 rfl (by decide) (by omega) (.slice A1 (ownTo k l).length c1) (ownTo k l) ⟨x0, x1, x2, x3⟩ [.string x0, .int .i64 x1, .int .i64 x2, .bool x3] (fun _ => True) (fun _ => False) rfl ?a1 (k66_mkM _ _ _ _) (fun _ h => h.elim) (fun _ _ => trivial) ?a2 ?a3 ?a4 ?a5 ?_; (case a1 => rw [World.size_alloc]; rfl); (case a2 => exact Kd.R_below P.out.row HA.out); (case a3 => exact HA.out.mono (by omega)); (case a4 => first | omega | (simp; omega)); (case a5 => omega); intro v1 w1 h1 h2 h3 h4; obtain ⟨A2, c2, rfl⟩ := Kd.R_slice h1; have q0 := (P.out.out.below h2 (by omega)).cell 0; have q1 := (P.out.out.below h2 (by omega)).free 0; simp only [List.getElem?_toArray, List.getElem?_cons_zero] at q0; have H1 := Lib.hid h1; have H2 := Lib.hid h2; clear h1 h2 h3 h4)
      go_roundw
      case rel => exact ⟨k + 1, _, by omega, by go_num, Lib.hid (P.out.store H2.out (by rw [hrd.out]; have h := H1.out; simp only [List.length_append, List.length_singleton] at h; exact h))⟩
      case measure => simp [intOf]; omega
    · have hkl : Hid (ownTo k l = l.map cv) := Lib.hid (by unfold ownTo; rw [List.take_of_length_le (by omega)])
      have y0 := P.out.out.cell 0
      have y1 := P.out.out.cell 1
      have y2 := P.out.out.cell 2
      have r0 := P.out.res.cell 0
      have r1 := P.out.res.cell 1
      have r2 := P.out.res.cell 2
      have g0 := P.out.res.free 0
      have g1 := P.out.res.free 1
      have g2 := P.out.res.free 2
      simp only [List.getElem?_toArray, List.getElem?_cons_zero, List.getElem?_cons_succ] at y0 y1 y2 r0 r1 r2
      have hz : w.heap.size + 2 < wr.heap.size := P.out.out.lt
      go_wp2_with fail
      refine bodyPost_ret (v := .agg #[.slice A1 (ownTo k l).length c1, .int .i64 adv, .bool o]) (by simp [results, Try.results12, go_sem, r0, r1, r2]) rfl ⟨_, rfl, ?_, ?_⟩
      · rw [← hkl.out]
        refine Kd.R_lower (row_far' P.out.row (fun q hq => ?_)) (show w.heap.size ≤ w.heap.size + 3 by omega)
        repeat rw [Below.heap_setCell _ _ _ _ (by simp; omega)]
      · repeat (first | exact P.out.below | refine Below.setCell ?_ (by first | (simp; done) | (simp; omega)) _)

def scrimlaw13_own.f (k : Nat) (l0_0 : List S47) (a0_1 : Int) (a0_2 : Bool) : Option (List S66 × Int × Bool) := if l0_0.length < 3518437208883 then some (l0_0.map cv, a0_1, a0_2) else none
theorem scrimlaw13_own.mono : ∀ a0 a1 a2 k, LeO (scrimlaw13_own.f k a0 a1 a2) (scrimlaw13_own.f (k + 1) a0 a1 a2) := fun _ _ _ _ => LeO.refl _
theorem scrimlaw13_own.calls (k : Nat) (A0_0 : Option Addr) (c0_0 : Nat) (l0_0 : List (S47)) (a0_1 : Int) (a0_2 : Bool) (r1 : List (S66)) (r2 : Int) (r3 : Bool) (w : World) (hr0_0 : Kd.C k47 w A0_0 l0_0.length l0_0) (hc0_0 : l0_0.length ≤ c0_0) (h : scrimlaw13_own.f k l0_0 a0_1 a0_2 = some (r1, r2, r3)) :
    Calls Try.prog 12 #[.agg #[.slice A0_0 l0_0.length c0_0, .int .i64 a0_1, .bool a0_2]] w fun e w' => ∃ v0_ : Value, e = .returned (.agg #[v0_, .int .i64 r2, .bool r3]) ∧ Kd.R k66 66 w' w.heap.size (fun _ => True) v0_ r1 ∧ Below w.heap.size w w' := by
  unfold scrimlaw13_own.f at h
  by_cases hl : l0_0.length < 3518437208883
  · rw [if_pos hl] at h
    simp only [Option.some.injEq, Prod.mk.injEq] at h
    obtain ⟨rfl, rfl, rfl⟩ := h
    exact own_calls A0_0 c0_0 l0_0 a0_1 a0_2 w hr0_0 hl
  · rw [if_neg hl] at h; cases h

/-! ### The document's Public -/
def pubR (x : S66) : S66 := if x.f3 = true then x else ⟨x.f0, 0, 0, x.f3⟩
def pubRTo (k : Nat) (l : List S66) : List S66 := (l.take k).map pubR
structure PuI (w : World) (l : List S66) (A0 : Option Addr) (c0 : Nat) (adv : Int) (o : Bool) (k : Nat) (v : Value) (wr : World) : Prop where
  inp : Blk wr w.heap.size #[.slice A0 l.length c0, .int .i64 adv, .bool o] 31
  res : Blk wr (w.heap.size + 1) #[.slice none 0 0, .int .i64 0, .bool false] 31
  out : Blk wr (w.heap.size + 2) #[v, .int .i64 0, .bool false] 31
  row : Kd.R k66 66 wr (w.heap.size + 3) (fun _ => True) v (pubRTo k l)
  below : Below w.heap.size w wr
theorem PuI.store {w : World} {l : List S66} {A0 : Option Addr} {c0 : Nat} {adv : Int} {o : Bool} {k : Nat} {v v1 : Value} {wr w1 : World} (h : PuI w l A0 c0 adv o k v wr) (hb : Below (w.heap.size + 3) wr w1)
    (hr : Kd.R k66 66 w1 (w.heap.size + 3) (fun _ => True) v1 (pubRTo (k + 1) l)) : PuI w l A0 c0 adv o (k + 1) v1 (w1.setCell ⟨w.heap.size + 2, 0, none⟩ v1) :=
  ⟨(h.inp.below hb (by omega)).setCell_other _ (by simp), (h.res.below hb (by omega)).setCell_other _ (by simp), (h.out.below hb (by omega)).set 0 _, row_far' hr (fun k hk => Below.heap_setCell _ _ _ _ (by simp; omega)), (h.below.trans (hb.mono (by omega))).setCell (by simp) _⟩

set_option maxHeartbeats 4000000 in
theorem rpublic_calls (A0 : Option Addr) (c0 : Nat) (l : List S66) (adv : Int) (o : Bool) (w : World) (hr0 : Kd.C k66 w A0 l.length l) (hl : l.length < 3518437208883) :
    Calls Try.prog 23 #[.agg #[.slice A0 l.length c0, .int .i64 adv, .bool o]] w fun e w' => ∃ v0_ : Value, e = .returned (.agg #[v0_, .int .i64 (if o = true then adv else 0), .bool o]) ∧ Kd.R k66 66 w' w.heap.size (fun _ => True) v0_ (l.map pubR) ∧ Below w.heap.size w w' := by
  have HR := Lib.hid hr0
  clear hr0
  go_enter Try.func23, Try.ntmps23
  go_wp2_with fail
  have P0 : Hid (PuI w l A0 c0 adv o 0 (.slice none 0 0) (((w.alloc (.cells #[.slice A0 l.length c0, .int .i64 adv, .bool o] 31)).alloc (.cells #[.slice none 0 0, .int .i64 0, .bool false] 31)).alloc (.cells #[.slice none 0 0, .int .i64 0, .bool false] 31))) :=
    Lib.hid ⟨((Blk.alloc w _ _).alloc_old _).alloc_old _, (Blk.alloc_at _ _ _ (by simp)).alloc_old _, Blk.alloc_at _ _ _ (by simp), Kd.R_nil _ _ _ _ _, (((Below.refl _ _).alloc (Nat.le_refl _) _).alloc (by simp) _).alloc (by simp; omega) _⟩
  generalize ((w.alloc (.cells #[.slice A0 l.length c0, .int .i64 adv, .bool o] 31)).alloc (.cells #[.slice none 0 0, .int .i64 0, .bool false] 31)).alloc (.cells #[.slice none 0 0, .int .i64 0, .bool false] 31) = W0 at P0 ⊢
  go_loopw [4] (fun i wr => ∃ (k : Nat) (v : Value), k ≤ l.length ∧ i = .int .i64 k ∧ Hid (PuI w l A0 c0 adv o k v wr)) (fun i wr => l.length - (intOf i).toNat)
  case atStart => exact ⟨0, _, Nat.zero_le _, rfl, P0⟩
  case round =>
    obtain ⟨k, v, hk, rfl, P⟩ := hrel
    clear P0
    obtain ⟨A1, c1, rfl⟩ := Kd.R_slice P.out.row
    have sz1 : w.heap.size + 2 < wr.heap.size := P.out.out.lt
    have sz2 : w.heap.size < wr.heap.size := P.out.inp.lt
    have i0 := P.out.inp.cell 0
    have i1 := P.out.inp.cell 1
    have i2 := P.out.inp.cell 2
    have y0 := P.out.out.cell 0
    simp only [List.getElem?_toArray, List.getElem?_cons_zero, List.getElem?_cons_succ] at y0 i0 i1 i2
    by_cases hlt : k < l.length
    · obtain ⟨ad, rfl, e0, e1, e2, e3⟩ := at_T66 (Kd.C_below HR.out P.out.below) (k : Int) (by omega) (by omega)
      have hrd : Hid (pubRTo (k + 1) l = pubRTo k l ++ [pubR (rd_T66 l (k : Int))]) := Lib.hid (by
        unfold pubRTo; rw [List.take_succ_eq_append_getElem hlt, List.map_append]; simp [rd_T66, hlt])
      have hlen : (pubRTo k l).length ≤ 3518437208882 := by simp [pubRTo]; omega
      generalize rd_T66 l (k : Int) = x at *
      obtain ⟨x0, x1, x2, x3⟩ := x
      simp only [Int.toNat_natCast] at e0 e1 e2 e3
      cases x3
      · have hA : Below wr.heap.size wr (wr.alloc (.cells #[.string x0, .int .i64 0, .int .i64 0, .bool false] 66)) := (Below.refl _ _).alloc (Nat.le_refl _) _
        have HA := Lib.hid hA
        clear hA
        go_wp2_with (at_builtin; refine Kd.R_append k66 (w0 := wr) (W := wr.alloc (.cells #[.string x0, .int .i64 0, .int .i64 0, .bool false] 66)) (w.heap.size + 3) rfl (.tmp 25) (.tmp 27) 28 66 (.agg #[.string ⟨#[]⟩, .int .i64 0, .int .i64 0, .bool false]) 40 rfl Try.underlying28 info66 rfl (by decide) (by omega) (.slice A1 (pubRTo k l).length c1) (pubRTo k l) ⟨x0, 0, 0, false⟩ [.string x0, .int .i64 0, .int .i64 0, .bool false] (fun _ => True) (fun _ => False) rfl ?a1 (k66_mkM _ _ _ _) (fun _ h => h.elim) (fun _ _ => trivial) ?a2 ?a3 ?a4 ?a5 ?_; (case a1 => rw [World.size_alloc]; rfl); (case a2 => exact Kd.R_below P.out.row HA.out); (case a3 => exact HA.out.mono (by omega)); (case a4 => first | omega | (simp; omega)); (case a5 => omega); intro v1 w1 h1 h2 h3 h4; obtain ⟨A2, c2, rfl⟩ := Kd.R_slice h1; have q0 := (P.out.out.below h2 (by omega)).cell 0; have q1 := (P.out.out.below h2 (by omega)).free 0; simp only [List.getElem?_toArray, List.getElem?_cons_zero] at q0; have H1 := Lib.hid h1; have H2 := Lib.hid h2; clear h1 h2 h3 h4)
        go_roundw
        case rel => exact ⟨k + 1, _, by omega, by go_num, Lib.hid (P.out.store H2.out (by rw [hrd.out]; have h := H1.out; simp only [List.length_append, List.length_singleton] at h; exact h))⟩
        case measure => simp [intOf]; omega
      · have hA : Below wr.heap.size wr (wr.alloc (.cells #[.string x0, .int .i64 x1, .int .i64 x2, .bool true] 66)) := (Below.refl _ _).alloc (Nat.le_refl _) _
        have HA := Lib.hid hA
        clear hA
        go_wp2_with (at_builtin; refine Kd.R_append k66 (w0 := wr) (W := wr.alloc (.cells #[.string x0, .int .i64 x1, .int .i64 x2, .bool true] 66)) (w.heap.size + 3) rfl (.tmp 25) (.tmp 27) 28 66 (.agg #[.string ⟨#[]⟩, .int .i64 0, .int .i64 0, .bool false]) 40 rfl Try.underlying28 info66 rfl (by decide) (by omega) (.slice A1 (pubRTo k l).length c1) (pubRTo k l) ⟨x0, x1, x2, true⟩ [.string x0, .int .i64 x1, .int .i64 x2, .bool true] (fun _ => True) (fun _ => False) rfl ?a1 (k66_mkM _ _ _ _) (fun _ h => h.elim) (fun _ _ => trivial) ?a2 ?a3 ?a4 ?a5 ?_; (case a1 => rw [World.size_alloc]; rfl); (case a2 => exact Kd.R_below P.out.row HA.out); (case a3 => exact HA.out.mono (by omega)); (case a4 => first | omega | (simp; omega)); (case a5 => omega); intro v1 w1 h1 h2 h3 h4; obtain ⟨A2, c2, rfl⟩ := Kd.R_slice h1; have q0 := (P.out.out.below h2 (by omega)).cell 0; have q1 := (P.out.out.below h2 (by omega)).free 0; simp only [List.getElem?_toArray, List.getElem?_cons_zero] at q0; have H1 := Lib.hid h1; have H2 := Lib.hid h2; clear h1 h2 h3 h4)
        go_roundw
        case rel => exact ⟨k + 1, _, by omega, by go_num, Lib.hid (P.out.store H2.out (by rw [hrd.out]; have h := H1.out; simp only [List.length_append, List.length_singleton] at h; exact h))⟩
        case measure => simp [intOf]; omega
    · have hkl : Hid (pubRTo k l = l.map pubR) := Lib.hid (by unfold pubRTo; rw [List.take_of_length_le (by omega)])
      have y1 := P.out.out.cell 1
      have y2 := P.out.out.cell 2
      have u0 := P.out.out.free 0
      have u1 := P.out.out.free 1
      have u2 := P.out.out.free 2
      have r0 := P.out.res.cell 0
      have r1 := P.out.res.cell 1
      have r2 := P.out.res.cell 2
      have g0 := P.out.res.free 0
      have g1 := P.out.res.free 1
      have g2 := P.out.res.free 2
      simp only [List.getElem?_toArray, List.getElem?_cons_zero, List.getElem?_cons_succ] at y1 y2 r0 r1 r2
      cases o
      · go_wp2_with fail
        refine bodyPost_ret (v := .agg #[.slice A1 (pubRTo k l).length c1, .int .i64 0, .bool false]) (by simp [results, Try.results23, go_sem, r0, r1, r2]) rfl ⟨_, rfl, ?_, ?_⟩
        · rw [← hkl.out]
          refine Kd.R_lower (row_far' P.out.row (fun q hq => ?_)) (show w.heap.size ≤ w.heap.size + 3 by omega)
          repeat rw [Below.heap_setCell _ _ _ _ (by simp; omega)]
        · repeat (first | exact P.out.below | refine Below.setCell ?_ (by first | (simp; done) | (simp; omega)) _)
      · go_wp2_with fail
        refine bodyPost_ret (v := .agg #[.slice A1 (pubRTo k l).length c1, .int .i64 adv, .bool true]) (by simp [results, Try.results23, go_sem, r0, r1, r2]) rfl ⟨_, rfl, ?_, ?_⟩
        · rw [← hkl.out]
          refine Kd.R_lower (row_far' P.out.row (fun q hq => ?_)) (show w.heap.size ≤ w.heap.size + 3 by omega)
          repeat rw [Below.heap_setCell _ _ _ _ (by simp; omega)]
        · repeat (first | exact P.out.below | refine Below.setCell ?_ (by first | (simp; done) | (simp; omega)) _)

def scrimref13_Public.f (k : Nat) (l0_0 : List S66) (a0_1 : Int) (a0_2 : Bool) : Option (List S66 × Int × Bool) := if l0_0.length < 3518437208883 then some (l0_0.map pubR, (if a0_2 = true then a0_1 else 0), a0_2) else none
theorem scrimref13_Public.mono : ∀ a0 a1 a2 k, LeO (scrimref13_Public.f k a0 a1 a2) (scrimref13_Public.f (k + 1) a0 a1 a2) := fun _ _ _ _ => LeO.refl _
theorem scrimref13_Public.calls (k : Nat) (A0_0 : Option Addr) (c0_0 : Nat) (l0_0 : List (S66)) (a0_1 : Int) (a0_2 : Bool) (r1 : List (S66)) (r2 : Int) (r3 : Bool) (w : World) (hr0_0 : Kd.C k66 w A0_0 l0_0.length l0_0) (hc0_0 : l0_0.length ≤ c0_0) (h : scrimref13_Public.f k l0_0 a0_1 a0_2 = some (r1, r2, r3)) :
    Calls Try.prog 23 #[.agg #[.slice A0_0 l0_0.length c0_0, .int .i64 a0_1, .bool a0_2]] w fun e w' => ∃ v0_ : Value, e = .returned (.agg #[v0_, .int .i64 r2, .bool r3]) ∧ Kd.R k66 66 w' w.heap.size (fun _ => True) v0_ r1 ∧ Below w.heap.size w w' := by
  unfold scrimref13_Public.f at h
  by_cases hl : l0_0.length < 3518437208883
  · rw [if_pos hl] at h
    simp only [Option.some.injEq, Prod.mk.injEq] at h
    obtain ⟨rfl, rfl, rfl⟩ := h
    exact rpublic_calls A0_0 c0_0 l0_0 a0_1 a0_2 w hr0_0 hl
  · rw [if_neg hl] at h; cases h
end Go.Proofs.Ytnjheeoogglnaaa.R
