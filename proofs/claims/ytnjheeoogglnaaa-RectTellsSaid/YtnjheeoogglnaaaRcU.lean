/- The function Union of package rect: what it computes, and that the Go code computes it. -/
import Derived.Test.YtnjheeoogglnaaaRcI
namespace Go.Proofs.Ytnjheeoogglnaaa.Q
open Go.RowKit Go.Proofs.Ytnjheeoogglnaaa.Mem Go.Proofs.YtnjheeoogglnaaaW.PrintWords Go.Proofs.YtnjheeoogglnaaaW.PrintLast Go.Proofs.YtnjheeoogglnaaaW.PrintMore
set_option linter.unusedVariables false
set_option linter.unusedSimpArgs false

def mnI (a b : Int) : Int := if b < a then b else a
def mxI (a b : Int) : Int := if a < b then b else a
theorem max2_I (k k' : IntKind) (x y : Int) : Builtin.max2 (.int k x) (.int k' y) = pure (.int k (mxI x y)) := by rw [max2_int]; rfl
theorem min2_I (k k' : IntKind) (x y : Int) : Builtin.min2 (.int k x) (.int k' y) = pure (.int k (mnI x y)) := by rw [min2_int]; rfl
attribute [local go_sem] max2_I min2_I max_two min_two
/-- What the rounds of a union keep. -/
structure US where
  nx : Int
  ny : Int
  fx : Int
  fy : Int
  rg : Bool
def usStep (u : US) (r : S50) : US := ⟨mnI u.nx r.f0, mnI u.ny r.f1, mxI u.fx (sA r.f0 r.f2), mxI u.fy (sA r.f1 r.f3), (u.rg || !sAe r.f0 r.f2) || !sAe r.f1 r.f3⟩
def usStart : US := ⟨1099511627776, 1099511627776, -1099511627776, -1099511627776, false⟩
def usOf (l : List S50) : US := l.foldl usStep usStart
def allMay (l : List S50) : Bool := l.all fun r => mayB r.f0 r.f1 r.f2 r.f3
theorem usOf_take (l : List S50) (k : Nat) (h : k < l.length) : usOf (l.take (k + 1)) = usStep (usOf (l.take k)) l[k] := by
  unfold usOf
  rw [List.take_succ_eq_append_getElem h, List.foldl_append]; rfl
theorem allMay_take (l : List S50) (k : Nat) (h : k < l.length) : allMay (l.take (k + 1)) = (allMay (l.take k) && mayB l[k].f0 l[k].f1 l[k].f2 l[k].f3) := by
  unfold allMay
  rw [List.take_succ_eq_append_getElem h, List.all_append]; simp
theorem allMay_false (l : List S50) (k : Nat) (h : k < l.length) (hm : mayB l[k].f0 l[k].f1 l[k].f2 l[k].f3 = false) : allMay l = false := by
  unfold allMay
  rw [List.all_eq_false]
  exact ⟨l[k], List.getElem_mem h, by simp [hm]⟩

/-- The union's own memory: the result's place, what is near, and the sums. -/
structure Un (w0 : World) (sb nb : Nat) (nx ny wd h : Int) (rough : Bool) (w : World) : Prop where
  oo : Blk w w0.heap.size #[.int .i64 0, .int .i64 0, .int .i64 0, .int .i64 0] 50
  ss : Blk w sb #[.bool rough] 72
  nn : Blk w nb #[.int .i64 nx, .int .i64 ny, .int .i64 wd, .int .i64 h] 50
  lt : w0.heap.size < sb
  lt2 : sb < nb
  below : Below w0.heap.size w0 w
theorem Un.of {w0 : World} {sb nb : Nat} {x y wd h n : Int} {r r' : Bool} {w w' : World} {e : Ending} (t : Un w0 sb nb x y wd h r w) (p : OfP n sb r' w e w') : Un w0 sb nb x y wd h r' w' :=
  ⟨p.but.blk t.oo (by have := t.lt; omega), p.blk, p.but.blk t.nn (by have := t.lt2; omega), t.lt, t.lt2, t.below.trans (p.but.below (by have := t.lt; omega) t.below.size)⟩
theorem Un.set {w0 : World} {sb nb : Nat} {x y wd h x' y' wd' h' : Int} {r : Bool} {w : World} (t : Un w0 sb nb x y wd h r w) (i : Nat) (v : Value)
    (hv : (#[.int .i64 x, .int .i64 y, .int .i64 wd, .int .i64 h] : Array Value).setIfInBounds i v = #[.int .i64 x', .int .i64 y', .int .i64 wd', .int .i64 h']) : Un w0 sb nb x' y' wd' h' r (w.setCell ⟨nb, i, none⟩ v) :=
  ⟨t.oo.setCell_other v (by have := t.lt; have := t.lt2; simp; omega), t.ss.setCell_other v (by have := t.lt2; simp; omega), hv ▸ t.nn.set i v, t.lt, t.lt2, t.below.setCell (by have := t.lt; have := t.lt2; show _ ≤ nb; omega) v⟩
theorem Un.next {w0 : World} {sb nb : Nat} {x y wd h : Int} {r : Bool} {w w' : World} (t : Un w0 sb nb x y wd h r w) (b : Below w.heap.size w w') : Un w0 sb nb x y wd h r w' :=
  ⟨t.oo.below b t.oo.lt, t.ss.below b t.ss.lt, t.nn.below b t.nn.lt, t.lt, t.lt2, t.below.trans (b.mono t.below.size)⟩
theorem Un.drewN {w0 : World} {sb nb : Nat} {x y wd h : Int} {r : Bool} {w : World} (t : Un w0 sb nb x y wd h r w) (n : Nat) : Un w0 sb nb x y wd h r (w.drewN n) := t.next (below_drewN (Below.refl _ _) n)

theorem union_nil (a : Option Addr) (c : Nat) (w : World) : Calls Try.prog 30 #[.slice a 0 c] w (MoveP 0 0 0 0 true w) := by
  go_enter Try.func30, Try.ntmps30
  go_wp2
  exact bodyPost_ret (v := .tuple #[.agg #[.int .i64 0, .int .i64 0, .int .i64 0, .int .i64 0], .bool true]) (by simp [results, Try.results30, go_sem]) rfl ⟨rfl, by repeat (first | exact Below.refl _ _ | refine Below.setCell ?_ (Nat.le_refl _) _ | refine Below.alloc ?_ (Nat.le_refl _) _)⟩

theorem cells_at {w : World} {A : Option Addr} {xs : List S50} (h : Kd.C k50 w A xs.length xs) (i : Nat) (hi : i < xs.length) :
    ∃ b o, A = some ⟨b, o, none⟩ ∧ w.cell? ⟨b, o + i * 4, none⟩ = some (.int .i64 xs[i].f0) ∧ w.cell? ⟨b, o + i * 4 + 1, none⟩ = some (.int .i64 xs[i].f1) ∧ w.cell? ⟨b, o + i * 4 + 2, none⟩ = some (.int .i64 xs[i].f2) ∧ w.cell? ⟨b, o + i * 4 + 3, none⟩ = some (.int .i64 xs[i].f3) := by
  obtain ⟨ad0, e0, c0, _⟩ := at_T50 h 0 (by decide) (by omega)
  obtain ⟨ad, e, h0, h1, h2, h3⟩ := at_T50 h (i : Int) (by omega) (by omega)
  rw [e0] at e
  obtain rfl : ad0 = ad := by simpa using e
  obtain ⟨b, o, sp⟩ := ad0
  have hs : sp = none := by
    have := World.cell?_spot c0
    simpa [Addr.add] using this
  subst hs
  have er : rd_T50 xs (i : Int) = xs[i] := by unfold rd_T50; simp [hi]
  rw [er] at h0 h1 h2 h3
  have ea : (⟨b, o, none⟩ : Addr).add ((i : Int).toNat * 4) = ⟨b, o + i * 4, none⟩ := by rw [Go.WideShapes.add_plain]; simp
  rw [ea] at h0 h1 h2 h3
  exact ⟨b, o, e0, h0, h1, h2, h3⟩

/-- The worlds of the statement that brings what is near nearer. -/
def UnC (w0 : World) (sb nb : Nat) (nx ny : Int) (rg : Bool) (rb : Nat) (rx ry rw_ rh : Int) : Nat → World → Prop
  | 0 => fun w => Un w0 sb nb nx ny 0 0 rg w ∧ Blk w rb #[.int .i64 rx, .int .i64 ry, .int .i64 rw_, .int .i64 rh] 50
  | 1 => fun w => Un w0 sb nb (mnI nx rx) ny 0 0 rg w ∧ Blk w rb #[.int .i64 rx, .int .i64 ry, .int .i64 rw_, .int .i64 rh] 50
  | _ => fun w => Un w0 sb nb (mnI nx rx) (mnI ny ry) 0 0 rg w ∧ Blk w rb #[.int .i64 rx, .int .i64 ry, .int .i64 rw_, .int .i64 rh] 50
theorem UnC.cells {w0 : World} {sb nb : Nat} {nx ny : Int} {rg : Bool} {rb : Nat} {rx ry rw_ rh : Int} (q : Mix.Wd (UnC w0 sb nb nx ny rg rb rx ry rw_ rh) 0) :
    q.1.cell? ⟨rb, 0, none⟩ = some (.int .i64 rx) ∧ q.1.cell? ⟨rb, 1, none⟩ = some (.int .i64 ry) := by
  obtain ⟨w, i, _, hw⟩ := q
  have hb : Blk w rb #[.int .i64 rx, .int .i64 ry, .int .i64 rw_, .int .i64 rh] 50 := by
    rcases i with _ | _ | i
    · exact hw.2
    · exact hw.2
    · exact hw.2
  exact ⟨hb.cell 0, hb.cell 1⟩
theorem UnC.near {w0 : World} {sb nb : Nat} {nx ny : Int} {rg : Bool} {rb : Nat} {rx ry rw_ rh : Int} (q : Mix.Wx (UnC w0 sb nb nx ny rg rb rx ry rw_ rh) 0 0) :
    q.1.cell? ⟨nb, 0, none⟩ = some (.int .i64 nx) ∧ q.1.cell? ⟨nb, 1, none⟩ = some (.int .i64 ny) := by
  obtain ⟨w, i, _, hi, hw⟩ := q
  obtain rfl : i = 0 := by omega
  exact ⟨hw.1.nn.cell 0, hw.1.nn.cell 1⟩

theorem UnC.store0 {w0 : World} {sb nb : Nat} {nx ny : Int} {rg : Bool} {rb : Nat} {rx ry rw_ rh : Int} {w : World} (t : UnC w0 sb nb nx ny rg rb rx ry rw_ rh 0 w) (hn : rb ≠ nb) : UnC w0 sb nb nx ny rg rb rx ry rw_ rh 1 (w.setCell ⟨nb, 0, none⟩ (.int .i64 (mnI nx rx))) :=
  ⟨t.1.set 0 _ rfl, t.2.setCell_other _ hn⟩
theorem UnC.store1 {w0 : World} {sb nb : Nat} {nx ny : Int} {rg : Bool} {rb : Nat} {rx ry rw_ rh : Int} {w : World} (t : UnC w0 sb nb nx ny rg rb rx ry rw_ rh 1 w) (hn : rb ≠ nb) : UnC w0 sb nb nx ny rg rb rx ry rw_ rh 2 (w.setCell ⟨nb, 1, none⟩ (.int .i64 (mnI ny ry))) :=
  ⟨t.1.set 1 _ rfl, t.2.setCell_other _ hn⟩

/-- The worlds round the last statement, which lays the result. -/
def FinU (w0 : World) (sb nb : Nat) (x y wd h : Int) (rough : Bool) : Nat → World → Prop
  | 0 => fun w => Un w0 sb nb x y wd h rough w
  | _ => fun w => Blk w nb #[.int .i64 x, .int .i64 y, .int .i64 wd, .int .i64 h] 50 ∧ Blk w w0.heap.size #[.int .i64 x, .int .i64 y, .int .i64 wd, .int .i64 h] 50 ∧ Blk w sb #[.bool rough] 72 ∧ Below w0.heap.size w0 w
theorem FinU.cells {w0 : World} {sb nb : Nat} {x y wd h : Int} {rough : Bool} (q : Mix.Wd (FinU w0 sb nb x y wd h rough) 0) :
    q.1.cell? ⟨nb, 0, none⟩ = some (.int .i64 x) ∧ q.1.cell? ⟨nb, 1, none⟩ = some (.int .i64 y) ∧ q.1.cell? ⟨nb, 2, none⟩ = some (.int .i64 wd) ∧ q.1.cell? ⟨nb, 3, none⟩ = some (.int .i64 h) ∧ q.1.cell? ⟨sb, 0, none⟩ = some (.bool rough) := by
  obtain ⟨w, i, _, hw⟩ := q
  have hb : Blk w nb #[.int .i64 x, .int .i64 y, .int .i64 wd, .int .i64 h] 50 ∧ Blk w sb #[.bool rough] 72 := by
    rcases i with _ | i
    · exact ⟨hw.nn, hw.ss⟩
    · exact ⟨hw.1, hw.2.2.1⟩
  exact ⟨hb.1.cell 0, hb.1.cell 1, hb.1.cell 2, hb.1.cell 3, hb.2.cell 0⟩
theorem FinU.store {w0 : World} {sb nb : Nat} {x y wd h : Int} {rough : Bool} {w : World} (t : FinU w0 sb nb x y wd h rough 0 w) :
    FinU w0 sb nb x y wd h rough 1 ((((w.setCell ⟨w0.heap.size, 0, none⟩ (.int .i64 x)).setCell ⟨w0.heap.size, 1, none⟩ (.int .i64 y)).setCell ⟨w0.heap.size, 2, none⟩ (.int .i64 wd)).setCell ⟨w0.heap.size, 3, none⟩ (.int .i64 h)) := by
  have t : Un w0 sb nb x y wd h rough w := t
  have hl := t.lt
  have hl2 := t.lt2
  exact ⟨(((t.nn.setCell_other _ (by simp; omega)).setCell_other _ (by simp; omega)).setCell_other _ (by simp; omega)).setCell_other _ (by simp; omega), (((t.oo.set 0 _).set 1 _).set 2 _).set 3 _,
    (((t.ss.setCell_other _ (by simp; omega)).setCell_other _ (by simp; omega)).setCell_other _ (by simp; omega)).setCell_other _ (by simp; omega),
    (((t.below.setCell (by simp) _).setCell (by simp) _).setCell (by simp) _).setCell (by simp) _⟩

set_option maxHeartbeats 4000000 in
theorem union_some (a : Option Addr) (l : List S50) (c : Nat) (w : World) (hr : Kd.C k50 w a l.length l) (hc : l.length ≤ c) (hl : 0 < l.length) (hb : l.length ≤ 9223372036854775807) (q : Int × Int × Int × Int × Bool)
    (hbad : ∀ k, (h : k < l.length) → mayB l[k].f0 l[k].f1 l[k].f2 l[k].f3 = false → q = (0, 0, 0, 0, false))
    (hgood : allMay l = true → q = ((usOf l).nx, (usOf l).ny, sS (usOf l).fx (usOf l).nx, sS (usOf l).fy (usOf l).ny, !(((usOf l).rg || !sSe (usOf l).fx (usOf l).nx) || !sSe (usOf l).fy (usOf l).ny))) :
    Calls Try.prog 30 #[.slice a l.length c] w (MoveP q.1 q.2.1 q.2.2.1 q.2.2.2.1 q.2.2.2.2 w) := by
  have HR := Lib.hid hr
  have HBAD := Lib.hid hbad
  have HGOOD := Lib.hid hgood
  have hc0 : ((l.length : Int) == 0) = false := by rw [beq_eq_false_iff_ne]; omega
  clear hr hbad hgood
  go_enter Try.func30, Try.ntmps30
  go_wp2_with fail
  go_loopw [7, 8, 22] (fun fx fy i wr => ∃ (k : Nat) (u : US), k ≤ l.length ∧ i = .int .i64 k ∧ fx = .int .i64 u.fx ∧ fy = .int .i64 u.fy ∧ Hid (u = usOf (l.take k)) ∧ Hid (allMay (l.take k) = true) ∧ Hid (Un w (w.heap.size + 1) (w.heap.size + 1 + 1) u.nx u.ny 0 0 u.rg wr)) (fun _ _ i _ => l.length - (intOf i).toNat)
  case atStart =>
    refine ⟨0, usStart, Nat.zero_le _, rfl, rfl, rfl, Lib.hid rfl, Lib.hid rfl, ⟨((Blk.alloc w _ _).alloc_old _).alloc_old _, (Blk.alloc_at _ _ _ (by simp)).alloc_old _, Blk.alloc_at _ _ _ (by simp), by omega, by omega, ?_⟩⟩
    exact (((Below.refl _ _).alloc (Nat.le_refl _) _).alloc (by simp only [World.size_alloc]; omega) _).alloc (by simp only [World.size_alloc]; omega) _
  case round =>
    obtain ⟨k, u, hk, rfl, rfl, rfl, HU, HM, S⟩ := hrel
    by_cases hlt : k < l.length
    · obtain ⟨ba, oa, rfl, e0, e1, e2, e3⟩ := cells_at HR.out k hlt
      have hba := lt_of_cell e0
      have c0 : wr.cell? ⟨ba, oa + k * 4, none⟩ = some (.int .i64 l[k].f0) := by rw [S.out.below.cell (p := ⟨ba, _, none⟩) hba]; exact e0
      have c1 : wr.cell? ⟨ba, oa + k * 4 + 1, none⟩ = some (.int .i64 l[k].f1) := by rw [S.out.below.cell (p := ⟨ba, _, none⟩) hba]; exact e1
      have c2 : wr.cell? ⟨ba, oa + k * 4 + 2, none⟩ = some (.int .i64 l[k].f2) := by rw [S.out.below.cell (p := ⟨ba, _, none⟩) hba]; exact e2
      have c3 : wr.cell? ⟨ba, oa + k * 4 + 3, none⟩ = some (.int .i64 l[k].f3) := by rw [S.out.below.cell (p := ⟨ba, _, none⟩) hba]; exact e3
      clear e0 e1 e2 e3
      have HK := Lib.hid (HBAD.out k hlt)
      have HT := Lib.hid (usOf_take l k hlt)
      have HA := Lib.hid (allMay_take l k hlt)
      generalize l[k] = r at *
      obtain ⟨rx, ry, rw_, rh⟩ := r
      simp only [] at c0 c1 c2 c3
      go_wp2_with fail
      refine (may_calls _ _ _ _ _).mono ?_
      rintro e w5 ⟨rfl, hb5⟩
      have b5 : Below wr.heap.size wr w5 := ((Below.refl _ _).alloc (Nat.le_refl _) _).trans (hb5.mono (by simp only [World.size_alloc]; omega))
      have S5 := Lib.hid (S.out.next b5)
      have R5 := Lib.hid (Blk.below (Blk.alloc wr #[.int .i64 rx, .int .i64 ry, .int .i64 rw_, .int .i64 rh] 50) hb5 (by simp))
      have hn5 : wr.heap.size < w5.heap.size := R5.out.lt
      clear hb5 b5 c0 c1 c2 c3
      have hlo : w.heap.size + 1 + 1 < wr.heap.size := S.out.nn.lt
      by_cases hm : mayB rx ry rw_ rh = true
      · rw [hm]
        have HM' : Hid (allMay (l.take (k + 1)) = true) := Lib.hid (by rw [HA.out, HM.out, hm]; rfl)
        clear hm
        go_wp2_with fail
        have U0 : UnC w (w.heap.size + 1) (w.heap.size + 1 + 1) u.nx u.ny u.rg wr.heap.size rx ry rw_ rh 0 w5.drew := ⟨S5.out.drewN 1, R5.out⟩
        have hc := fun q => (UnC.cells (w0 := w) (sb := w.heap.size + 1) (nb := w.heap.size + 1 + 1) (nx := u.nx) (ny := u.ny) (rg := u.rg) (rb := wr.heap.size) (rx := rx) (ry := ry) (rw_ := rw_) (rh := rh) q)
        have hn := fun q => (UnC.near (w0 := w) (sb := w.heap.size + 1) (nb := w.heap.size + 1 + 1) (nx := u.nx) (ny := u.ny) (rg := u.rg) (rb := wr.heap.size) (rx := rx) (ry := ry) (rw_ := rw_) (rh := rh) q)
        have c0 := fun q => (hc q).1
        have c1 := fun q => (hc q).2
        have n0 := fun q => (hn q).1
        have n1 := fun q => (hn q).2
        clear hc hn
        have ne : Nonempty (Mix.Wd (UnC w (w.heap.size + 1) (w.heap.size + 1 + 1) u.nx u.ny u.rg wr.heap.size rx ry rw_ rh) 0) := ⟨⟨w5.drew, 0, Nat.le_refl _, U0⟩⟩
        have ne0 : Nonempty (Mix.Wx (UnC w (w.heap.size + 1) (w.heap.size + 1 + 1) u.nx u.ny u.rg wr.heap.size rx ry rw_ rh) 0 0) := ⟨⟨w5.drew, 0, Nat.le_refl _, Nat.le_refl _, U0⟩⟩
        refine Mix.wp_region_mix (C := UnC w (w.heap.size + 1) (w.heap.size + 1 + 1) u.nx u.ny u.rg wr.heap.size rx ry rw_ rh) [11, 13] (by kernel_rfl) (by kernel_rfl) U0 ?_
        (refine Mix.mix_still (by decide) (fun K hK => ?_); go_simp; refine hK _ ?_; clear hK K)
        (refine Mix.mix_in 0 0 (by decide) (by kernel_rfl) (fun K hK => ?_); go_simp; refine hK _ ?_; clear hK K)
        iterate 4 (refine Mix.mix_still (by decide) (fun K hK => ?_); go_simp; refine hK _ ?_; clear hK K)
        (refine Mix.mix_in 0 0 (by decide) (by kernel_rfl) (fun K hK => ?_); go_simp; refine hK _ ?_; clear hK K)
        iterate 4 (refine Mix.mix_still (by decide) (fun K hK => ?_); go_simp; refine hK _ ?_; clear hK K)
        refine Mix.mix_turn (by decide) (fun K hK => ?_)
        go_simp
        refine ⟨⟨undef, fun yw hy => ?_⟩, hK _ ?_⟩
        · have t : Un w (w.heap.size + 1) (w.heap.size + 1 + 1) u.nx u.ny 0 0 u.rg yw := hy.1
          have d0 := t.nn.cell 0
          have f0 := t.nn.free 0
          simp only [List.getElem?_toArray, List.getElem?_cons_zero, List.getElem?_cons_succ] at d0
          have hs := UnC.store0 hy (by omega)
          clear c0 c1 n0 n1 ne ne0 U0 t hy
          go_simp
          all_goals exact hs
        clear hK K
        (refine Mix.mix_still (by decide) (fun K hK => ?_); go_simp; refine hK _ ?_; clear hK K)
        refine Mix.mix_turn (by decide) (fun K hK => ?_)
        go_simp
        refine ⟨⟨undef, fun yw hy => ?_⟩, hK _ ?_⟩
        · have t : Un w (w.heap.size + 1) (w.heap.size + 1 + 1) (mnI u.nx rx) u.ny 0 0 u.rg yw := hy.1
          have d0 := t.nn.cell 1
          have f0 := t.nn.free 1
          simp only [List.getElem?_toArray, List.getElem?_cons_zero, List.getElem?_cons_succ] at d0
          have hs := UnC.store1 hy (by omega)
          clear c0 c1 n0 n1 ne ne0 U0 t hy
          go_simp
          all_goals exact hs
        clear hK K
        refine Mix.mix_nil ?_
        intro w6 hw6
        have S6 := Lib.hid (show Un w (w.heap.size + 1) (w.heap.size + 1 + 1) (mnI u.nx rx) (mnI u.ny ry) 0 0 u.rg w6 from hw6.1)
        have R6 := Lib.hid (show Blk w6 wr.heap.size #[.int .i64 rx, .int .i64 ry, .int .i64 rw_, .int .i64 rh] 50 from hw6.2)
        clear hw6 c0 c1 n0 n1 ne ne0 U0 S5 R5
        have c0 := R6.out.cell 0
        have c1 := R6.out.cell 1
        have c2 := R6.out.cell 2
        have c3 := R6.out.cell 3
        simp only [List.getElem?_toArray, List.getElem?_cons_zero, List.getElem?_cons_succ] at c0 c1 c2 c3
        go_wp2_with fail
        refine (addS_calls _ _ _).mono ?_
        rintro e w' ⟨rfl, rfl⟩
        go_wp2_with fail
        refine (of_calls _ _ _ _ _ S6.out.ss).mono ?_
        rintro e w7 hp
        have S7 := Lib.hid (S6.out.of hp)
        have R7 := Lib.hid (hp.but.blk R6.out (by omega))
        obtain rfl := hp.e
        clear hp c0 c1 c2 c3
        have c0 := R7.out.cell 0
        have c1 := R7.out.cell 1
        have c2 := R7.out.cell 2
        have c3 := R7.out.cell 3
        simp only [List.getElem?_toArray, List.getElem?_cons_zero, List.getElem?_cons_succ] at c0 c1 c2 c3
        go_wp2_with fail
        refine (addS_calls _ _ _).mono ?_
        rintro e w' ⟨rfl, rfl⟩
        go_wp2_with fail
        refine (of_calls _ _ _ _ _ S7.out.ss).mono ?_
        rintro e w8 hp
        have S8 := Lib.hid (S7.out.of hp)
        obtain rfl := hp.e
        clear hp c0 c1 c2 c3
        go_wp2_with fail
        go_roundw
        case rel => exact ⟨k + 1, usStep u ⟨rx, ry, rw_, rh⟩, by omega, by go_num, rfl, rfl, Lib.hid (by rw [HT.out, ← HU.out]), HM', S8⟩
        case measure => simp [intOf]; omega
      · have hm' : mayB rx ry rw_ rh = false := by simpa using hm
        rw [hm']
        have hq := HK.out hm'
        clear hm hm'
        obtain rfl := hq
        have d0 := S5.out.oo.cell 0
        have d1 := S5.out.oo.cell 1
        have d2 := S5.out.oo.cell 2
        have d3 := S5.out.oo.cell 3
        have f0 := S5.out.oo.free 0
        have f1 := S5.out.oo.free 1
        have f2 := S5.out.oo.free 2
        have f3 := S5.out.oo.free 3
        simp only [List.getElem?_toArray, List.getElem?_cons_zero, List.getElem?_cons_succ] at d0 d1 d2 d3
        go_wp2_with fail
        exact bodyPost_ret (v := .tuple #[.agg #[.int .i64 0, .int .i64 0, .int .i64 0, .int .i64 0], .bool false]) (by simp [results, Try.results30, go_sem, d0, d1, d2, d3]) rfl ⟨rfl, (((S5.out.below.setCell (by simp) _).setCell (by simp) _).setCell (by simp) _).setCell (by simp) _⟩
    · have hkl : k = l.length := by omega
      have hq : q = (u.nx, u.ny, sS u.fx u.nx, sS u.fy u.ny, !((u.rg || !sSe u.fx u.nx) || !sSe u.fy u.ny)) := by
        have h1 := HU.out
        have h2 := HM.out
        rw [hkl, List.take_length] at h1 h2
        rw [HGOOD.out h2, ← h1]
      have HQ := Lib.hid hq
      clear hq hkl
      have c0 := S.out.nn.cell 0
      simp only [List.getElem?_toArray, List.getElem?_cons_zero] at c0
      go_wp2_with fail
      refine (subS_calls _ _ _).mono ?_
      rintro e w' ⟨rfl, rfl⟩
      go_wp2_with fail
      clear c0
      refine (of_calls _ _ _ _ _ S.out.ss).mono ?_
      rintro e w2 hp
      have S2 := Lib.hid (S.out.of hp)
      obtain rfl := hp.e
      clear hp
      obtain ⟨r1, hr1⟩ : ∃ z : Bool, (u.rg || !sSe u.fx u.nx) = z := ⟨_, rfl⟩
      rw [hr1] at S2
      have R1 := Lib.hid hr1
      clear hr1
      have f := S2.out.nn.free 2
      have g := S2.out.nn.cell 2
      have c0 := S2.out.nn.cell 1
      simp only [List.getElem?_toArray, List.getElem?_cons_zero, List.getElem?_cons_succ] at c0 g
      have S3 := Lib.hid (S2.out.set (x' := u.nx) (y' := u.ny) (wd' := sS u.fx u.nx) (h' := 0) 2 (.int .i64 (sS u.fx u.nx)) rfl)
      go_wp2_with fail
      refine (subS_calls _ _ _).mono ?_
      rintro e w' ⟨rfl, rfl⟩
      go_wp2_with fail
      clear c0 f g
      refine (of_calls _ _ _ _ _ S3.out.ss).mono ?_
      rintro e w3 hp
      have S4 := Lib.hid (S3.out.of hp)
      obtain rfl := hp.e
      clear hp
      obtain ⟨r2, hr2⟩ : ∃ z : Bool, (r1 || !sSe u.fy u.ny) = z := ⟨_, rfl⟩
      rw [hr2] at S4
      have R2 := Lib.hid hr2
      clear hr2
      have f := S4.out.nn.free 3
      have g := S4.out.nn.cell 3
      simp only [List.getElem?_toArray, List.getElem?_cons_zero, List.getElem?_cons_succ] at g
      have S5 := Lib.hid (S4.out.set (x' := u.nx) (y' := u.ny) (wd' := sS u.fx u.nx) (h' := sS u.fy u.ny) 3 (.int .i64 (sS u.fy u.ny)) rfl)
      go_wp2_with fail
      clear f g
      generalize w3.setCell ⟨w.heap.size + 1 + 1, 3, none⟩ (.int .i64 (sS u.fy u.ny)) = w4 at S5 ⊢
      have hc := fun q => (FinU.cells (w0 := w) (sb := w.heap.size + 1) (nb := w.heap.size + 1 + 1) (x := u.nx) (y := u.ny) (wd := sS u.fx u.nx) (h := sS u.fy u.ny) (rough := r2) q)
      have c0 := fun q => (hc q).1
      have c1 := fun q => (hc q).2.1
      have c2 := fun q => (hc q).2.2.1
      have c3 := fun q => (hc q).2.2.2.1
      have c4 := fun q => (hc q).2.2.2.2
      clear hc
      have t0 : FinU w (w.heap.size + 1) (w.heap.size + 1 + 1) u.nx u.ny (sS u.fx u.nx) (sS u.fy u.ny) r2 0 w4.drew := S5.out.drewN 1
      have ne : Nonempty (Mix.Wd (FinU w (w.heap.size + 1) (w.heap.size + 1 + 1) u.nx u.ny (sS u.fx u.nx) (sS u.fy u.ny) r2) 0) := ⟨⟨w4.drew, 0, Nat.le_refl _, t0⟩⟩
      refine Mix.wp_region_mix (C := FinU w (w.heap.size + 1) (w.heap.size + 1 + 1) u.nx u.ny (sS u.fx u.nx) (sS u.fy u.ny) r2) [6] (by kernel_rfl) (by kernel_rfl) t0 ?_
      iterate 6 (refine Mix.mix_still (by decide) (fun K hK => ?_); go_simp; refine hK _ ?_; clear hK K)
      refine Mix.mix_turn (by decide) (fun K hK => ?_)
      go_simp
      refine ⟨⟨undef, fun yw hy => ?_⟩, hK _ ?_⟩
      · have t : Un w (w.heap.size + 1) (w.heap.size + 1 + 1) u.nx u.ny (sS u.fx u.nx) (sS u.fy u.ny) r2 yw := hy
        have d0 := t.oo.cell 0
        have d1 := t.oo.cell 1
        have d2 := t.oo.cell 2
        have d3 := t.oo.cell 3
        have f0 := t.oo.free 0
        have f1 := t.oo.free 1
        have f2 := t.oo.free 2
        have f3 := t.oo.free 3
        simp only [List.getElem?_toArray, List.getElem?_cons_zero, List.getElem?_cons_succ] at d0 d1 d2 d3
        have hs := FinU.store hy
        clear c0 c1 c2 c3 c4 ne t0 t hy
        go_simp
        all_goals exact hs
      clear hK K
      iterate 1 (refine Mix.mix_still (by decide) (fun K hK => ?_); go_simp; refine hK _ ?_; clear hK K)
      refine Mix.mix_nil ?_
      intro w' hw'
      have hw' : FinU w (w.heap.size + 1) (w.heap.size + 1 + 1) u.nx u.ny (sS u.fx u.nx) (sS u.fy u.ny) r2 1 w' := hw'
      have d0 := hw'.2.1.cell 0
      have d1 := hw'.2.1.cell 1
      have d2 := hw'.2.1.cell 2
      have d3 := hw'.2.1.cell 3
      simp only [List.getElem?_toArray, List.getElem?_cons_zero, List.getElem?_cons_succ] at d0 d1 d2 d3
      clear c0 c1 c2 c3 c4 ne t0
      have HW := Lib.hid hw'
      clear hw'
      go_wp2
      have hw' := HW.out
      exact bodyPost_ret (v := .tuple #[.agg #[.int .i64 (u.nx), .int .i64 (u.ny), .int .i64 (sS u.fx u.nx), .int .i64 (sS u.fy u.ny)], .bool (!r2)])
        (by simp [results, Try.results30, go_sem, d0, d1, d2, d3]) rfl
        ⟨by rw [HQ.out, R1.out, R2.out], hw'.2.2.2⟩

/-- Union, as a function. -/
def rect_Union.f (l : List S50) : Option (Int × Int × Int × Int × Bool) :=
  some (if l.length = 0 then (0, 0, 0, 0, true) else if allMay l = true then ((usOf l).nx, (usOf l).ny, sS (usOf l).fx (usOf l).nx, sS (usOf l).fy (usOf l).ny, !(((usOf l).rg || !sSe (usOf l).fx (usOf l).nx) || !sSe (usOf l).fy (usOf l).ny)) else (0, 0, 0, 0, false))
theorem rect_Union.calls (A0 : Option Addr) (c0 : Nat) (l0 : List S50) (r1 : Int) (r2 : Int) (r3 : Int) (r4 : Int) (r5 : Bool) (w : World) (hr0 : Kd.C k50 w A0 l0.length l0) (hc0 : l0.length ≤ c0) (h : rect_Union.f l0 = some (r1, r2, r3, r4, r5)) :
    Calls Try.prog 30 #[.slice A0 l0.length c0] w fun e w' => e = .returned (.tuple #[.agg #[.int .i64 r1, .int .i64 r2, .int .i64 r3, .int .i64 r4], .bool r5]) ∧ Below w.heap.size w w' := by
  have h' : (if l0.length = 0 then (0, 0, 0, 0, true) else if allMay l0 = true then ((usOf l0).nx, (usOf l0).ny, sS (usOf l0).fx (usOf l0).nx, sS (usOf l0).fy (usOf l0).ny, !(((usOf l0).rg || !sSe (usOf l0).fx (usOf l0).nx) || !sSe (usOf l0).fy (usOf l0).ny)) else (0, 0, 0, 0, false)) = (r1, r2, r3, r4, r5) := Option.some.inj h
  clear h
  by_cases hl : l0.length = 0
  · rw [if_pos hl] at h'
    simp only [Prod.mk.injEq] at h'
    obtain ⟨rfl, rfl, rfl, rfl, rfl⟩ := h'
    rw [hl]
    exact (union_nil A0 c0 w).mono fun e w' hp => ⟨hp.e, hp.below⟩
  · rw [if_neg hl] at h'
    refine (union_some A0 l0 c0 w hr0 hc0 (by omega) hr0.2.1 (r1, r2, r3, r4, r5) ?_ ?_).mono fun e w' hp => ⟨hp.e, hp.below⟩
    · intro k hk hm
      rw [if_neg (by rw [allMay_false l0 k hk hm]; decide)] at h'
      exact h'.symm
    · intro hm
      rw [if_pos hm] at h'
      exact h'.symm
end Go.Proofs.Ytnjheeoogglnaaa.Q
