/- Wide: what it computes, and that the Go code computes it. -/
import Derived.Test.YthkipbnigokcfaaLnB
namespace Go.Proofs.Ythkipbnigokcfaa.Q
open Go.RowKit Go.IntWalk Go.Proofs.Ythkipbnigokcfaa.Mem Go.Proofs.YthkipbnigokcfaaW.PrintWords Go.Proofs.YthkipbnigokcfaaW.PrintLast Go.Proofs.YthkipbnigokcfaaW.PrintMore
set_option linter.unusedVariables false
set_option linter.unusedSimpArgs false
attribute [local go_sem] max2_I

def wdF (l : List Pl) (k : Nat) (f : Int) : Int := if k = 0 ∨ (rd_T30 l ((k : Int) - 1)).f1 ≠ (rd_T30 l k).f1 then (rd_T30 l k).f2.f0 else f
def wd (l : List Pl) : Nat → Int × Int
  | 0 => (0, 0)
  | k + 1 => (mxI (wd l k).1 (wrap64 (wrap64 ((rd_T30 l k).f2.f0 + (rd_T30 l k).f2.f2) - wdF l k (wd l k).2)), wdF l k (wd l k).2)

theorem mx_if (m x : Int) : Value.int .i64 (if m < x then x else m) = .int .i64 (mxI m x) := by
  congr 1; unfold mxI; split <;> omega
set_option maxRecDepth 100000 in
set_option maxHeartbeats 4000000 in
theorem wide_calls (A : Option Addr) (c : Nat) (l : List Pl) (w : World) (hC : Kd.C k30 w A l.length l) (hL : l.length ≤ 1000000000000) :
    Calls Try.prog 14 #[.slice A l.length c] w fun e w' => e = .returned (.int .i64 (wd l l.length).1) ∧ Below w.heap.size w w' := by
  have HC := Lib.hid hC
  clear hC
  go_enter Try.func14, Try.ntmps14
  go_wp2_with fail
  go_loopw [3, 4, 9] (fun m f i wr => ∃ k : Nat, k ≤ l.length ∧ i = .int .i64 k ∧ m = .int .i64 (wd l k).1 ∧ f = .int .i64 (wd l k).2 ∧ Hid (Below w.heap.size w wr)) (fun _ _ i wr => l.length - (intOf i).toNat)
  case atStart => exact ⟨0, Nat.zero_le _, rfl, rfl, rfl, Lib.hid (Below.refl _ _)⟩
  case round =>
    obtain ⟨k, hk, rfl, rfl, rfl, P⟩ := hrel
    by_cases hlt : k < l.length
    · have hCr := Kd.C_below HC.out P.out
      obtain ⟨ad, rfl, e0, e1, e2, e3, e4, e5⟩ := at_T30 hCr (k : Int) (by omega) (by omega)
      have hS1 : Hid ((wd l (k + 1)).1 = mxI (wd l k).1 (wrap64 (wrap64 ((rd_T30 l k).f2.f0 + (rd_T30 l k).f2.f2) - wdF l k (wd l k).2))) := Lib.hid rfl
      have hS2 : Hid ((wd l (k + 1)).2 = wdF l k (wd l k).2) := Lib.hid rfl
      have hF : Hid (∀ f, wdF l k f = if k = 0 ∨ (rd_T30 l ((k : Int) - 1)).f1 ≠ (rd_T30 l k).f1 then (rd_T30 l k).f2.f0 else f) := Lib.hid (fun f => rfl)
      have hD : Hid (0 < k → wr.cell? ⟨(ad.add ((k - 1) * 6)).block, (ad.add ((k - 1) * 6)).off + 1, none⟩ = some (.int .i64 (rd_T30 l ((k : Int) - 1)).f1)) := Lib.hid (fun h0 => by
        obtain ⟨ad', h', -, d1, -⟩ := at_T30 hCr ((k : Int) - 1) (by omega) (by omega)
        obtain rfl := Option.some.inj h'
        rw [show ((k : Int) - 1).toNat = k - 1 from by omega] at d1
        exact d1)
      clear hCr
      generalize wd l k = m at *
      obtain ⟨m1, m2⟩ := m
      dsimp only at *
      generalize rd_T30 l (k : Int) = x at *
      generalize (rd_T30 l ((k : Int) - 1)).f1 = ln at *
      obtain ⟨x0, x1, y0, y1, y2, y3⟩ := x
      dsimp only at *
      simp only [Int.toNat_natCast] at e0 e1 e2 e3 e4 e5
      rcases Nat.eq_zero_or_pos k with hk0 | hk0
      · have hff := Lib.hid ((hF.out m2).trans (if_pos (.inl hk0)))
        have i3 : ((k : Int) == 0) = true := by simp; omega
        clear hk0
        have DD : True := trivial
        go_upto_region 5 with (fail)
        have HP1 := Lib.hid (P.out.alloc P.out.size (.cells #[.int .i64 x0, .int .i64 x1, .int .i64 y0, .int .i64 y1, .int .i64 y2, .int .i64 y3] 30))
        have HB1 := Lib.hid (Blk.alloc wr #[.int .i64 x0, .int .i64 x1, .int .i64 y0, .int .i64 y1, .int .i64 y2, .int .i64 y3] 30)
        obtain ⟨pb, hpb⟩ : ∃ pb, pb = wr.heap.size := ⟨_, rfl⟩
        rw [← hpb] at HB1 ⊢
        generalize wr.alloc (.cells #[.int .i64 x0, .int .i64 x1, .int .i64 y0, .int .i64 y1, .int .i64 y2, .int .i64 y3] 30) = W1 at HP1 HB1 DD ⊢
        clear hpb e0 e1 e2 e3 e4 e5 P
        go_quiet (fail)
        have HP2 := Lib.hid (pw_below_drewN HP1.out nq)
        have HB2 := Lib.hid (HB1.out.drewN nq)
        generalize W1.drewN nq = W2 at HP2 HB2 ⊢
        have p0 := HB2.out.cell 0
        have p2 := HB2.out.cell 2
        have p4 := HB2.out.cell 4
        simp only [List.getElem?_toArray, List.getElem?_cons_zero, List.getElem?_cons_succ] at p0 p2 p4
        go_wp2_with fail
        go_roundw
        case rel => exact ⟨k + 1, by omega, by go_num, by rw [hS1.out, hff.out]; first | rfl | exact mx_if _ _, by rw [hS2.out, hff.out], HP2⟩
        case measure => simp [intOf]; omega
      · have d1 := hD.out hk0
        have DD := Lib.hid (fun (W' : World) (hb : Below wr.heap.size wr W') => (hb.cell (World.block_lt_of_cell? wr _ d1)).trans d1)
        have DD := Lib.hid (DD.out _ (Below.refl _ _ |>.alloc (Nat.le_refl _) (.cells #[.int .i64 x0, .int .i64 x1, .int .i64 y0, .int .i64 y1, .int .i64 y2, .int .i64 y3] 30)))
        clear d1
        have i1 : (1 : Int) ≤ (k : Int) := by omega
        have i2 : (k : Int) - 1 < (l.length : Int) := by omega
        have i3 : ((k : Int) == 0) = false := by simp; omega
        have i5 : IntKind.i64.wrap ((k : Int) - 1) = (k : Int) - 1 := i64_in _ (by omega)
        go_upto_region 5 with (fail)
        have HP1 := Lib.hid (P.out.alloc P.out.size (.cells #[.int .i64 x0, .int .i64 x1, .int .i64 y0, .int .i64 y1, .int .i64 y2, .int .i64 y3] 30))
        have HB1 := Lib.hid (Blk.alloc wr #[.int .i64 x0, .int .i64 x1, .int .i64 y0, .int .i64 y1, .int .i64 y2, .int .i64 y3] 30)
        obtain ⟨pb, hpb⟩ : ∃ pb, pb = wr.heap.size := ⟨_, rfl⟩
        rw [← hpb] at HB1 ⊢
        generalize wr.alloc (.cells #[.int .i64 x0, .int .i64 x1, .int .i64 y0, .int .i64 y1, .int .i64 y2, .int .i64 y3] 30) = W1 at HP1 HB1 DD ⊢
        clear hpb e0 e1 e2 e3 e4 e5 P
        have dd := DD.out
        have p1 := HB1.out.cell 1
        simp only [List.getElem?_toArray, List.getElem?_cons_zero, List.getElem?_cons_succ] at p1
        by_cases hln : ln = x1
        · have hff := Lib.hid ((hF.out m2).trans (if_neg (fun h => h.elim (fun h => by omega) (fun h => h hln))))
          subst hln
          go_still (by kernel_rfl)
          clear dd p1
          show Exit.then _ _ _ _ W1.drew
          have HP2 : Hid (Below w.heap.size w W1.drew) := Lib.hid (below_drew HP1.out)
          have HB2 := Lib.hid HB1.out.drew
          generalize W1.drew = W2 at HP2 HB2 ⊢
          have p0 := HB2.out.cell 0
          have p2 := HB2.out.cell 2
          have p4 := HB2.out.cell 4
          simp only [List.getElem?_toArray, List.getElem?_cons_zero, List.getElem?_cons_succ] at p0 p2 p4
          go_wp2_with fail
          go_roundw
          case rel => exact ⟨k + 1, by omega, by go_num, by rw [hS1.out, hff.out]; first | rfl | exact mx_if _ _, by rw [hS2.out, hff.out], HP2⟩
          case measure => simp [intOf]; omega
        · have hff := Lib.hid ((hF.out m2).trans (if_pos (.inr hln)))
          have i4 : (ln == x1) = false := by simp [hln]
          go_still (by kernel_rfl)
          clear dd p1
          show Exit.then _ _ _ _ W1.drew
          have HP2 : Hid (Below w.heap.size w W1.drew) := Lib.hid (below_drew HP1.out)
          have HB2 := Lib.hid HB1.out.drew
          generalize W1.drew = W2 at HP2 HB2 ⊢
          have p0 := HB2.out.cell 0
          have p2 := HB2.out.cell 2
          have p4 := HB2.out.cell 4
          simp only [List.getElem?_toArray, List.getElem?_cons_zero, List.getElem?_cons_succ] at p0 p2 p4
          go_wp2_with fail
          go_roundw
          case rel => exact ⟨k + 1, by omega, by go_num, by rw [hS1.out, hff.out]; first | rfl | exact mx_if _ _, by rw [hS2.out, hff.out], HP2⟩
          case measure => simp [intOf]; omega
    · have hkl : Hid (k = l.length) := Lib.hid (by omega)
      go_wp2_with fail
      go_ret
      exact ⟨by rw [← hkl.out]; rfl, P.out⟩
end Go.Proofs.Ythkipbnigokcfaa.Q
