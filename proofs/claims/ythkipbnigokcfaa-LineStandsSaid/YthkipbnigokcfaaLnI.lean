/- LineStands, walked: pieces of a line stand one behind the other, on its lower end, none above the next line's; and all lines are together as high as is told. -/
import Derived.Test.YthkipbnigokcfaaLnS
import Derived.Test.YthkipbnigokcfaaOps
namespace Go.Proofs.Ythkipbnigokcfaa.Q
open Go.RowKit Go.IntWalk Go.Proofs.Ythkipbnigokcfaa.Mem Go.Proofs.YthkipbnigokcfaaW.PrintWords Go.Proofs.YthkipbnigokcfaaW.PrintLast Go.Proofs.YthkipbnigokcfaaW.PrintMore
set_option linter.unusedVariables false
set_option linter.unusedSimpArgs false

set_option maxRecDepth 100000 in
set_option maxHeartbeats 8000000 in
theorem stands_walk (A0 : Option Addr) (c0 : Nat) (l0 : List S32) (a1 : Int) (a2 : Int) (w : World) (hr0 : Kd.C k32 w A0 l0.length l0) (hc0 : l0.length ≤ c0) (g0 : ((∀ y ∈ l0, (good32 y)) ∧ l0.length ≤ maxLen)) (g1 : ((Lit.int .i64 a1).wf = true)) (g2 : ((Lit.int .i64 a2).wf = true)) :
    Calls Try.prog 4 #[.slice A0 l0.length c0, .int .i64 a1, .int .i64 a2] w fun e w' => e = .returned (.bool true) ∧ Below w.heap.size w w' := by
  have HC := Lib.hid hr0
  have HCC := Lib.hid hc0
  clear hr0 hc0 g0 g1 g2
  by_cases h200 : (l0.length : Int) > 200
  · go_enter Try.func4, Try.ntmps4
    go_wp2_with (go_at_call 8; refine (sawake_calls _).mono ?_; rintro e w1 ⟨rfl, hb⟩; have B1 := Lib.hid hb; clear hb)
    go_ret
    exact ⟨rfl, B1.out⟩
  · have hfs := Lib.hid (fill_some l0 a1 a2 h200)
    have h2 : l0.length ≤ 200 := by omega
    cases hex : (fillR l0 a1 a2).2.2 with
    | false =>
      obtain ⟨q0, q1, q2, hq⟩ : ∃ q0 q1 q2, fillR l0 a1 a2 = (q0, q1, q2) := ⟨_, _, _, rfl⟩
      rw [hq] at hex
      dsimp only at hex
      subst hex
      have HQ := Lib.hid (hfs.out.trans (congrArg some hq))
      clear hq hfs h2
      go_enter Try.func4, Try.ntmps4
      go_wp2_with (first
        | (go_at_call 8; refine (sawake_calls _).mono ?_; rintro e w1 ⟨rfl, hb⟩; have B1 := Lib.hid hb; clear hb)
        | (go_at_call 9; refine (line_Fill.calls _ _ l0 a1 a2 q0 q1 false _ (Kd.C_below HC.out B1.out) HCC.out HQ.out).mono ?_; rintro e w2 ⟨v2, rfl, -, hb⟩; have B2 := Lib.hid (B1.out.trans (hb.mono B1.out.size)); clear hb))
      go_ret
      exact ⟨rfl, B2.out⟩
    | true =>
      obtain ⟨s, e1, hi, hop, hroom, hp, -⟩ := exact_inv hex
      have HQ := Lib.hid (hfs.out.trans (congrArg some e1))
      have HI := Lib.hid hi
      have HP := Lib.hid hp
      have HLEN := Lib.hid hi.len
      have HROOM := Lib.hid hroom
      have HN2 := Lib.hid h2
      have HOP := Lib.hid hop
      clear e1 hfs hex hi hop hp hroom h2
      go_enter Try.func4, Try.ntmps4
      go_wp2_with (first
        | (go_at_call 8; refine (sawake_calls _).mono ?_; rintro e w1 ⟨rfl, hb⟩; have B1 := Lib.hid hb; clear hb)
        | (go_at_call 9; refine (line_Fill.calls _ _ l0 a1 a2 s.out s.top true _ (Kd.C_below HC.out B1.out) HCC.out HQ.out).mono ?_; rintro e w2 ⟨v2, rfl, ho, hb⟩; have B2 := Lib.hid (B1.out.trans (hb.mono B1.out.size)); obtain ⟨A7, c7, hv7, hl7, hC7⟩ := Kd.R_reads ho; subst hv7; rw [HLEN.out] at hC7 ⊢; have HC7 := Lib.hid hC7; clear hb ho hl7 hC7))
      go_loopw [10, 31] (fun ev iv wr => ∃ (e : Int) (t : Nat), ev = .int .i64 e ∧ iv = .int .i64 t ∧ Hid (t ≤ l0.length ∧ Eok l0 s t e) ∧ Hid (Below w2.heap.size w2 wr)) (fun _ iv _ => l0.length - (intOf iv).toNat)
      case atStart => exact ⟨0, 0, rfl, rfl, Lib.hid ⟨Nat.zero_le _, .inl rfl⟩, Lib.hid (Below.refl _ _)⟩
      case round =>
        obtain ⟨e, t, rfl, rfl, HT, Q⟩ := hrel
        by_cases htn : t < l0.length
        · obtain ⟨L, hL⟩ : ∃ L, L = (gt s t).f1 := ⟨_, rfl⟩
          obtain ⟨X, hX⟩ : ∃ X, X = (gt s t).f2.f0 := ⟨_, rfl⟩
          obtain ⟨Y, hY⟩ : ∃ Y, Y = (gt s t).f2.f1 := ⟨_, rfl⟩
          obtain ⟨W, hW⟩ : ∃ W, W = (pc l0 t).f1 := ⟨_, rfl⟩
          obtain ⟨H, hH⟩ : ∃ H, H = (pc l0 t).f2 := ⟨_, rfl⟩
          obtain ⟨G, hG⟩ : ∃ G, G = (pc l0 t).f3 := ⟨_, rfl⟩
          have hf := st_facts HI.out HOP.out HP.out htn
          rw [← hX, ← hY, ← hW, ← hH, ← hG] at hf
          obtain ⟨ad, rfl, e0, e1, e2, e3, e4, e5⟩ := at_T30 (Kd.C_below HC7.out Q.out) (t : Int) (by omega) (by omega)
          obtain ⟨al, rfl, -, g1, g2, g3, -⟩ := at_T32 (Kd.C_below HC.out (B2.out.trans (Q.out.mono B2.out.size))) (t : Int) (by omega) (by omega)
          rw [rd_gt, Int.toNat_natCast] at e0 e1 e2 e3 e4 e5
          rw [rd_pc, Int.toNat_natCast] at g1 g2 g3
          rw [(HI.out.isk t htn).1] at e0
          rw [(HI.out.isk t htn).2.1, ← hW] at e4
          rw [(HI.out.isk t htn).2.2.1, ← hH] at e5
          rw [← hL] at e1
          rw [← hX] at e2
          rw [← hY] at e3
          rw [← hW] at g1
          rw [← hH] at g2
          rw [← hG] at g3
          have DL := Lib.hid hL
          have DX := Lib.hid hX
          have DY := Lib.hid hY
          have DW := Lib.hid hW
          have DH := Lib.hid hH
          have DG := Lib.hid hG
          clear hL hX hY hW hH hG
          have u1 : (0 : Int) ≤ (t : Int) := by omega
          have u2 : (t : Int) < (l0.length : Int) := by omega
          obtain ⟨nx, ny, hf⟩ := hf
          have HF := Lib.hid hf
          clear hf
          go_upto_region 12 with (fail)
          have Q3 := Lib.hid (Q.out.alloc Q.out.size (.cells #[.int .i64 (t : Int), .int .i64 L, .int .i64 X, .int .i64 Y, .int .i64 W, .int .i64 H] 30))
          have HB3 := Lib.hid (Blk.alloc wr #[.int .i64 (t : Int), .int .i64 L, .int .i64 X, .int .i64 Y, .int .i64 W, .int .i64 H] 30)
          have hcl : ∀ p v, wr.cell? p = some v → (wr.alloc (.cells #[.int .i64 (t : Int), .int .i64 L, .int .i64 X, .int .i64 Y, .int .i64 W, .int .i64 H] 30)).cell? p = some v := fun p v h => ((Below.refl _ wr).alloc (Nat.le_refl _) (.cells #[.int .i64 (t : Int), .int .i64 L, .int .i64 X, .int .i64 Y, .int .i64 W, .int .i64 H] 30)).cell (World.block_lt_of_cell? wr _ h) |>.trans h
          replace g1 := hcl _ _ g1
          replace g2 := hcl _ _ g2
          replace g3 := hcl _ _ g3
          obtain ⟨pb, hpb⟩ : ∃ pb, pb = wr.heap.size := ⟨_, rfl⟩
          rw [← hpb] at HB3 ⊢
          generalize wr.alloc (.cells #[.int .i64 (t : Int), .int .i64 L, .int .i64 X, .int .i64 Y, .int .i64 W, .int .i64 H] 30) = W1 at Q3 HB3 g1 g2 g3 ⊢
          clear hpb hcl e0 e1 e2 e3 e4 e5 Q
          have p0 := HB3.out.cell 0
          have p2 := HB3.out.cell 2
          have p3 := HB3.out.cell 3
          have p4 := HB3.out.cell 4
          have p5 := HB3.out.cell 5
          simp only [List.getElem?_toArray, List.getElem?_cons_zero, List.getElem?_cons_succ] at p0 p2 p3 p4 p5
          go_still (by kernel_rfl)
          clear g1 g2 g3 p0 p2 p3 p4 p5
          show Exit.then _ _ _ _ W1.drew
          have Q4 := Lib.hid (Q3.out.trans (below_drew (Below.refl _ _)))
          have HB4 := Lib.hid (HB3.out.below (below_drew (Below.refl _ _)) HB3.out.lt)
          generalize W1.drew = W4 at Q4 HB4 ⊢
          clear Q3 HB3 nx ny
          rcases Nat.eq_zero_or_pos t with ht0 | ht0
          · as_aux_lemma =>
              have he0 : e = 0 := by
                rcases HT.out.2 with h | ⟨i, h, -⟩
                · exact h
                · omega
              have HE := Lib.hid (show t + 1 ≤ l0.length ∧ Eok l0 s (t + 1) e from ⟨by omega, .inl he0⟩)
              have hle : ¬ Y < e := by have := st_facts HI.out HOP.out HP.out htn; rw [← DY.out] at this; omega
              have v1 : decide (0 < t) = false := decide_eq_false (by omega)
              have v1b : decide ((0 : Int) < (t : Int)) = false := decide_eq_false (by omega)
              clear he0 ht0
              go_upto_region 14 with (fail)
              go_quiet (fail)
              have Q5 := Lib.hid (Q4.out.trans (pw_below_drewN (Below.refl _ _) nq))
              have HB5 := Lib.hid (HB4.out.below (pw_below_drewN (Below.refl _ _) nq) HB4.out.lt)
              generalize W4.drewN nq = W5 at Q5 HB5 ⊢
              clear Q4 HB4
              go_upto_region 18 with (fail)
              go_quiet (fail)
              have Q6 := Lib.hid (Q5.out.trans (pw_below_drewN (Below.refl _ _) nq))
              have HB6 := Lib.hid (HB5.out.below (pw_below_drewN (Below.refl _ _) nq) HB5.out.lt)
              generalize W5.drewN nq = W6 at Q6 HB6 ⊢
              clear Q5 HB5
              clear v1 v1b
              have p3 := HB6.out.cell 3
              have p5 := HB6.out.cell 5
              simp only [List.getElem?_toArray, List.getElem?_cons_zero, List.getElem?_cons_succ] at p3 p5
              have hf := HF.out
              have hy := (y_in HI.out HOP.out HP.out htn).1
              rw [← DY.out] at hy
              have v0 : IntKind.i64.wrap ((t : Int) + 1) = (t : Int) + 1 := i64_in _ (by omega)
              have v1 : IntKind.i64.wrap (Y + H) = Y + H := i64_in _ (by omega)
              by_cases hl : t + 1 = l0.length
              · have HTE := Lib.hid (show Y + H = s.top from by rw [DY.out, DH.out]; exact st_last HI.out HOP.out hl)
                have v2 : ((t : Int) + 1 == (l0.length : Int)) = true := by simp; omega
                have v3 : ((Y + H) != s.top) = false := by rw [HTE.out]; exact bne_self_eq_false _
                clear hf hl hy
                go_wp2_with fail
                go_roundw
                case rel => exact ⟨e, t + 1, rfl, by go_num, HE, Q6⟩
                case measure => simp [intOf]; omega
              · have v2 : ((t : Int) + 1 == (l0.length : Int)) = false := by simp; omega
                clear hf hl hy
                go_wp2_with fail
                go_roundw
                case rel => exact ⟨e, t + 1, rfl, by go_num, HE, Q6⟩
                case measure => simp [intOf]; omega
          · have HF1 := Lib.hid (st_facts HI.out HOP.out HP.out (t := t - 1) (by omega))
            obtain ⟨L1, DL1⟩ : ∃ L, Hid (L = (gt s (t - 1)).f1) := ⟨_, Lib.hid rfl⟩
            obtain ⟨X1, DX1⟩ : ∃ X, Hid (X = (gt s (t - 1)).f2.f0) := ⟨_, Lib.hid rfl⟩
            obtain ⟨Y1, DY1⟩ : ∃ Y, Hid (Y = (gt s (t - 1)).f2.f1) := ⟨_, Lib.hid rfl⟩
            obtain ⟨V1, DV1⟩ : ∃ W, Hid (W = (pc l0 (t - 1)).f1) := ⟨_, Lib.hid rfl⟩
            obtain ⟨H1, DH1⟩ : ∃ H, Hid (H = (pc l0 (t - 1)).f2) := ⟨_, Lib.hid rfl⟩
            have HA1 := Lib.hid (show ∀ Wx, Below w2.heap.size w2 Wx → Wx.cell? ⟨(ad.add ((t - 1) * 6)).block, (ad.add ((t - 1) * 6)).off + 1, none⟩ = some (.int .i64 L1) ∧ Wx.cell? ⟨(ad.add ((t - 1) * 6)).block, (ad.add ((t - 1) * 6)).off + 2, none⟩ = some (.int .i64 X1) ∧
                Wx.cell? ⟨(ad.add ((t - 1) * 6)).block, (ad.add ((t - 1) * 6)).off + 3, none⟩ = some (.int .i64 Y1) ∧ Wx.cell? ⟨(ad.add ((t - 1) * 6)).block, (ad.add ((t - 1) * 6)).off + 4, none⟩ = some (.int .i64 V1) ∧ Wx.cell? ⟨(ad.add ((t - 1) * 6)).block, (ad.add ((t - 1) * 6)).off + 5, none⟩ = some (.int .i64 H1) from fun Wx hW => by
              obtain ⟨ad1, h1, -, e1, e2, e3, e4, e5⟩ := at_T30 (Kd.C_below HC7.out hW) ((t - 1 : Nat) : Int) (by omega) (by omega)
              obtain rfl := Option.some.inj h1
              rw [rd_gt, Int.toNat_natCast] at e1 e2 e3 e4 e5
              rw [(HI.out.isk (t - 1) (by omega)).2.1, ← DV1.out] at e4
              rw [(HI.out.isk (t - 1) (by omega)).2.2.1, ← DH1.out] at e5
              rw [← DL1.out] at e1
              rw [← DX1.out] at e2
              rw [← DY1.out] at e3
              exact ⟨e1, e2, e3, e4, e5⟩)
            have HA0 := Lib.hid (show ∀ Wx, Below w2.heap.size w2 Wx → Wx.cell? ⟨(al.add (t * 6)).block, (al.add (t * 6)).off + 3, none⟩ = some (.int .i64 G) from fun Wx hW => by
              obtain ⟨al1, h1, -, g1, g2, g3, -⟩ := at_T32 (Kd.C_below HC.out (B2.out.trans (hW.mono B2.out.size))) (t : Int) (by omega) (by omega)
              obtain rfl := Option.some.inj h1
              rw [rd_pc, Int.toNat_natCast, ← DG.out] at g3
              exact g3)
            have hst := st_step HI.out HOP.out (j := t) ht0 htn
            rw [← DL.out, ← DL1.out, ← DX.out, ← DX1.out, ← DY.out, ← DY1.out, ← DV1.out, ← DH.out, ← DH1.out, ← DG.out] at hst
            have v1 : (1 : Int) ≤ (t : Int) := by omega
            have v2 : IntKind.i64.wrap ((t : Int) - 1) = (t : Int) - 1 := i64_in _ (by omega)
            have v3 : ((t : Int) - 1).toNat = t - 1 := by omega
            have v4 : (t : Int) - 1 < (l0.length : Int) := by omega
            have v9 : 0 < t := ht0
            rcases hst with ⟨hs1, hs2, hs3⟩ | ⟨hs1, hs2⟩
            · as_aux_lemma =>
                  obtain ⟨hle, hE⟩ := st_same HI.out HOP.out ht0 htn HT.out.2 (by rw [← DL.out, ← DL1.out]; exact hs1)
                  rw [← DY.out] at hle
                  have hle : ¬ Y < e := by omega
                  have HE := Lib.hid hE
                  have HS2 := Lib.hid hs2
                  have HS3 := Lib.hid hs3
                  have HV := Lib.hid (show 1 ≤ t ∧ t < l0.length from ⟨ht0, htn⟩)
                  clear hE hs2 hs3 ht0
                  subst hs1
                  obtain ⟨c1, -⟩ := HA1.out _ Q4.out
                  go_upto_region 14 with (fail)
                  have p1 := HB4.out.cell 1
                  simp only [List.getElem?_toArray, List.getElem?_cons_zero, List.getElem?_cons_succ] at p1
                  go_still (by kernel_rfl)
                  clear c1 p1
                  show Exit.then _ _ _ _ W4.drew
                  have Q5 := Lib.hid (Q4.out.trans (below_drew (Below.refl _ _)))
                  have HB5 := Lib.hid (HB4.out.below (below_drew (Below.refl _ _)) HB4.out.lt)
                  generalize W4.drew = W5 at Q5 HB5 ⊢
                  clear Q4 HB4
                  obtain ⟨-, c2, c3, c4, c5⟩ := HA1.out _ Q5.out
                  go_upto_region 16 with (fail)
                  clear c2 c3 c4 c5
                  have Q6 := Lib.hid (Q5.out.alloc Q5.out.size (.cells #[.int .i64 X1, .int .i64 Y1, .int .i64 V1, .int .i64 H1] 28))
                  have HB6 := Lib.hid (HB5.out.alloc_old (.cells #[.int .i64 X1, .int .i64 Y1, .int .i64 V1, .int .i64 H1] 28))
                  have HR6 := Lib.hid (Blk.alloc W5 #[.int .i64 X1, .int .i64 Y1, .int .i64 V1, .int .i64 H1] 28)
                  obtain ⟨rb, hrb⟩ : ∃ rb, rb = W5.heap.size := ⟨_, rfl⟩
                  rw [← hrb] at HR6 ⊢
                  generalize W5.alloc (.cells #[.int .i64 X1, .int .i64 Y1, .int .i64 V1, .int .i64 H1] 28) = W6 at Q6 HB6 HR6 ⊢
                  clear hrb Q5 HB5
                  have p2 := HB6.out.cell 2
                  have p3 := HB6.out.cell 3
                  have p5 := HB6.out.cell 5
                  simp only [List.getElem?_toArray, List.getElem?_cons_zero, List.getElem?_cons_succ] at p2 p3 p5
                  have r0 := HR6.out.cell 0
                  have r1 := HR6.out.cell 1
                  have r2 := HR6.out.cell 2
                  have r3 := HR6.out.cell 3
                  simp only [List.getElem?_toArray, List.getElem?_cons_zero, List.getElem?_cons_succ] at r0 r1 r2 r3
                  have g3 := HA0.out _ Q6.out
                  have hf := HF.out
                  have hf1 := HF1.out
                  rw [← DX1.out, ← DY1.out, ← DV1.out, ← DH1.out] at hf1
                  have hs2 := HS2.out
                  have hs3 := HS3.out
                  have x1 : IntKind.i64.wrap (X1 + V1) = X1 + V1 := i64_in _ (by omega)
                  have x2 : IntKind.i64.wrap (X1 + V1 + G) = X1 + V1 + G := i64_in _ (by omega)
                  have x3 : IntKind.i64.wrap (Y + H) = Y + H := i64_in _ (by omega)
                  have x4 : IntKind.i64.wrap (Y1 + H1) = Y1 + H1 := i64_in _ (by omega)
                  have x5 : (X != X1 + V1 + G) = false := by rw [hs2]; exact bne_self_eq_false _
                  have x6 : ((Y + H) != (Y1 + H1)) = false := by rw [hs3]; exact bne_self_eq_false _
                  clear hf hf1 hs2 hs3
                  go_still (by kernel_rfl)
                  clear p2 p3 p5 r0 r1 r2 r3 g3 x1 x2 x3 x4 x5 x6
                  show Exit.then _ _ _ _ W6.drew
                  have Q7 := Lib.hid (Q6.out.trans (below_drew (Below.refl _ _)))
                  have HB7 := Lib.hid (HB6.out.below (below_drew (Below.refl _ _)) HB6.out.lt)
                  generalize W6.drew = W7 at Q7 HB7 ⊢
                  clear Q6 HB6
                  clear HR6
                  obtain ⟨c1, -⟩ := HA1.out _ Q7.out
                  go_upto_region 18 with (fail)
                  have p1 := HB7.out.cell 1
                  simp only [List.getElem?_toArray, List.getElem?_cons_zero, List.getElem?_cons_succ] at p1
                  go_still (by kernel_rfl)
                  clear c1 p1 v1 v2 v3 v4 v9
                  show Exit.then _ _ _ _ W7.drew
                  have Q8 := Lib.hid (Q7.out.trans (below_drew (Below.refl _ _)))
                  have HB8 := Lib.hid (HB7.out.below (below_drew (Below.refl _ _)) HB7.out.lt)
                  generalize W7.drew = W8 at Q8 HB8 ⊢
                  clear Q7 HB7
                  have p3 := HB8.out.cell 3
                  have p5 := HB8.out.cell 5
                  simp only [List.getElem?_toArray, List.getElem?_cons_zero, List.getElem?_cons_succ] at p3 p5
                  have hf := HF.out
                  have hy := (y_in HI.out HOP.out HP.out htn).1
                  rw [← DY.out] at hy
                  have v0 : IntKind.i64.wrap ((t : Int) + 1) = (t : Int) + 1 := i64_in _ (by omega)
                  have v1 : IntKind.i64.wrap (Y + H) = Y + H := i64_in _ (by omega)
                  by_cases hl : t + 1 = l0.length
                  · have HTE := Lib.hid (show Y + H = s.top from by rw [DY.out, DH.out]; exact st_last HI.out HOP.out hl)
                    have v2 : ((t : Int) + 1 == (l0.length : Int)) = true := by simp; omega
                    have v3 : ((Y + H) != s.top) = false := by rw [HTE.out]; exact bne_self_eq_false _
                    clear hf hl hy
                    go_wp2_with fail
                    go_roundw
                    case rel => exact ⟨e, t + 1, rfl, by go_num, HE, Q8⟩
                    case measure => simp [intOf]; omega
                  · have v2 : ((t : Int) + 1 == (l0.length : Int)) = false := by simp; omega
                    clear hf hl hy
                    go_wp2_with fail
                    go_roundw
                    case rel => exact ⟨e, t + 1, rfl, by go_num, HE, Q8⟩
                    case measure => simp [intOf]; omega
            · as_aux_lemma =>
                  have hE := st_other (l := l0) ht0 htn (by rw [← DL.out, ← DL1.out]; exact hs1)
                  rw [← DY1.out, ← DH1.out] at hE
                  have hle : ¬ Y < Y1 + H1 := by omega
                  have HE := Lib.hid hE
                  have HV := Lib.hid (show 1 ≤ t ∧ t < l0.length from ⟨ht0, htn⟩)
                  have l1 : (L1 == L) = false := by simp; omega
                  have l2 : (L1 != L) = true := by simp; omega
                  clear hE hs1 hs2 ht0
                  obtain ⟨c1, -⟩ := HA1.out _ Q4.out
                  go_upto_region 14 with (fail)
                  have p1 := HB4.out.cell 1
                  simp only [List.getElem?_toArray, List.getElem?_cons_zero, List.getElem?_cons_succ] at p1
                  go_still (by kernel_rfl)
                  clear c1 p1 l1
                  show Exit.then _ _ _ _ W4.drew
                  have Q7 := Lib.hid (Q4.out.trans (below_drew (Below.refl _ _)))
                  have HB7 := Lib.hid (HB4.out.below (below_drew (Below.refl _ _)) HB4.out.lt)
                  generalize W4.drew = W7 at Q7 HB7 ⊢
                  clear Q4 HB4
                  obtain ⟨c1, -⟩ := HA1.out _ Q7.out
                  go_upto_region 18 with (fail)
                  have p1 := HB7.out.cell 1
                  simp only [List.getElem?_toArray, List.getElem?_cons_zero, List.getElem?_cons_succ] at p1
                  go_still (by kernel_rfl)
                  clear c1 p1 l2
                  show Exit.then _ _ _ _ W7.drew
                  have Q8 := Lib.hid (Q7.out.trans (below_drew (Below.refl _ _)))
                  have HB8 := Lib.hid (HB7.out.below (below_drew (Below.refl _ _)) HB7.out.lt)
                  generalize W7.drew = W8 at Q8 HB8 ⊢
                  clear Q7 HB7
                  obtain ⟨-, -, c3, -, c5⟩ := HA1.out _ Q8.out
                  have hf1 := HF1.out
                  rw [← DX1.out, ← DY1.out, ← DV1.out, ← DH1.out] at hf1
                  have x4 : IntKind.i64.wrap (Y1 + H1) = Y1 + H1 := i64_in _ (by omega)
                  clear hf1
                  go_upto_region 19 with (fail)
                  go_still (by kernel_rfl)
                  clear c3 c5 x4 v1 v2 v3 v4 v9
                  show Exit.then _ _ _ _ W8.drew
                  have Q9 := Lib.hid (Q8.out.trans (below_drew (Below.refl _ _)))
                  have HB9 := Lib.hid (HB8.out.below (below_drew (Below.refl _ _)) HB8.out.lt)
                  generalize W8.drew = W9 at Q9 HB9 ⊢
                  clear Q8 HB8
                  have p3 := HB9.out.cell 3
                  have p5 := HB9.out.cell 5
                  simp only [List.getElem?_toArray, List.getElem?_cons_zero, List.getElem?_cons_succ] at p3 p5
                  have hf := HF.out
                  have hy := (y_in HI.out HOP.out HP.out htn).1
                  rw [← DY.out] at hy
                  have v0 : IntKind.i64.wrap ((t : Int) + 1) = (t : Int) + 1 := i64_in _ (by omega)
                  have v1 : IntKind.i64.wrap (Y + H) = Y + H := i64_in _ (by omega)
                  by_cases hl : t + 1 = l0.length
                  · have HTE := Lib.hid (show Y + H = s.top from by rw [DY.out, DH.out]; exact st_last HI.out HOP.out hl)
                    have v2 : ((t : Int) + 1 == (l0.length : Int)) = true := by simp; omega
                    have v3 : ((Y + H) != s.top) = false := by rw [HTE.out]; exact bne_self_eq_false _
                    clear hf hl hy
                    go_wp2_with fail
                    go_roundw
                    case rel => exact ⟨Y1 + H1, t + 1, rfl, by go_num, HE, Q9⟩
                    case measure => simp [intOf]; omega
                  · have v2 : ((t : Int) + 1 == (l0.length : Int)) = false := by simp; omega
                    clear hf hl hy
                    go_wp2_with fail
                    go_roundw
                    case rel => exact ⟨Y1 + H1, t + 1, rfl, by go_num, HE, Q9⟩
                    case measure => simp [intOf]; omega
        · have u3 : ¬ (t : Int) < (l0.length : Int) := by omega
          rcases Nat.eq_zero_or_pos l0.length with h0 | h0
          · have v1 : decide (0 < l0.length) = false := decide_eq_false (by omega)
            have v2 : (s.top == 0) = true := by rw [(HI.out.top0 (by have := HOP.out; omega)).1]; rfl
            clear h0
            go_wp2_with fail
            go_ret
            exact ⟨rfl, (B2.out.trans (Q.out.mono B2.out.size))⟩
          · have v1 : decide (0 < l0.length) = true := decide_eq_true h0
            go_wp2_with fail
            go_ret
            exact ⟨rfl, (B2.out.trans (Q.out.mono B2.out.size))⟩
end Go.Proofs.Ythkipbnigokcfaa.Q
