/- LineRoom, walked: no line is wider than the room but one of one row; and a row that stands in the next line had no room in the one ahead. -/
import Derived.Test.YthkipbnigokcfaaLnG
import Derived.Test.YthkipbnigokcfaaOps
namespace Go.Proofs.Ythkipbnigokcfaa.Q
open Go.RowKit Go.IntWalk Go.Proofs.Ythkipbnigokcfaa.Mem Go.Proofs.YthkipbnigokcfaaW.PrintWords Go.Proofs.YthkipbnigokcfaaW.PrintLast Go.Proofs.YthkipbnigokcfaaW.PrintMore
set_option linter.unusedVariables false
set_option linter.unusedSimpArgs false

set_option maxRecDepth 100000 in
set_option maxHeartbeats 8000000 in
theorem room_walk (A0 : Option Addr) (c0 : Nat) (l0 : List S32) (a1 : Int) (a2 : Int) (w : World) (hr0 : Kd.C k32 w A0 l0.length l0) (hc0 : l0.length ≤ c0) (g0 : ((∀ y ∈ l0, (good32 y)) ∧ l0.length ≤ maxLen)) (g1 : ((Lit.int .i64 a1).wf = true)) (g2 : ((Lit.int .i64 a2).wf = true)) :
    Calls Try.prog 3 #[.slice A0 l0.length c0, .int .i64 a1, .int .i64 a2] w fun e w' => e = .returned (.bool true) ∧ Below w.heap.size w w' := by
  have HC := Lib.hid hr0
  have HCC := Lib.hid hc0
  clear hr0 hc0 g0 g1 g2
  by_cases h200 : (l0.length : Int) > 200
  · go_enter Try.func3, Try.ntmps3
    go_wp2_with (go_at_call 8; refine (sawake_calls _).mono ?_; rintro e w1 ⟨rfl, hb⟩; have B1 := Lib.hid hb; clear hb)
    go_ret
    exact ⟨rfl, B1.out⟩
  · have hfs := Lib.hid (fill_some l0 a1 a2 h200)
    have h2 : l0.length ≤ 200 := by omega
    cases hex : (fillR l0 a1 a2).2.2 with
    | false =>
      obtain ⟨q0, q1, q2, hq⟩ : ∃ q0 q1 q2, fillR l0 a1 a2 = (q0, q1, q2) := ⟨_, _, _, rfl⟩
      rw [hq] at hex
      dsimp only at hex
      subst hex
      have HQ := Lib.hid (hfs.out.trans (congrArg some hq))
      clear hq hfs h2
      go_enter Try.func3, Try.ntmps3
      go_wp2_with (first
        | (go_at_call 8; refine (sawake_calls _).mono ?_; rintro e w1 ⟨rfl, hb⟩; have B1 := Lib.hid hb; clear hb)
        | (go_at_call 9; refine (line_Fill.calls _ _ l0 a1 a2 q0 q1 false _ (Kd.C_below HC.out B1.out) HCC.out HQ.out).mono ?_; rintro e w2 ⟨v2, rfl, -, hb⟩; have B2 := Lib.hid (B1.out.trans (hb.mono B1.out.size)); clear hb))
      go_ret
      exact ⟨rfl, B2.out⟩
    | true =>
      obtain ⟨s, e1, hi, hop, hroom, hp, -⟩ := exact_inv hex
      have HQ := Lib.hid (hfs.out.trans (congrArg some e1))
      have HI := Lib.hid hi
      have HP := Lib.hid hp
      have HLEN := Lib.hid hi.len
      have HROOM := Lib.hid hroom
      have HN2 := Lib.hid h2
      have HOP := Lib.hid hop
      clear e1 hfs hex hi hop hp hroom h2
      go_enter Try.func3, Try.ntmps3
      go_wp2_with (first
        | (go_at_call 8; refine (sawake_calls _).mono ?_; rintro e w1 ⟨rfl, hb⟩; have B1 := Lib.hid hb; clear hb)
        | (go_at_call 9; refine (line_Fill.calls _ _ l0 a1 a2 s.out s.top true _ (Kd.C_below HC.out B1.out) HCC.out HQ.out).mono ?_; rintro e w2 ⟨v2, rfl, ho, hb⟩; have B2 := Lib.hid (B1.out.trans (hb.mono B1.out.size)); obtain ⟨A7, c7, hv7, hl7, hC7⟩ := Kd.R_reads ho; subst hv7; rw [HLEN.out] at hC7 ⊢; have HC7 := Lib.hid hC7; clear hb ho hl7 hC7))
      go_loopw [10, 11] (fun fv tv wr => ∃ f t : Nat, fv = .int .i64 f ∧ tv = .int .i64 t ∧ Hid (LineTo s l0.length f t) ∧ Hid (Below w2.heap.size w2 wr)) (fun _ tv _ => l0.length + 2 - (intOf tv).toNat)
      case atStart => exact ⟨0, 1, rfl, rfl, Lib.hid (LineTo.start _ _), Lib.hid (Below.refl _ _)⟩
      case round =>
        obtain ⟨f, t, rfl, rfl, HL, Q⟩ := hrel
        by_cases htn : t ≤ l0.length
        · have hft := HL.out.lt
          have hfn := HL.out.fin htn
          have hC7 := Kd.C_below HC7.out Q.out
          obtain ⟨ad, rfl, f0, f1, -⟩ := at_T30 hC7 (f : Int) (by omega) (by omega)
          rw [rd_gt, Int.toNat_natCast] at f0 f1
          have u1 : (0 : Int) ≤ (f : Int) := by omega
          have u2 : (f : Int) < (l0.length : Int) := by omega
          have u3 : (t : Int) ≤ (l0.length : Int) := by omega
          by_cases hon : t < l0.length ∧ (gt s t).f1 = (gt s f).f1
          · obtain ⟨hlt, hln⟩ := hon
            have HL' := Lib.hid (HL.out.go hlt hln)
            obtain ⟨ad', h', -, t1, -⟩ := at_T30 hC7 (t : Int) (by omega) (by omega)
            obtain rfl := Option.some.inj h'
            rw [rd_gt, Int.toNat_natCast, hln] at t1
            have u4 : (t : Int) < (l0.length : Int) := by omega
            clear h' hln hC7
            go_upto_region 14 with (fail)
            go_still (by kernel_rfl)
            clear f0 f1 t1
            show Exit.then _ _ _ _ wr.drew
            have Q2 := Lib.hid (Q.out.trans (below_drew (Below.refl _ _)))
            generalize wr.drew = wr2 at Q2 ⊢
            go_wp2_with fail
            go_roundw
            case rel => exact ⟨f, t + 1, rfl, by go_num, HL', Q2⟩
            case measure => simp [intOf]; omega
          · have HLS := Lib.hid (HL.out.stop htn hon)
            by_cases hlt : t < l0.length
            · have hne : (gt s t).f1 ≠ (gt s f).f1 := fun h => hon ⟨hlt, h⟩
              have HNX := Lib.hid (room_next HI.out HL.out hlt hne)
              obtain ⟨ad', h', -, t1, -⟩ := at_T30 hC7 (t : Int) (by omega) (by omega)
              obtain rfl := Option.some.inj h'
              rw [rd_gt, Int.toNat_natCast] at t1
              have u4 : (t : Int) < (l0.length : Int) := by omega
              have u5 : ((gt s t).f1 == (gt s f).f1) = false := beq_eq_false_iff_ne.2 hne
              clear h' hC7 hne hon
              go_upto_region 14 with (fail)
              go_still (by kernel_rfl)
              clear f0 f1 t1
              show Exit.then _ _ _ _ wr.drew
              have Q2 := Lib.hid (Q.out.trans (below_drew (Below.refl _ _)))
              generalize wr.drew = wr2 at Q2 ⊢
              clear Q u5
              have hC7 := Kd.C_below HC7.out Q2.out
              obtain ⟨ad1, h1, e0, e1, e2, e3, e4, e5⟩ := at_T30 hC7 ((t - 1 : Nat) : Int) (by omega) (by omega)
              obtain rfl := Option.some.inj h1
              obtain ⟨ad2, h2, -, -, f2, -⟩ := at_T30 hC7 (f : Int) (by omega) (by omega)
              obtain rfl := Option.some.inj h2
              rw [rd_gt, Int.toNat_natCast] at e0 e1 e2 e3 e4 e5 f2
              have hC0 := Kd.C_below HC.out (B2.out.trans (Q2.out.mono B2.out.size))
              obtain ⟨ad0, h0, -⟩ := at_T32 hC0 (0 : Int) (by omega) (by omega)
              subst h0
              clear h1 h2 hC7 hC0
              have v1 : (1 : Int) ≤ (t : Int) := by omega
              have v2 : IntKind.i64.wrap ((t : Int) - 1) = (t : Int) - 1 := i64_in _ (by omega)
              have v3 : ((t : Int) - 1).toNat = t - 1 := by omega
              have v4 : (t : Int) - 1 < (l0.length : Int) := by omega
              have hwi := wide_in HI.out HP.out HL.out htn
              have hwt := Lib.hid (show wideT s f t = (gt s (t - 1)).f2.f0 + (gt s (t - 1)).f2.f2 - (gt s f).f2.f0 from rfl)
              go_upto_region 16 with (fail)
              have Q3 := Lib.hid (Q2.out.alloc Q2.out.size (.cells #[.int .i64 (gt s (t - 1)).f0, .int .i64 (gt s (t - 1)).f1, .int .i64 (gt s (t - 1)).f2.f0, .int .i64 (gt s (t - 1)).f2.f1, .int .i64 (gt s (t - 1)).f2.f2, .int .i64 (gt s (t - 1)).f2.f3] 30))
              have HB3 := Lib.hid (Blk.alloc wr2 #[.int .i64 (gt s (t - 1)).f0, .int .i64 (gt s (t - 1)).f1, .int .i64 (gt s (t - 1)).f2.f0, .int .i64 (gt s (t - 1)).f2.f1, .int .i64 (gt s (t - 1)).f2.f2, .int .i64 (gt s (t - 1)).f2.f3] 30)
              have F2 := Lib.hid (((Below.refl _ wr2).alloc (Nat.le_refl _) (.cells #[.int .i64 (gt s (t - 1)).f0, .int .i64 (gt s (t - 1)).f1, .int .i64 (gt s (t - 1)).f2.f0, .int .i64 (gt s (t - 1)).f2.f1, .int .i64 (gt s (t - 1)).f2.f2, .int .i64 (gt s (t - 1)).f2.f3] 30)).cell (World.block_lt_of_cell? wr2 _ f2) |>.trans f2)
              obtain ⟨pb, hpb⟩ : ∃ pb, pb = wr2.heap.size := ⟨_, rfl⟩
              rw [← hpb] at HB3 ⊢
              generalize wr2.alloc (.cells #[.int .i64 (gt s (t - 1)).f0, .int .i64 (gt s (t - 1)).f1, .int .i64 (gt s (t - 1)).f2.f0, .int .i64 (gt s (t - 1)).f2.f1, .int .i64 (gt s (t - 1)).f2.f2, .int .i64 (gt s (t - 1)).f2.f3] 30) = W1 at Q3 HB3 F2 ⊢
              clear hpb e0 e1 e2 e3 e4 e5 f2 Q2
              have f2 := F2.out
              have p2 := HB3.out.cell 2
              have p4 := HB3.out.cell 4
              simp only [List.getElem?_toArray, List.getElem?_cons_zero, List.getElem?_cons_succ] at p2 p4
              clear HB3 F2
              generalize (gt s (t - 1)).f2.f0 = X1 at *
              generalize (gt s (t - 1)).f2.f2 = Y1 at *
              generalize (gt s f).f2.f0 = X0 at *
              have v5 : IntKind.i64.wrap (X1 + Y1) = X1 + Y1 := i64_in _ (by unfold In at hwi; omega)
              have v6 : IntKind.i64.wrap (X1 + Y1 - X0) = X1 + Y1 - X0 := i64_in _ (by unfold In at hwi; omega)
              have HWI := Lib.hid hwi
              clear hwi
              go_still (by kernel_rfl)
              clear f2 p2 p4 v1 v2 v3 v4 v5 v6
              show Exit.then _ _ _ _ W1.drew
              have Q4 := Lib.hid (Q3.out.trans (below_drew (Below.refl _ _)))
              generalize W1.drew = W2 at Q4 ⊢
              clear Q3
              have v7 : IntKind.i64.wrap ((f : Int) + 1) = (f : Int) + 1 := i64_in _ (by omega)
              go_wp2_with fail
              clear v7
              go_loopw [14, 15] (fun bv kv wr => ∃ (b : Bool) (j : Nat), bv = .bool b ∧ kv = .int .i64 j ∧ f + 1 ≤ j ∧ j ≤ t ∧ Hid (b = true → ∃ i, f < i ∧ i < j ∧ (pc l0 i).f5 = true) ∧ Hid (Below w2.heap.size w2 wr)) (fun _ kv _ => t - (intOf kv).toNat)
              case atStart => exact ⟨false, f + 1, rfl, rfl, Nat.le_refl _, by omega, Lib.hid (fun h => by cases h), Q4⟩
              case round =>
                clear Q4
                obtain ⟨b, j, rfl, rfl, hj1, hj2, HBR, Q5⟩ := hrel
                by_cases hjt : j < t
                · have x1 : (j : Int) < (t : Int) := by omega
                  have x2 : (0 : Int) ≤ (j : Int) := by omega
                  have x3 : (j : Int) < (l0.length : Int) := by omega
                  cases b with
                  | true =>
                    go_wp2_with fail
                    go_roundw
                    case rel => exact ⟨true, j + 1, rfl, by go_num, by omega, by omega, Lib.hid (fun h => by obtain ⟨i, h1, h2, h3⟩ := HBR.out h; exact ⟨i, h1, by omega, h3⟩), Q5⟩
                    case measure => simp [intOf]; omega
                  | false =>
                    obtain ⟨ad3, h3, -, -, -, -, -, g5⟩ := at_T32 (Kd.C_below HC.out (B2.out.trans (Q5.out.mono B2.out.size))) (j : Int) (by omega) (by omega)
                    obtain rfl := Option.some.inj h3
                    rw [rd_pc, Int.toNat_natCast] at g5
                    clear h3
                    obtain ⟨b2, hb2⟩ : ∃ b2, b2 = (pc l0 j).f5 := ⟨_, rfl⟩
                    rw [← hb2] at g5
                    have HB2 := Lib.hid hb2
                    clear hb2
                    go_wp2_with fail
                    go_roundw
                    case rel => exact ⟨b2, j + 1, rfl, by go_num, by omega, by omega, Lib.hid (fun h => ⟨j, by omega, by omega, by rw [← HB2.out]; exact h⟩), Q5⟩
                    case measure => simp [intOf]; omega
                · have hjt' : j = t := by omega
                  have HNO := Lib.hid (show a1 < X1 + Y1 - X0 → b = false from fun h => by
                    cases b with
                    | false => rfl
                    | true =>
                      obtain ⟨i, h1, h2, h3⟩ := HBR.out rfl
                      have := room_no HI.out HL.out htn (by rw [hwt.out]; exact h) i h1 (by omega)
                      rw [h3] at this; cases this)
                  subst hjt'
                  have x1 : ¬ (j : Int) < (j : Int) := by omega
                  have hff : (f = 0) ∨ (0 < f ∧ ∃ v, v = true ∧ ∀ W, Below w2.heap.size w2 W → W.cell? ⟨(ad0.add (f * 6)).block, (ad0.add (f * 6)).off + 5, none⟩ = some (.bool v)) := by
                    rcases Nat.eq_zero_or_pos f with h | h
                    · exact .inl h
                    · refine .inr ⟨h, true, rfl, fun W hW => ?_⟩
                      obtain ⟨ad3, h3, -, -, -, -, -, g5⟩ := at_T32 (Kd.C_below HC.out (B2.out.trans (hW.mono B2.out.size))) (f : Int) (by omega) (by omega)
                      obtain rfl := Option.some.inj h3
                      rw [rd_pc, Int.toNat_natCast, room_first HI.out HL.out h (by omega)] at g5
                      exact g5
                  clear HBR hj1 hj2 hjt
                  have x9 : (0 : Int) ≤ (f : Int) := by omega
                  by_cases z1 : a1 < X1 + Y1 - X0
                  · obtain rfl := HNO.out z1
                    rcases hff with h | ⟨h, v, hv, hcell⟩
                    · have z2 : ¬ (0 : Int) < (f : Int) := by omega
                      clear h
                      as_aux_lemma =>
                        go_wp2_with fail
                        try clear g5
                        go_loopw [16, 17] (fun mv kv wr => ∃ q : Nat, q ≤ nx1 l0 j ∧ kv = .int .i64 ((j + q : Nat) : Int) ∧ mv = .int .i64 (X1 + Y1 - X0 + nxt l0 j q) ∧ Hid (Below w2.heap.size w2 wr)) (fun _ kv _ => l0.length + 1 - (intOf kv).toNat)
                        case atStart => exact ⟨0, Nat.zero_le _, rfl, by simp [nxt, sumR], Q5⟩
                        case round =>
                          clear Q5
                          obtain ⟨q, hq, rfl, rfl, Q6⟩ := hrel
                          have hnb := nx1_le (l := l0) (t := j) (by omega)
                          have hnx := nxt_in (t := j) HP.out q (by omega)
                          have hnn := HN2.out
                          have hp3 := HP.out
                          obtain ⟨kk, hkk⟩ : ∃ kk, kk = j + q := ⟨_, rfl⟩
                          rw [← hkk]
                          have HKK := Lib.hid hkk
                          clear hkk
                          by_cases hkn : kk < l0.length
                          · obtain ⟨ad4, h4, -, g1, -, g3, -, g5⟩ := at_T32 (Kd.C_below HC.out (B2.out.trans (Q6.out.mono B2.out.size))) (kk : Int) (by omega) (by omega)
                            obtain rfl := Option.some.inj h4
                            rw [rd_pc, Int.toNat_natCast] at g1 g3 g5
                            clear h4
                            have y1 : (kk : Int) < (l0.length : Int) := by omega
                            have y2 : (0 : Int) ≤ (kk : Int) := by omega
                            have g1f := True.intro
                            rcases Nat.eq_zero_or_pos q with hq0 | hq0
                            · have y3 : ((kk : Int) == (j : Int)) = true := by have := HKK.out; simp; omega
                              have hq2 : q < nx1 l0 j := by unfold nx1; omega
                              clear hq0
                              as_aux_lemma =>
                                have hG : In (pc l0 kk).f1 ∧ In (pc l0 kk).f2 ∧ In (pc l0 kk).f3 := hp3 kk hkn
                                clear g1f
                                obtain ⟨G, hGd⟩ : ∃ G, G = (pc l0 kk).f3 := ⟨_, rfl⟩
                                obtain ⟨Y, hYd⟩ : ∃ Y, Y = (pc l0 kk).f1 := ⟨_, rfl⟩
                                rw [← hGd] at g3 hG
                                rw [← hYd] at g1 hG
                                have HN := Lib.hid (show nxt l0 j (q + 1) = nxt l0 j q + (G + Y) from by rw [hGd, hYd, HKK.out]; exact nxt_succ (by have := HKK.out; omega))
                                clear hGd hYd
                                generalize nxt l0 j q = m at *
                                have y4 : IntKind.i64.wrap (G + Y) = G + Y := i64_in _ (by unfold In at hG; omega)
                                have y5 : IntKind.i64.wrap (X1 + Y1 - X0 + m + (G + Y)) = X1 + Y1 - X0 + m + (G + Y) := i64_in _ (by have := HWI.out; unfold In at this; unfold In at hG; omega)
                                have HG := Lib.hid hG
                                clear hG
                                go_upto_region 29 with (fail)
                                go_still (by kernel_rfl)
                                clear g1 g3 g5 y4 y5
                                show Exit.inBlock _ _ _ _ wr.drew
                                have Q7 := Lib.hid (Q6.out.trans (below_drew (Below.refl _ _)))
                                generalize wr.drew = wr4 at Q7 ⊢
                                go_wp2_with fail
                                go_roundw
                                case rel => exact ⟨q + 1, by omega, by rw [HKK.out]; go_num, by rw [HN.out]; congr 1; omega, Q7⟩
                                case measure => have := HKK.out; simp [intOf]; omega
                            · have y3 : ((kk : Int) == (j : Int)) = false := by have := HKK.out; simp; omega
                              rcases Nat.lt_or_ge q (nx1 l0 j) with hq2 | hq2
                              · have hb5 := nx1_on hq0 hq2
                                rw [← HKK.out] at hb5
                                rw [hb5] at g5
                                clear hb5
                                as_aux_lemma =>
                                  have hG : In (pc l0 kk).f1 ∧ In (pc l0 kk).f2 ∧ In (pc l0 kk).f3 := hp3 kk hkn
                                  clear g1f
                                  obtain ⟨G, hGd⟩ : ∃ G, G = (pc l0 kk).f3 := ⟨_, rfl⟩
                                  obtain ⟨Y, hYd⟩ : ∃ Y, Y = (pc l0 kk).f1 := ⟨_, rfl⟩
                                  rw [← hGd] at g3 hG
                                  rw [← hYd] at g1 hG
                                  have HN := Lib.hid (show nxt l0 j (q + 1) = nxt l0 j q + (G + Y) from by rw [hGd, hYd, HKK.out]; exact nxt_succ (by have := HKK.out; omega))
                                  clear hGd hYd
                                  generalize nxt l0 j q = m at *
                                  have y4 : IntKind.i64.wrap (G + Y) = G + Y := i64_in _ (by unfold In at hG; omega)
                                  have y5 : IntKind.i64.wrap (X1 + Y1 - X0 + m + (G + Y)) = X1 + Y1 - X0 + m + (G + Y) := i64_in _ (by have := HWI.out; unfold In at this; unfold In at hG; omega)
                                  have HG := Lib.hid hG
                                  clear hG
                                  go_upto_region 29 with (fail)
                                  go_still (by kernel_rfl)
                                  clear g1 g3 g5 y4 y5
                                  show Exit.inBlock _ _ _ _ wr.drew
                                  have Q7 := Lib.hid (Q6.out.trans (below_drew (Below.refl _ _)))
                                  generalize wr.drew = wr4 at Q7 ⊢
                                  go_wp2_with fail
                                  go_roundw
                                  case rel => exact ⟨q + 1, by omega, by rw [HKK.out]; go_num, by rw [HN.out]; congr 1; omega, Q7⟩
                                  case measure => have := HKK.out; simp [intOf]; omega
                              · have hq3 : q = nx1 l0 j := by omega
                                have hb5 := nx1_end (l := l0) (t := j) (by have := HKK.out; omega)
                                rw [← hq3, ← HKK.out] at hb5
                                rw [hb5] at g5
                                clear hb5 g1 g3 g1f
                                obtain ⟨ad5, h5, -, t5, -⟩ := at_T30 (Kd.C_below HC7.out Q6.out) (j : Int) (by omega) (by omega)
                                obtain rfl := Option.some.inj h5
                                obtain ⟨ad6, h6, -, t6, -⟩ := at_T30 (Kd.C_below HC7.out Q6.out) (f : Int) (by omega) (by omega)
                                obtain rfl := Option.some.inj h6
                                clear h5 h6
                                rw [rd_gt, Int.toNat_natCast, HNX.out.1] at t5
                                rw [rd_gt, Int.toNat_natCast] at t6
                                have hlb : 0 ≤ (gt s f).f1 ∧ (gt s f).f1 ≤ 201 := by
                                  have h1 := HI.out.ln f (by omega)
                                  have h2 := HI.out.manyN
                                  have h3 := HI.out.op
                                  have h4 := HOP.out
                                  exact ⟨h1.1, by have := h1.2.2 (by omega); omega⟩
                                generalize (gt s f).f1 = lf at *
                                have y4 : IntKind.i64.wrap (lf + 1) = lf + 1 := i64_in _ (by omega)
                                have y6 : ¬ (X1 + Y1 - X0 + nxt l0 j q ≤ a1) := by
                                  have h1 := HNX.out.2
                                  rw [hwt.out] at h1
                                  rw [hq3, nx1_sum (by omega)]
                                  omega
                                generalize nxt l0 j q = m at *
                                clear hlb hq3
                                go_upto_region 30 with (fail)
                                go_still (by kernel_rfl)
                                clear g5 t5 t6 y4 y6
                                show Exit.then _ _ _ _ wr.drew
                                have Q7 := Lib.hid (Q6.out.trans (below_drew (Below.refl _ _)))
                                generalize wr.drew = wr4 at Q7 ⊢
                                go_wp2_with fail
                                go_roundw
                                case rel => exact ⟨j, j + 1, rfl, by go_num, HLS, Q7⟩
                                case measure => simp [intOf]; omega
                          · have y1 : ¬ (kk : Int) < (l0.length : Int) := by omega
                            have hq3 : q = nx1 l0 j := by
                              have h1 := HKK.out
                              by_cases h : q = nx1 l0 j
                              · exact h
                              · omega
                            obtain ⟨ad5, h5, -, t5, -⟩ := at_T30 (Kd.C_below HC7.out Q6.out) (j : Int) (by omega) (by omega)
                            obtain rfl := Option.some.inj h5
                            obtain ⟨ad6, h6, -, t6, -⟩ := at_T30 (Kd.C_below HC7.out Q6.out) (f : Int) (by omega) (by omega)
                            obtain rfl := Option.some.inj h6
                            clear h5 h6
                            rw [rd_gt, Int.toNat_natCast, HNX.out.1] at t5
                            rw [rd_gt, Int.toNat_natCast] at t6
                            have hlb : 0 ≤ (gt s f).f1 ∧ (gt s f).f1 ≤ 201 := by
                              have h1 := HI.out.ln f (by omega)
                              have h2 := HI.out.manyN
                              have h3 := HI.out.op
                              have h4 := HOP.out
                              exact ⟨h1.1, by have := h1.2.2 (by omega); omega⟩
                            generalize (gt s f).f1 = lf at *
                            have y4 : IntKind.i64.wrap (lf + 1) = lf + 1 := i64_in _ (by omega)
                            have y6 : ¬ (X1 + Y1 - X0 + nxt l0 j q ≤ a1) := by
                              have h1 := HNX.out.2
                              rw [hwt.out] at h1
                              rw [hq3, nx1_sum (by omega)]
                              omega
                            generalize nxt l0 j q = m at *
                            clear hlb hq3
                            go_upto_region 30 with (fail)
                            go_still (by kernel_rfl)
                            clear t5 t6 y4 y6
                            show Exit.then _ _ _ _ wr.drew
                            have Q7 := Lib.hid (Q6.out.trans (below_drew (Below.refl _ _)))
                            generalize wr.drew = wr4 at Q7 ⊢
                            go_wp2_with fail
                            go_roundw
                            case rel => exact ⟨j, j + 1, rfl, by go_num, HLS, Q7⟩
                            case measure => simp [intOf]; omega
                    · have z2 : (0 : Int) < (f : Int) := by omega
                      have g5 := hcell _ Q5.out
                      subst hv
                      clear h hcell
                      as_aux_lemma =>
                        go_wp2_with fail
                        try clear g5
                        go_loopw [16, 17] (fun mv kv wr => ∃ q : Nat, q ≤ nx1 l0 j ∧ kv = .int .i64 ((j + q : Nat) : Int) ∧ mv = .int .i64 (X1 + Y1 - X0 + nxt l0 j q) ∧ Hid (Below w2.heap.size w2 wr)) (fun _ kv _ => l0.length + 1 - (intOf kv).toNat)
                        case atStart => exact ⟨0, Nat.zero_le _, rfl, by simp [nxt, sumR], Q5⟩
                        case round =>
                          clear Q5
                          obtain ⟨q, hq, rfl, rfl, Q6⟩ := hrel
                          have hnb := nx1_le (l := l0) (t := j) (by omega)
                          have hnx := nxt_in (t := j) HP.out q (by omega)
                          have hnn := HN2.out
                          have hp3 := HP.out
                          obtain ⟨kk, hkk⟩ : ∃ kk, kk = j + q := ⟨_, rfl⟩
                          rw [← hkk]
                          have HKK := Lib.hid hkk
                          clear hkk
                          by_cases hkn : kk < l0.length
                          · obtain ⟨ad4, h4, -, g1, -, g3, -, g5⟩ := at_T32 (Kd.C_below HC.out (B2.out.trans (Q6.out.mono B2.out.size))) (kk : Int) (by omega) (by omega)
                            obtain rfl := Option.some.inj h4
                            rw [rd_pc, Int.toNat_natCast] at g1 g3 g5
                            clear h4
                            have y1 : (kk : Int) < (l0.length : Int) := by omega
                            have y2 : (0 : Int) ≤ (kk : Int) := by omega
                            have g1f := True.intro
                            rcases Nat.eq_zero_or_pos q with hq0 | hq0
                            · have y3 : ((kk : Int) == (j : Int)) = true := by have := HKK.out; simp; omega
                              have hq2 : q < nx1 l0 j := by unfold nx1; omega
                              clear hq0
                              as_aux_lemma =>
                                have hG : In (pc l0 kk).f1 ∧ In (pc l0 kk).f2 ∧ In (pc l0 kk).f3 := hp3 kk hkn
                                clear g1f
                                obtain ⟨G, hGd⟩ : ∃ G, G = (pc l0 kk).f3 := ⟨_, rfl⟩
                                obtain ⟨Y, hYd⟩ : ∃ Y, Y = (pc l0 kk).f1 := ⟨_, rfl⟩
                                rw [← hGd] at g3 hG
                                rw [← hYd] at g1 hG
                                have HN := Lib.hid (show nxt l0 j (q + 1) = nxt l0 j q + (G + Y) from by rw [hGd, hYd, HKK.out]; exact nxt_succ (by have := HKK.out; omega))
                                clear hGd hYd
                                generalize nxt l0 j q = m at *
                                have y4 : IntKind.i64.wrap (G + Y) = G + Y := i64_in _ (by unfold In at hG; omega)
                                have y5 : IntKind.i64.wrap (X1 + Y1 - X0 + m + (G + Y)) = X1 + Y1 - X0 + m + (G + Y) := i64_in _ (by have := HWI.out; unfold In at this; unfold In at hG; omega)
                                have HG := Lib.hid hG
                                clear hG
                                go_upto_region 29 with (fail)
                                go_still (by kernel_rfl)
                                clear g1 g3 g5 y4 y5
                                show Exit.inBlock _ _ _ _ wr.drew
                                have Q7 := Lib.hid (Q6.out.trans (below_drew (Below.refl _ _)))
                                generalize wr.drew = wr4 at Q7 ⊢
                                go_wp2_with fail
                                go_roundw
                                case rel => exact ⟨q + 1, by omega, by rw [HKK.out]; go_num, by rw [HN.out]; congr 1; omega, Q7⟩
                                case measure => have := HKK.out; simp [intOf]; omega
                            · have y3 : ((kk : Int) == (j : Int)) = false := by have := HKK.out; simp; omega
                              rcases Nat.lt_or_ge q (nx1 l0 j) with hq2 | hq2
                              · have hb5 := nx1_on hq0 hq2
                                rw [← HKK.out] at hb5
                                rw [hb5] at g5
                                clear hb5
                                as_aux_lemma =>
                                  have hG : In (pc l0 kk).f1 ∧ In (pc l0 kk).f2 ∧ In (pc l0 kk).f3 := hp3 kk hkn
                                  clear g1f
                                  obtain ⟨G, hGd⟩ : ∃ G, G = (pc l0 kk).f3 := ⟨_, rfl⟩
                                  obtain ⟨Y, hYd⟩ : ∃ Y, Y = (pc l0 kk).f1 := ⟨_, rfl⟩
                                  rw [← hGd] at g3 hG
                                  rw [← hYd] at g1 hG
                                  have HN := Lib.hid (show nxt l0 j (q + 1) = nxt l0 j q + (G + Y) from by rw [hGd, hYd, HKK.out]; exact nxt_succ (by have := HKK.out; omega))
                                  clear hGd hYd
                                  generalize nxt l0 j q = m at *
                                  have y4 : IntKind.i64.wrap (G + Y) = G + Y := i64_in _ (by unfold In at hG; omega)
                                  have y5 : IntKind.i64.wrap (X1 + Y1 - X0 + m + (G + Y)) = X1 + Y1 - X0 + m + (G + Y) := i64_in _ (by have := HWI.out; unfold In at this; unfold In at hG; omega)
                                  have HG := Lib.hid hG
                                  clear hG
                                  go_upto_region 29 with (fail)
                                  go_still (by kernel_rfl)
                                  clear g1 g3 g5 y4 y5
                                  show Exit.inBlock _ _ _ _ wr.drew
                                  have Q7 := Lib.hid (Q6.out.trans (below_drew (Below.refl _ _)))
                                  generalize wr.drew = wr4 at Q7 ⊢
                                  go_wp2_with fail
                                  go_roundw
                                  case rel => exact ⟨q + 1, by omega, by rw [HKK.out]; go_num, by rw [HN.out]; congr 1; omega, Q7⟩
                                  case measure => have := HKK.out; simp [intOf]; omega
                              · have hq3 : q = nx1 l0 j := by omega
                                have hb5 := nx1_end (l := l0) (t := j) (by have := HKK.out; omega)
                                rw [← hq3, ← HKK.out] at hb5
                                rw [hb5] at g5
                                clear hb5 g1 g3 g1f
                                obtain ⟨ad5, h5, -, t5, -⟩ := at_T30 (Kd.C_below HC7.out Q6.out) (j : Int) (by omega) (by omega)
                                obtain rfl := Option.some.inj h5
                                obtain ⟨ad6, h6, -, t6, -⟩ := at_T30 (Kd.C_below HC7.out Q6.out) (f : Int) (by omega) (by omega)
                                obtain rfl := Option.some.inj h6
                                clear h5 h6
                                rw [rd_gt, Int.toNat_natCast, HNX.out.1] at t5
                                rw [rd_gt, Int.toNat_natCast] at t6
                                have hlb : 0 ≤ (gt s f).f1 ∧ (gt s f).f1 ≤ 201 := by
                                  have h1 := HI.out.ln f (by omega)
                                  have h2 := HI.out.manyN
                                  have h3 := HI.out.op
                                  have h4 := HOP.out
                                  exact ⟨h1.1, by have := h1.2.2 (by omega); omega⟩
                                generalize (gt s f).f1 = lf at *
                                have y4 : IntKind.i64.wrap (lf + 1) = lf + 1 := i64_in _ (by omega)
                                have y6 : ¬ (X1 + Y1 - X0 + nxt l0 j q ≤ a1) := by
                                  have h1 := HNX.out.2
                                  rw [hwt.out] at h1
                                  rw [hq3, nx1_sum (by omega)]
                                  omega
                                generalize nxt l0 j q = m at *
                                clear hlb hq3
                                go_upto_region 30 with (fail)
                                go_still (by kernel_rfl)
                                clear g5 t5 t6 y4 y6
                                show Exit.then _ _ _ _ wr.drew
                                have Q7 := Lib.hid (Q6.out.trans (below_drew (Below.refl _ _)))
                                generalize wr.drew = wr4 at Q7 ⊢
                                go_wp2_with fail
                                go_roundw
                                case rel => exact ⟨j, j + 1, rfl, by go_num, HLS, Q7⟩
                                case measure => simp [intOf]; omega
                          · have y1 : ¬ (kk : Int) < (l0.length : Int) := by omega
                            have hq3 : q = nx1 l0 j := by
                              have h1 := HKK.out
                              by_cases h : q = nx1 l0 j
                              · exact h
                              · omega
                            obtain ⟨ad5, h5, -, t5, -⟩ := at_T30 (Kd.C_below HC7.out Q6.out) (j : Int) (by omega) (by omega)
                            obtain rfl := Option.some.inj h5
                            obtain ⟨ad6, h6, -, t6, -⟩ := at_T30 (Kd.C_below HC7.out Q6.out) (f : Int) (by omega) (by omega)
                            obtain rfl := Option.some.inj h6
                            clear h5 h6
                            rw [rd_gt, Int.toNat_natCast, HNX.out.1] at t5
                            rw [rd_gt, Int.toNat_natCast] at t6
                            have hlb : 0 ≤ (gt s f).f1 ∧ (gt s f).f1 ≤ 201 := by
                              have h1 := HI.out.ln f (by omega)
                              have h2 := HI.out.manyN
                              have h3 := HI.out.op
                              have h4 := HOP.out
                              exact ⟨h1.1, by have := h1.2.2 (by omega); omega⟩
                            generalize (gt s f).f1 = lf at *
                            have y4 : IntKind.i64.wrap (lf + 1) = lf + 1 := i64_in _ (by omega)
                            have y6 : ¬ (X1 + Y1 - X0 + nxt l0 j q ≤ a1) := by
                              have h1 := HNX.out.2
                              rw [hwt.out] at h1
                              rw [hq3, nx1_sum (by omega)]
                              omega
                            generalize nxt l0 j q = m at *
                            clear hlb hq3
                            go_upto_region 30 with (fail)
                            go_still (by kernel_rfl)
                            clear t5 t6 y4 y6
                            show Exit.then _ _ _ _ wr.drew
                            have Q7 := Lib.hid (Q6.out.trans (below_drew (Below.refl _ _)))
                            generalize wr.drew = wr4 at Q7 ⊢
                            go_wp2_with fail
                            go_roundw
                            case rel => exact ⟨j, j + 1, rfl, by go_num, HLS, Q7⟩
                            case measure => simp [intOf]; omega
                  · rcases hff with h | ⟨h, v, hv, hcell⟩
                    · have z2 : ¬ (0 : Int) < (f : Int) := by omega
                      clear h
                      as_aux_lemma =>
                        go_wp2_with fail
                        try clear g5
                        go_loopw [16, 17] (fun mv kv wr => ∃ q : Nat, q ≤ nx1 l0 j ∧ kv = .int .i64 ((j + q : Nat) : Int) ∧ mv = .int .i64 (X1 + Y1 - X0 + nxt l0 j q) ∧ Hid (Below w2.heap.size w2 wr)) (fun _ kv _ => l0.length + 1 - (intOf kv).toNat)
                        case atStart => exact ⟨0, Nat.zero_le _, rfl, by simp [nxt, sumR], Q5⟩
                        case round =>
                          clear Q5
                          obtain ⟨q, hq, rfl, rfl, Q6⟩ := hrel
                          have hnb := nx1_le (l := l0) (t := j) (by omega)
                          have hnx := nxt_in (t := j) HP.out q (by omega)
                          have hnn := HN2.out
                          have hp3 := HP.out
                          obtain ⟨kk, hkk⟩ : ∃ kk, kk = j + q := ⟨_, rfl⟩
                          rw [← hkk]
                          have HKK := Lib.hid hkk
                          clear hkk
                          by_cases hkn : kk < l0.length
                          · obtain ⟨ad4, h4, -, g1, -, g3, -, g5⟩ := at_T32 (Kd.C_below HC.out (B2.out.trans (Q6.out.mono B2.out.size))) (kk : Int) (by omega) (by omega)
                            obtain rfl := Option.some.inj h4
                            rw [rd_pc, Int.toNat_natCast] at g1 g3 g5
                            clear h4
                            have y1 : (kk : Int) < (l0.length : Int) := by omega
                            have y2 : (0 : Int) ≤ (kk : Int) := by omega
                            have g1f := True.intro
                            rcases Nat.eq_zero_or_pos q with hq0 | hq0
                            · have y3 : ((kk : Int) == (j : Int)) = true := by have := HKK.out; simp; omega
                              have hq2 : q < nx1 l0 j := by unfold nx1; omega
                              clear hq0
                              as_aux_lemma =>
                                have hG : In (pc l0 kk).f1 ∧ In (pc l0 kk).f2 ∧ In (pc l0 kk).f3 := hp3 kk hkn
                                clear g1f
                                obtain ⟨G, hGd⟩ : ∃ G, G = (pc l0 kk).f3 := ⟨_, rfl⟩
                                obtain ⟨Y, hYd⟩ : ∃ Y, Y = (pc l0 kk).f1 := ⟨_, rfl⟩
                                rw [← hGd] at g3 hG
                                rw [← hYd] at g1 hG
                                have HN := Lib.hid (show nxt l0 j (q + 1) = nxt l0 j q + (G + Y) from by rw [hGd, hYd, HKK.out]; exact nxt_succ (by have := HKK.out; omega))
                                clear hGd hYd
                                generalize nxt l0 j q = m at *
                                have y4 : IntKind.i64.wrap (G + Y) = G + Y := i64_in _ (by unfold In at hG; omega)
                                have y5 : IntKind.i64.wrap (X1 + Y1 - X0 + m + (G + Y)) = X1 + Y1 - X0 + m + (G + Y) := i64_in _ (by have := HWI.out; unfold In at this; unfold In at hG; omega)
                                have HG := Lib.hid hG
                                clear hG
                                go_upto_region 29 with (fail)
                                go_still (by kernel_rfl)
                                clear g1 g3 g5 y4 y5
                                show Exit.inBlock _ _ _ _ wr.drew
                                have Q7 := Lib.hid (Q6.out.trans (below_drew (Below.refl _ _)))
                                generalize wr.drew = wr4 at Q7 ⊢
                                go_wp2_with fail
                                go_roundw
                                case rel => exact ⟨q + 1, by omega, by rw [HKK.out]; go_num, by rw [HN.out]; congr 1; omega, Q7⟩
                                case measure => have := HKK.out; simp [intOf]; omega
                            · have y3 : ((kk : Int) == (j : Int)) = false := by have := HKK.out; simp; omega
                              rcases Nat.lt_or_ge q (nx1 l0 j) with hq2 | hq2
                              · have hb5 := nx1_on hq0 hq2
                                rw [← HKK.out] at hb5
                                rw [hb5] at g5
                                clear hb5
                                as_aux_lemma =>
                                  have hG : In (pc l0 kk).f1 ∧ In (pc l0 kk).f2 ∧ In (pc l0 kk).f3 := hp3 kk hkn
                                  clear g1f
                                  obtain ⟨G, hGd⟩ : ∃ G, G = (pc l0 kk).f3 := ⟨_, rfl⟩
                                  obtain ⟨Y, hYd⟩ : ∃ Y, Y = (pc l0 kk).f1 := ⟨_, rfl⟩
                                  rw [← hGd] at g3 hG
                                  rw [← hYd] at g1 hG
                                  have HN := Lib.hid (show nxt l0 j (q + 1) = nxt l0 j q + (G + Y) from by rw [hGd, hYd, HKK.out]; exact nxt_succ (by have := HKK.out; omega))
                                  clear hGd hYd
                                  generalize nxt l0 j q = m at *
                                  have y4 : IntKind.i64.wrap (G + Y) = G + Y := i64_in _ (by unfold In at hG; omega)
                                  have y5 : IntKind.i64.wrap (X1 + Y1 - X0 + m + (G + Y)) = X1 + Y1 - X0 + m + (G + Y) := i64_in _ (by have := HWI.out; unfold In at this; unfold In at hG; omega)
                                  have HG := Lib.hid hG
                                  clear hG
                                  go_upto_region 29 with (fail)
                                  go_still (by kernel_rfl)
                                  clear g1 g3 g5 y4 y5
                                  show Exit.inBlock _ _ _ _ wr.drew
                                  have Q7 := Lib.hid (Q6.out.trans (below_drew (Below.refl _ _)))
                                  generalize wr.drew = wr4 at Q7 ⊢
                                  go_wp2_with fail
                                  go_roundw
                                  case rel => exact ⟨q + 1, by omega, by rw [HKK.out]; go_num, by rw [HN.out]; congr 1; omega, Q7⟩
                                  case measure => have := HKK.out; simp [intOf]; omega
                              · have hq3 : q = nx1 l0 j := by omega
                                have hb5 := nx1_end (l := l0) (t := j) (by have := HKK.out; omega)
                                rw [← hq3, ← HKK.out] at hb5
                                rw [hb5] at g5
                                clear hb5 g1 g3 g1f
                                obtain ⟨ad5, h5, -, t5, -⟩ := at_T30 (Kd.C_below HC7.out Q6.out) (j : Int) (by omega) (by omega)
                                obtain rfl := Option.some.inj h5
                                obtain ⟨ad6, h6, -, t6, -⟩ := at_T30 (Kd.C_below HC7.out Q6.out) (f : Int) (by omega) (by omega)
                                obtain rfl := Option.some.inj h6
                                clear h5 h6
                                rw [rd_gt, Int.toNat_natCast, HNX.out.1] at t5
                                rw [rd_gt, Int.toNat_natCast] at t6
                                have hlb : 0 ≤ (gt s f).f1 ∧ (gt s f).f1 ≤ 201 := by
                                  have h1 := HI.out.ln f (by omega)
                                  have h2 := HI.out.manyN
                                  have h3 := HI.out.op
                                  have h4 := HOP.out
                                  exact ⟨h1.1, by have := h1.2.2 (by omega); omega⟩
                                generalize (gt s f).f1 = lf at *
                                have y4 : IntKind.i64.wrap (lf + 1) = lf + 1 := i64_in _ (by omega)
                                have y6 : ¬ (X1 + Y1 - X0 + nxt l0 j q ≤ a1) := by
                                  have h1 := HNX.out.2
                                  rw [hwt.out] at h1
                                  rw [hq3, nx1_sum (by omega)]
                                  omega
                                generalize nxt l0 j q = m at *
                                clear hlb hq3
                                go_upto_region 30 with (fail)
                                go_still (by kernel_rfl)
                                clear g5 t5 t6 y4 y6
                                show Exit.then _ _ _ _ wr.drew
                                have Q7 := Lib.hid (Q6.out.trans (below_drew (Below.refl _ _)))
                                generalize wr.drew = wr4 at Q7 ⊢
                                go_wp2_with fail
                                go_roundw
                                case rel => exact ⟨j, j + 1, rfl, by go_num, HLS, Q7⟩
                                case measure => simp [intOf]; omega
                          · have y1 : ¬ (kk : Int) < (l0.length : Int) := by omega
                            have hq3 : q = nx1 l0 j := by
                              have h1 := HKK.out
                              by_cases h : q = nx1 l0 j
                              · exact h
                              · omega
                            obtain ⟨ad5, h5, -, t5, -⟩ := at_T30 (Kd.C_below HC7.out Q6.out) (j : Int) (by omega) (by omega)
                            obtain rfl := Option.some.inj h5
                            obtain ⟨ad6, h6, -, t6, -⟩ := at_T30 (Kd.C_below HC7.out Q6.out) (f : Int) (by omega) (by omega)
                            obtain rfl := Option.some.inj h6
                            clear h5 h6
                            rw [rd_gt, Int.toNat_natCast, HNX.out.1] at t5
                            rw [rd_gt, Int.toNat_natCast] at t6
                            have hlb : 0 ≤ (gt s f).f1 ∧ (gt s f).f1 ≤ 201 := by
                              have h1 := HI.out.ln f (by omega)
                              have h2 := HI.out.manyN
                              have h3 := HI.out.op
                              have h4 := HOP.out
                              exact ⟨h1.1, by have := h1.2.2 (by omega); omega⟩
                            generalize (gt s f).f1 = lf at *
                            have y4 : IntKind.i64.wrap (lf + 1) = lf + 1 := i64_in _ (by omega)
                            have y6 : ¬ (X1 + Y1 - X0 + nxt l0 j q ≤ a1) := by
                              have h1 := HNX.out.2
                              rw [hwt.out] at h1
                              rw [hq3, nx1_sum (by omega)]
                              omega
                            generalize nxt l0 j q = m at *
                            clear hlb hq3
                            go_upto_region 30 with (fail)
                            go_still (by kernel_rfl)
                            clear t5 t6 y4 y6
                            show Exit.then _ _ _ _ wr.drew
                            have Q7 := Lib.hid (Q6.out.trans (below_drew (Below.refl _ _)))
                            generalize wr.drew = wr4 at Q7 ⊢
                            go_wp2_with fail
                            go_roundw
                            case rel => exact ⟨j, j + 1, rfl, by go_num, HLS, Q7⟩
                            case measure => simp [intOf]; omega
                    · have z2 : (0 : Int) < (f : Int) := by omega
                      have g5 := hcell _ Q5.out
                      subst hv
                      clear h hcell
                      as_aux_lemma =>
                        go_wp2_with fail
                        try clear g5
                        go_loopw [16, 17] (fun mv kv wr => ∃ q : Nat, q ≤ nx1 l0 j ∧ kv = .int .i64 ((j + q : Nat) : Int) ∧ mv = .int .i64 (X1 + Y1 - X0 + nxt l0 j q) ∧ Hid (Below w2.heap.size w2 wr)) (fun _ kv _ => l0.length + 1 - (intOf kv).toNat)
                        case atStart => exact ⟨0, Nat.zero_le _, rfl, by simp [nxt, sumR], Q5⟩
                        case round =>
                          clear Q5
                          obtain ⟨q, hq, rfl, rfl, Q6⟩ := hrel
                          have hnb := nx1_le (l := l0) (t := j) (by omega)
                          have hnx := nxt_in (t := j) HP.out q (by omega)
                          have hnn := HN2.out
                          have hp3 := HP.out
                          obtain ⟨kk, hkk⟩ : ∃ kk, kk = j + q := ⟨_, rfl⟩
                          rw [← hkk]
                          have HKK := Lib.hid hkk
                          clear hkk
                          by_cases hkn : kk < l0.length
                          · obtain ⟨ad4, h4, -, g1, -, g3, -, g5⟩ := at_T32 (Kd.C_below HC.out (B2.out.trans (Q6.out.mono B2.out.size))) (kk : Int) (by omega) (by omega)
                            obtain rfl := Option.some.inj h4
                            rw [rd_pc, Int.toNat_natCast] at g1 g3 g5
                            clear h4
                            have y1 : (kk : Int) < (l0.length : Int) := by omega
                            have y2 : (0 : Int) ≤ (kk : Int) := by omega
                            have g1f := True.intro
                            rcases Nat.eq_zero_or_pos q with hq0 | hq0
                            · have y3 : ((kk : Int) == (j : Int)) = true := by have := HKK.out; simp; omega
                              have hq2 : q < nx1 l0 j := by unfold nx1; omega
                              clear hq0
                              as_aux_lemma =>
                                have hG : In (pc l0 kk).f1 ∧ In (pc l0 kk).f2 ∧ In (pc l0 kk).f3 := hp3 kk hkn
                                clear g1f
                                obtain ⟨G, hGd⟩ : ∃ G, G = (pc l0 kk).f3 := ⟨_, rfl⟩
                                obtain ⟨Y, hYd⟩ : ∃ Y, Y = (pc l0 kk).f1 := ⟨_, rfl⟩
                                rw [← hGd] at g3 hG
                                rw [← hYd] at g1 hG
                                have HN := Lib.hid (show nxt l0 j (q + 1) = nxt l0 j q + (G + Y) from by rw [hGd, hYd, HKK.out]; exact nxt_succ (by have := HKK.out; omega))
                                clear hGd hYd
                                generalize nxt l0 j q = m at *
                                have y4 : IntKind.i64.wrap (G + Y) = G + Y := i64_in _ (by unfold In at hG; omega)
                                have y5 : IntKind.i64.wrap (X1 + Y1 - X0 + m + (G + Y)) = X1 + Y1 - X0 + m + (G + Y) := i64_in _ (by have := HWI.out; unfold In at this; unfold In at hG; omega)
                                have HG := Lib.hid hG
                                clear hG
                                go_upto_region 29 with (fail)
                                go_still (by kernel_rfl)
                                clear g1 g3 g5 y4 y5
                                show Exit.inBlock _ _ _ _ wr.drew
                                have Q7 := Lib.hid (Q6.out.trans (below_drew (Below.refl _ _)))
                                generalize wr.drew = wr4 at Q7 ⊢
                                go_wp2_with fail
                                go_roundw
                                case rel => exact ⟨q + 1, by omega, by rw [HKK.out]; go_num, by rw [HN.out]; congr 1; omega, Q7⟩
                                case measure => have := HKK.out; simp [intOf]; omega
                            · have y3 : ((kk : Int) == (j : Int)) = false := by have := HKK.out; simp; omega
                              rcases Nat.lt_or_ge q (nx1 l0 j) with hq2 | hq2
                              · have hb5 := nx1_on hq0 hq2
                                rw [← HKK.out] at hb5
                                rw [hb5] at g5
                                clear hb5
                                as_aux_lemma =>
                                  have hG : In (pc l0 kk).f1 ∧ In (pc l0 kk).f2 ∧ In (pc l0 kk).f3 := hp3 kk hkn
                                  clear g1f
                                  obtain ⟨G, hGd⟩ : ∃ G, G = (pc l0 kk).f3 := ⟨_, rfl⟩
                                  obtain ⟨Y, hYd⟩ : ∃ Y, Y = (pc l0 kk).f1 := ⟨_, rfl⟩
                                  rw [← hGd] at g3 hG
                                  rw [← hYd] at g1 hG
                                  have HN := Lib.hid (show nxt l0 j (q + 1) = nxt l0 j q + (G + Y) from by rw [hGd, hYd, HKK.out]; exact nxt_succ (by have := HKK.out; omega))
                                  clear hGd hYd
                                  generalize nxt l0 j q = m at *
                                  have y4 : IntKind.i64.wrap (G + Y) = G + Y := i64_in _ (by unfold In at hG; omega)
                                  have y5 : IntKind.i64.wrap (X1 + Y1 - X0 + m + (G + Y)) = X1 + Y1 - X0 + m + (G + Y) := i64_in _ (by have := HWI.out; unfold In at this; unfold In at hG; omega)
                                  have HG := Lib.hid hG
                                  clear hG
                                  go_upto_region 29 with (fail)
                                  go_still (by kernel_rfl)
                                  clear g1 g3 g5 y4 y5
                                  show Exit.inBlock _ _ _ _ wr.drew
                                  have Q7 := Lib.hid (Q6.out.trans (below_drew (Below.refl _ _)))
                                  generalize wr.drew = wr4 at Q7 ⊢
                                  go_wp2_with fail
                                  go_roundw
                                  case rel => exact ⟨q + 1, by omega, by rw [HKK.out]; go_num, by rw [HN.out]; congr 1; omega, Q7⟩
                                  case measure => have := HKK.out; simp [intOf]; omega
                              · have hq3 : q = nx1 l0 j := by omega
                                have hb5 := nx1_end (l := l0) (t := j) (by have := HKK.out; omega)
                                rw [← hq3, ← HKK.out] at hb5
                                rw [hb5] at g5
                                clear hb5 g1 g3 g1f
                                obtain ⟨ad5, h5, -, t5, -⟩ := at_T30 (Kd.C_below HC7.out Q6.out) (j : Int) (by omega) (by omega)
                                obtain rfl := Option.some.inj h5
                                obtain ⟨ad6, h6, -, t6, -⟩ := at_T30 (Kd.C_below HC7.out Q6.out) (f : Int) (by omega) (by omega)
                                obtain rfl := Option.some.inj h6
                                clear h5 h6
                                rw [rd_gt, Int.toNat_natCast, HNX.out.1] at t5
                                rw [rd_gt, Int.toNat_natCast] at t6
                                have hlb : 0 ≤ (gt s f).f1 ∧ (gt s f).f1 ≤ 201 := by
                                  have h1 := HI.out.ln f (by omega)
                                  have h2 := HI.out.manyN
                                  have h3 := HI.out.op
                                  have h4 := HOP.out
                                  exact ⟨h1.1, by have := h1.2.2 (by omega); omega⟩
                                generalize (gt s f).f1 = lf at *
                                have y4 : IntKind.i64.wrap (lf + 1) = lf + 1 := i64_in _ (by omega)
                                have y6 : ¬ (X1 + Y1 - X0 + nxt l0 j q ≤ a1) := by
                                  have h1 := HNX.out.2
                                  rw [hwt.out] at h1
                                  rw [hq3, nx1_sum (by omega)]
                                  omega
                                generalize nxt l0 j q = m at *
                                clear hlb hq3
                                go_upto_region 30 with (fail)
                                go_still (by kernel_rfl)
                                clear g5 t5 t6 y4 y6
                                show Exit.then _ _ _ _ wr.drew
                                have Q7 := Lib.hid (Q6.out.trans (below_drew (Below.refl _ _)))
                                generalize wr.drew = wr4 at Q7 ⊢
                                go_wp2_with fail
                                go_roundw
                                case rel => exact ⟨j, j + 1, rfl, by go_num, HLS, Q7⟩
                                case measure => simp [intOf]; omega
                          · have y1 : ¬ (kk : Int) < (l0.length : Int) := by omega
                            have hq3 : q = nx1 l0 j := by
                              have h1 := HKK.out
                              by_cases h : q = nx1 l0 j
                              · exact h
                              · omega
                            obtain ⟨ad5, h5, -, t5, -⟩ := at_T30 (Kd.C_below HC7.out Q6.out) (j : Int) (by omega) (by omega)
                            obtain rfl := Option.some.inj h5
                            obtain ⟨ad6, h6, -, t6, -⟩ := at_T30 (Kd.C_below HC7.out Q6.out) (f : Int) (by omega) (by omega)
                            obtain rfl := Option.some.inj h6
                            clear h5 h6
                            rw [rd_gt, Int.toNat_natCast, HNX.out.1] at t5
                            rw [rd_gt, Int.toNat_natCast] at t6
                            have hlb : 0 ≤ (gt s f).f1 ∧ (gt s f).f1 ≤ 201 := by
                              have h1 := HI.out.ln f (by omega)
                              have h2 := HI.out.manyN
                              have h3 := HI.out.op
                              have h4 := HOP.out
                              exact ⟨h1.1, by have := h1.2.2 (by omega); omega⟩
                            generalize (gt s f).f1 = lf at *
                            have y4 : IntKind.i64.wrap (lf + 1) = lf + 1 := i64_in _ (by omega)
                            have y6 : ¬ (X1 + Y1 - X0 + nxt l0 j q ≤ a1) := by
                              have h1 := HNX.out.2
                              rw [hwt.out] at h1
                              rw [hq3, nx1_sum (by omega)]
                              omega
                            generalize nxt l0 j q = m at *
                            clear hlb hq3
                            go_upto_region 30 with (fail)
                            go_still (by kernel_rfl)
                            clear t5 t6 y4 y6
                            show Exit.then _ _ _ _ wr.drew
                            have Q7 := Lib.hid (Q6.out.trans (below_drew (Below.refl _ _)))
                            generalize wr.drew = wr4 at Q7 ⊢
                            go_wp2_with fail
                            go_roundw
                            case rel => exact ⟨j, j + 1, rfl, by go_num, HLS, Q7⟩
                            case measure => simp [intOf]; omega
            · have u4 : ¬ (t : Int) < (l0.length : Int) := by omega
              clear hC7 hon
              go_upto_region 14 with (fail)
              go_quiet (fail)
              clear f0 f1
              have Q2 := Lib.hid (Q.out.trans (pw_below_drewN (Below.refl _ _) nq))
              generalize wr.drewN nq = wr2 at Q2 ⊢
              clear Q
              have hC7 := Kd.C_below HC7.out Q2.out
              obtain ⟨ad1, h1, e0, e1, e2, e3, e4, e5⟩ := at_T30 hC7 ((t - 1 : Nat) : Int) (by omega) (by omega)
              obtain rfl := Option.some.inj h1
              obtain ⟨ad2, h2, -, -, f2, -⟩ := at_T30 hC7 (f : Int) (by omega) (by omega)
              obtain rfl := Option.some.inj h2
              rw [rd_gt, Int.toNat_natCast] at e0 e1 e2 e3 e4 e5 f2
              have hC0 := Kd.C_below HC.out (B2.out.trans (Q2.out.mono B2.out.size))
              obtain ⟨ad0, h0, -⟩ := at_T32 hC0 (0 : Int) (by omega) (by omega)
              subst h0
              clear h1 h2 hC7 hC0
              have v1 : (1 : Int) ≤ (t : Int) := by omega
              have v2 : IntKind.i64.wrap ((t : Int) - 1) = (t : Int) - 1 := i64_in _ (by omega)
              have v3 : ((t : Int) - 1).toNat = t - 1 := by omega
              have v4 : (t : Int) - 1 < (l0.length : Int) := by omega
              have hwi := wide_in HI.out HP.out HL.out htn
              have hwt := Lib.hid (show wideT s f t = (gt s (t - 1)).f2.f0 + (gt s (t - 1)).f2.f2 - (gt s f).f2.f0 from rfl)
              go_upto_region 16 with (fail)
              have Q3 := Lib.hid (Q2.out.alloc Q2.out.size (.cells #[.int .i64 (gt s (t - 1)).f0, .int .i64 (gt s (t - 1)).f1, .int .i64 (gt s (t - 1)).f2.f0, .int .i64 (gt s (t - 1)).f2.f1, .int .i64 (gt s (t - 1)).f2.f2, .int .i64 (gt s (t - 1)).f2.f3] 30))
              have HB3 := Lib.hid (Blk.alloc wr2 #[.int .i64 (gt s (t - 1)).f0, .int .i64 (gt s (t - 1)).f1, .int .i64 (gt s (t - 1)).f2.f0, .int .i64 (gt s (t - 1)).f2.f1, .int .i64 (gt s (t - 1)).f2.f2, .int .i64 (gt s (t - 1)).f2.f3] 30)
              have F2 := Lib.hid (((Below.refl _ wr2).alloc (Nat.le_refl _) (.cells #[.int .i64 (gt s (t - 1)).f0, .int .i64 (gt s (t - 1)).f1, .int .i64 (gt s (t - 1)).f2.f0, .int .i64 (gt s (t - 1)).f2.f1, .int .i64 (gt s (t - 1)).f2.f2, .int .i64 (gt s (t - 1)).f2.f3] 30)).cell (World.block_lt_of_cell? wr2 _ f2) |>.trans f2)
              obtain ⟨pb, hpb⟩ : ∃ pb, pb = wr2.heap.size := ⟨_, rfl⟩
              rw [← hpb] at HB3 ⊢
              generalize wr2.alloc (.cells #[.int .i64 (gt s (t - 1)).f0, .int .i64 (gt s (t - 1)).f1, .int .i64 (gt s (t - 1)).f2.f0, .int .i64 (gt s (t - 1)).f2.f1, .int .i64 (gt s (t - 1)).f2.f2, .int .i64 (gt s (t - 1)).f2.f3] 30) = W1 at Q3 HB3 F2 ⊢
              clear hpb e0 e1 e2 e3 e4 e5 f2 Q2
              have f2 := F2.out
              have p2 := HB3.out.cell 2
              have p4 := HB3.out.cell 4
              simp only [List.getElem?_toArray, List.getElem?_cons_zero, List.getElem?_cons_succ] at p2 p4
              clear HB3 F2
              generalize (gt s (t - 1)).f2.f0 = X1 at *
              generalize (gt s (t - 1)).f2.f2 = Y1 at *
              generalize (gt s f).f2.f0 = X0 at *
              have v5 : IntKind.i64.wrap (X1 + Y1) = X1 + Y1 := i64_in _ (by unfold In at hwi; omega)
              have v6 : IntKind.i64.wrap (X1 + Y1 - X0) = X1 + Y1 - X0 := i64_in _ (by unfold In at hwi; omega)
              have HWI := Lib.hid hwi
              clear hwi
              go_still (by kernel_rfl)
              clear f2 p2 p4 v1 v2 v3 v4 v5 v6
              show Exit.then _ _ _ _ W1.drew
              have Q4 := Lib.hid (Q3.out.trans (below_drew (Below.refl _ _)))
              generalize W1.drew = W2 at Q4 ⊢
              clear Q3
              have v7 : IntKind.i64.wrap ((f : Int) + 1) = (f : Int) + 1 := i64_in _ (by omega)
              go_wp2_with fail
              clear v7
              go_loopw [14, 15] (fun bv kv wr => ∃ (b : Bool) (j : Nat), bv = .bool b ∧ kv = .int .i64 j ∧ f + 1 ≤ j ∧ j ≤ t ∧ Hid (b = true → ∃ i, f < i ∧ i < j ∧ (pc l0 i).f5 = true) ∧ Hid (Below w2.heap.size w2 wr)) (fun _ kv _ => t - (intOf kv).toNat)
              case atStart => exact ⟨false, f + 1, rfl, rfl, Nat.le_refl _, by omega, Lib.hid (fun h => by cases h), Q4⟩
              case round =>
                clear Q4
                obtain ⟨b, j, rfl, rfl, hj1, hj2, HBR, Q5⟩ := hrel
                by_cases hjt : j < t
                · have x1 : (j : Int) < (t : Int) := by omega
                  have x2 : (0 : Int) ≤ (j : Int) := by omega
                  have x3 : (j : Int) < (l0.length : Int) := by omega
                  cases b with
                  | true =>
                    go_wp2_with fail
                    go_roundw
                    case rel => exact ⟨true, j + 1, rfl, by go_num, by omega, by omega, Lib.hid (fun h => by obtain ⟨i, h1, h2, h3⟩ := HBR.out h; exact ⟨i, h1, by omega, h3⟩), Q5⟩
                    case measure => simp [intOf]; omega
                  | false =>
                    obtain ⟨ad3, h3, -, -, -, -, -, g5⟩ := at_T32 (Kd.C_below HC.out (B2.out.trans (Q5.out.mono B2.out.size))) (j : Int) (by omega) (by omega)
                    obtain rfl := Option.some.inj h3
                    rw [rd_pc, Int.toNat_natCast] at g5
                    clear h3
                    obtain ⟨b2, hb2⟩ : ∃ b2, b2 = (pc l0 j).f5 := ⟨_, rfl⟩
                    rw [← hb2] at g5
                    have HB2 := Lib.hid hb2
                    clear hb2
                    go_wp2_with fail
                    go_roundw
                    case rel => exact ⟨b2, j + 1, rfl, by go_num, by omega, by omega, Lib.hid (fun h => ⟨j, by omega, by omega, by rw [← HB2.out]; exact h⟩), Q5⟩
                    case measure => simp [intOf]; omega
                · have hjt' : j = t := by omega
                  have HNO := Lib.hid (show a1 < X1 + Y1 - X0 → b = false from fun h => by
                    cases b with
                    | false => rfl
                    | true =>
                      obtain ⟨i, h1, h2, h3⟩ := HBR.out rfl
                      have := room_no HI.out HL.out htn (by rw [hwt.out]; exact h) i h1 (by omega)
                      rw [h3] at this; cases this)
                  subst hjt'
                  have x1 : ¬ (j : Int) < (j : Int) := by omega
                  have hff : (f = 0) ∨ (0 < f ∧ ∃ v, v = true ∧ ∀ W, Below w2.heap.size w2 W → W.cell? ⟨(ad0.add (f * 6)).block, (ad0.add (f * 6)).off + 5, none⟩ = some (.bool v)) := by
                    rcases Nat.eq_zero_or_pos f with h | h
                    · exact .inl h
                    · refine .inr ⟨h, true, rfl, fun W hW => ?_⟩
                      obtain ⟨ad3, h3, -, -, -, -, -, g5⟩ := at_T32 (Kd.C_below HC.out (B2.out.trans (hW.mono B2.out.size))) (f : Int) (by omega) (by omega)
                      obtain rfl := Option.some.inj h3
                      rw [rd_pc, Int.toNat_natCast, room_first HI.out HL.out h (by omega)] at g5
                      exact g5
                  clear HBR hj1 hj2 hjt
                  have x9 : (0 : Int) ≤ (f : Int) := by omega
                  by_cases z1 : a1 < X1 + Y1 - X0
                  · obtain rfl := HNO.out z1
                    rcases hff with h | ⟨h, v, hv, hcell⟩
                    · have z2 : ¬ (0 : Int) < (f : Int) := by omega
                      clear h
                      as_aux_lemma =>
                        go_wp2_with fail
                        go_roundw
                        case rel => exact ⟨j, j + 1, rfl, by go_num, HLS, Q5⟩
                        case measure => simp [intOf]; omega
                    · have z2 : (0 : Int) < (f : Int) := by omega
                      have g5 := hcell _ Q5.out
                      subst hv
                      clear h hcell
                      as_aux_lemma =>
                        go_wp2_with fail
                        go_roundw
                        case rel => exact ⟨j, j + 1, rfl, by go_num, HLS, Q5⟩
                        case measure => simp [intOf]; omega
                  · rcases hff with h | ⟨h, v, hv, hcell⟩
                    · have z2 : ¬ (0 : Int) < (f : Int) := by omega
                      clear h
                      as_aux_lemma =>
                        go_wp2_with fail
                        go_roundw
                        case rel => exact ⟨j, j + 1, rfl, by go_num, HLS, Q5⟩
                        case measure => simp [intOf]; omega
                    · have z2 : (0 : Int) < (f : Int) := by omega
                      have g5 := hcell _ Q5.out
                      subst hv
                      clear h hcell
                      as_aux_lemma =>
                        go_wp2_with fail
                        go_roundw
                        case rel => exact ⟨j, j + 1, rfl, by go_num, HLS, Q5⟩
                        case measure => simp [intOf]; omega
        · have u3 : ¬ (t : Int) ≤ (l0.length : Int) := by omega
          go_wp2_with fail
          go_ret
          exact ⟨rfl, (B2.out.trans (Q.out.mono B2.out.size))⟩
end Go.Proofs.Ythkipbnigokcfaa.Q
