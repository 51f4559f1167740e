/- The filler of lines, walked: after. -/
import Derived.Test.YthkipbnigokcfaaLnE
import Derived.Deep.QuietTactic
import Derived.BigQuiet
namespace Go.Proofs.Ythkipbnigokcfaa.Q
open Go.RowKit Go.IntWalk Go.Proofs.Ythkipbnigokcfaa.Mem Go.Proofs.YthkipbnigokcfaaW.PrintWords Go.Proofs.YthkipbnigokcfaaW.PrintLast Go.Proofs.YthkipbnigokcfaaW.PrintMore
set_option linter.unusedVariables false
set_option linter.unusedSimpArgs false

theorem aft_snoc (p : Pc) : ∀ (r : List Pc) (g : Bool) (n : Int), aft g n (r ++ [p]) = addV (if (g || decide (0 < r.length)) = true then addV (aft g n r) p.f3 else aft g n r) p.f1
  | [], g, n => by simp [aft]
  | q :: r, g, n => by
    show aft true _ (r ++ [p]) = _
    rw [aft_snoc p r true]
    simp [aft]
set_option maxRecDepth 100000 in
set_option maxHeartbeats 4000000 in
theorem after_calls (g : Nat) (w0 w1 : World) (room align : Int) (s : St) (v : Value) (n : Nat) (A : Option Addr) (c : Nat) (r : List Pc) (w : World) (hI : FI g w0 w1 room align s v w) (hF : Fine s n)
    (hC : Kd.C k32 w0 A r.length r) (hn : n + r.length ≤ 1000000000000) :
    Calls Try.prog 19 #[.pointer (some ⟨g, 0, none⟩), .slice A r.length c] w fun e w' => e = .returned (.int .i64 (s.after r)) ∧ Below w.heap.size w w' := by
  have HI := Lib.hid hI
  have HC := Lib.hid hC
  have hlen := hF.len
  have hop := hF.op
  obtain ⟨A1, c1, rfl⟩ := Kd.R_slice HI.out.row
  have b3 := HI.out.box.cell 3
  simp only [FB, List.getElem?_toArray, List.getElem?_cons_zero, List.getElem?_cons_succ] at b3
  have HLEN := Lib.hid hlen
  clear hI hF hC hlen
  go_enter Try.func19, Try.ntmps19
  go_wp2_with fail
  clear b3
  go_loopw [5, 14] (fun m i wr => ∃ k : Nat, k ≤ r.length ∧ i = .int .i64 k ∧ m = .int .i64 (aft s.gap s.wide (r.take k)) ∧ Hid (Below w.heap.size w wr)) (fun _ i wr => r.length - (intOf i).toNat)
  case atStart => exact ⟨0, Nat.zero_le _, rfl, rfl, Lib.hid (Below.refl _ _)⟩
  case round =>
    obtain ⟨k, hk, rfl, rfl, P⟩ := hrel
    by_cases hlt : k < r.length
    · have HQ := Lib.hid (HI.out.next P.out)
      obtain ⟨ad, rfl, e0, e1, e2, e3, e4, e5⟩ := at_T32 (Kd.C_below HC.out HQ.out.below) (k : Int) (by omega) (by omega)
      have hS : Hid (aft s.gap s.wide (r.take (k + 1)) = addV (if (s.gap || decide (0 < k)) = true then addV (aft s.gap s.wide (r.take k)) (rd_T32 r (k : Int)).f3 else aft s.gap s.wide (r.take k)) (rd_T32 r (k : Int)).f1) := Lib.hid (by
        rw [List.take_succ_eq_append_getElem hlt, aft_snoc, List.length_take, Nat.min_eq_left hk]
        simp [rd_T32, hlt])
      generalize aft s.gap s.wide (r.take k) = m at *
      generalize rd_T32 r (k : Int) = x at *
      obtain ⟨x0, x1, x2, x3, x4, x5⟩ := x
      simp only [Int.toNat_natCast] at e0 e1 e2 e3 e4 e5
      go_upto_region 5 with (fail)
      have HQ1 := Lib.hid (HQ.out.next ((Below.refl _ _).alloc (Nat.le_refl _) (.cells #[.int .i64 x0, .int .i64 x1, .int .i64 x2, .int .i64 x3, .string x4, .bool x5] 32)))
      have HP1 := Lib.hid (P.out.alloc P.out.size (.cells #[.int .i64 x0, .int .i64 x1, .int .i64 x2, .int .i64 x3, .string x4, .bool x5] 32))
      have HB1 := Lib.hid (Blk.alloc wr #[.int .i64 x0, .int .i64 x1, .int .i64 x2, .int .i64 x3, .string x4, .bool x5] 32)
      obtain ⟨pb, hpb⟩ : ∃ pb, pb = wr.heap.size := ⟨_, rfl⟩
      rw [← hpb] at HB1 ⊢
      generalize wr.alloc (.cells #[.int .i64 x0, .int .i64 x1, .int .i64 x2, .int .i64 x3, .string x4, .bool x5] 32) = W1 at HQ1 HP1 HB1 ⊢
      clear hpb e0 e1 e2 e3 e4 e5 P HQ
      have b0 := HQ1.out.box.cell 0
      have b1 := HQ1.out.box.cell 1
      simp only [FB, List.getElem?_toArray, List.getElem?_cons_zero, List.getElem?_cons_succ] at b0 b1
      rcases Nat.eq_zero_or_pos k with hk0 | hk0
      · subst hk0
        rcases Nat.lt_or_ge s.op s.out.length with hg | hg
        · have hg1 : decide (s.op < s.out.length) = true := decide_eq_true hg
          have hG : Hid ((s.gap || decide (0 < 0)) = true) := Lib.hid (by unfold St.gap; rw [hg1]; rfl)
          go_still (by kernel_rfl)
          clear b0 b1
          show Exit.then _ _ _ _ W1.drew
          have HP2 : Hid (Below w.heap.size w W1.drew) := Lib.hid (below_drew HP1.out)
          have HB2 := Lib.hid HB1.out.drew
          generalize W1.drew = W2 at HP2 HB2 ⊢
          have p1 := HB2.out.cell 1
          have p3 := HB2.out.cell 3
          simp only [List.getElem?_toArray, List.getElem?_cons_zero, List.getElem?_cons_succ] at p1 p3
          go_wp2_with (go_at_call 25; refine (add_same _ _ _).mono ?_; rintro e w' ⟨rfl, rfl⟩)
          go_roundw
          case rel => exact ⟨0 + 1, by omega, by go_num, by rw [hS.out, if_pos hG.out], HP2⟩
          case measure => simp [intOf]; omega
        · have hg1 : decide (s.op < s.out.length) = false := decide_eq_false (by omega)
          have hG : Hid (¬ (s.gap || decide (0 < 0)) = true) := Lib.hid (by unfold St.gap; rw [hg1]; simp)
          go_still (by kernel_rfl)
          clear b0 b1
          show Exit.then _ _ _ _ W1.drew
          have HP2 : Hid (Below w.heap.size w W1.drew) := Lib.hid (below_drew HP1.out)
          have HB2 := Lib.hid HB1.out.drew
          generalize W1.drew = W2 at HP2 HB2 ⊢
          have p1 := HB2.out.cell 1
          have p3 := HB2.out.cell 3
          simp only [List.getElem?_toArray, List.getElem?_cons_zero, List.getElem?_cons_succ] at p1 p3
          go_wp2_with (go_at_call 25; refine (add_same _ _ _).mono ?_; rintro e w' ⟨rfl, rfl⟩)
          go_roundw
          case rel => exact ⟨0 + 1, by omega, by go_num, by rw [hS.out, if_neg hG.out], HP2⟩
          case measure => simp [intOf]; omega
      · have hg1 : decide (0 < (k : Int)) = true := decide_eq_true (by omega)
        have hg2 : decide (0 < k) = true := decide_eq_true hk0
        have hG : Hid ((s.gap || decide (0 < k)) = true) := Lib.hid (by rw [decide_eq_true hk0, Bool.or_true])
        go_quiet (fail)
        clear b0 b1
        have HP2 := Lib.hid (pw_below_drewN HP1.out nq)
        have HB2 := Lib.hid (HB1.out.drewN nq)
        generalize W1.drewN nq = W2 at HP2 HB2 ⊢
        have p1 := HB2.out.cell 1
        have p3 := HB2.out.cell 3
        simp only [List.getElem?_toArray, List.getElem?_cons_zero, List.getElem?_cons_succ] at p1 p3
        go_wp2_with (go_at_call 25; refine (add_same _ _ _).mono ?_; rintro e w' ⟨rfl, rfl⟩)
        go_roundw
        case rel => exact ⟨k + 1, by omega, by go_num, by rw [hS.out, if_pos hG.out], HP2⟩
        case measure => simp [intOf]; omega
    · have hkl : Hid (r.take k = r) := Lib.hid (by rw [List.take_of_length_le (by omega)])
      go_wp2_with fail
      go_ret
      exact ⟨by rw [hkl.out]; rfl, P.out⟩
end Go.Proofs.Ythkipbnigokcfaa.Q
