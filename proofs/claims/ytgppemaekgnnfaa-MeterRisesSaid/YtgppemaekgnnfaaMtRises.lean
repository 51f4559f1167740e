/- The walk of MeterRises. -/
import Derived.Test.YtgppemaekgnnfaaMtDoes
namespace Go.Proofs.Ytgppemaekgnnfaa.Mt
open Go.RowKit Go.Proofs.Ytgppemaekgnnfaa.Mem
set_option linter.unusedVariables false

theorem rises_no (limit : Int) (a : Option Addr) (l : List Int) (cap : Nat) (w : World) (hl : l.length ≤ 200) (h : limit < 0 ∨ 1099511627776 < limit) :
    Calls Try.prog 4 #[.int .i64 limit, .slice a l.length cap] w fun e w' => e = .returned (.bool true) ∧ Below w.heap.size w w' := by
  have H := Lib.hid h
  clear h
  go_enter Try.func4, Try.ntmps4
  go_wp2_with fail
  refine (awake_calls _).mono ?_
  rintro e w1 ⟨rfl, hw1⟩
  have W1 := Lib.hid hw1
  clear hw1
  go_wp2_with fail
  refine (new_no limit _ H.out).mono ?_
  rintro e w' ⟨rfl, rfl⟩
  go_wp2_with fail
  go_ret
  exact ⟨rfl, W1.out⟩
theorem rises_long (limit : Int) (a : Option Addr) (l : List Int) (cap : Nat) (w : World) (hl : 200 < l.length) (hb : l.length ≤ 140737488351232) :
    Calls Try.prog 4 #[.int .i64 limit, .slice a l.length cap] w fun e w' => e = .returned (.bool true) ∧ Below w.heap.size w w' := by
  go_enter Try.func4, Try.ntmps4
  go_wp2_with fail
  refine (awake_calls _).mono ?_
  rintro e w1 ⟨rfl, hw1⟩
  have W1 := Lib.hid hw1
  clear hw1
  go_wp2_with fail
  go_ret
  exact ⟨rfl, W1.out⟩

set_option maxRecDepth 20000 in
set_option maxHeartbeats 2000000 in
theorem rises_some (limit : Int) (a : Option Addr) (l : List Int) (cap : Nat) (w : World) (hl : l.length ≤ 200) (h0 : 0 ≤ limit) (h1 : limit ≤ 1099511627776)
    (ha : Arr w a l.length (fun j => .int .i64 (l.getD j 0))) (hx : ∀ j, l.getD j 0 ≤ 9223372036854775807) :
    Calls Try.prog 4 #[.int .i64 limit, .slice a l.length cap] w fun e w' => e = .returned (.bool true) ∧ Below w.heap.size w w' := by
  have HA := Lib.hid ha
  have HX := Lib.hid hx
  clear ha hx
  go_enter Try.func4, Try.ntmps4
  go_wp2_with fail
  refine (awake_calls _).mono ?_
  rintro e w1 ⟨rfl, hw1⟩
  have W1 := Lib.hid hw1
  clear hw1
  go_wp2_with fail
  refine (new_ok limit _ h0 h1).mono ?_
  rintro e w2 ⟨rfl, hb2, hw2⟩
  have W2 := Lib.hid hw2
  have B2 := Lib.hid hb2
  clear hw2 hb2
  have k1 : w1.heap.size < w2.heap.size := B2.out.lt
  have k0 : w.heap.size ≤ w1.heap.size := W1.out.size
  have W12 := Lib.hid (W1.out.trans (W2.out.mono k0))
  go_wp2_with fail
  go_loopw [28] (fun i wr => ∃ (k : Nat) (tk : Int) (ov : Bool), k ≤ l.length ∧ i = .int .i64 k ∧ 0 ≤ tk ∧ tk ≤ limit ∧ Hid (ov = true → tk = limit) ∧ Hid (Mtr wr w1.heap.size limit tk ov) ∧ Hid (Below w.heap.size w wr)) (fun i _ => l.length - (intOf i).toNat)
  case atStart => exact ⟨0, 0, false, Nat.zero_le _, rfl, Int.le_refl 0, h0, Lib.hid (fun h => by cases h), B2, W12⟩
  case round =>
    obtain ⟨k, tk, ov, hk, rfl, t0, t1, hov, S1, SB⟩ := hrel
    by_cases hlt : k < l.length
    · obtain ⟨ba, oa, rfl, hba, hca⟩ : ∃ b o, a = some ⟨b, o, none⟩ ∧ b < w.heap.size ∧ w.cell? ⟨b, o + k, none⟩ = some (.int .i64 (l.getD k 0)) := by
        rcases HA.out with h | ⟨b, o, h1, h2, h3⟩
        · omega
        · exact ⟨b, o, h1, h2, h3 k hlt⟩
      have hn := HX.out k
      generalize l.getD k 0 = x at *
      have hcell : wr.cell? ⟨ba, oa + k, none⟩ = some (.int .i64 x) := by rw [SB.out.cell (p := ⟨ba, oa + k, none⟩) hba]; exact hca
      clear hca
      cases ov
      · by_cases hneg : x < 0
        · have e1 : takeT limit tk false x = tk := by simp [takeT, hneg]
          have e2 : takeO limit tk false x = false := by simp [takeO, hneg]
          have e3 : takeR limit tk false x = false := by simp [takeR, hneg]
          have E1 := Lib.hid e1
          have E2 := Lib.hid e2
          have E3 := Lib.hid e3
          clear e1 e2 e3
          go_wp2_with fail
          refine (taken_calls _ _ _ _ _ S1.out).mono ?_
          rintro e w' ⟨rfl, rfl⟩
          go_wp2_with fail
          refine (over_calls _ _ _ _ _ S1.out).mono ?_
          rintro e w' ⟨rfl, rfl⟩
          go_wp2_with fail
          refine (take_calls _ _ _ _ _ _ S1.out h1 t0 t1 hn).mono ?_
          rintro e w3 ⟨rfl, hb3, hw3⟩
          rw [E1.out, E2.out] at hb3
          rw [E3.out]
          have S2 := Lib.hid hb3
          have SB2 := Lib.hid (SB.out.trans (hw3.below k0 SB.out.size))
          clear hb3 hw3
          go_wp2_with fail
          refine (taken_calls _ _ _ _ _ S2.out).mono ?_
          rintro e w' ⟨rfl, rfl⟩
          go_wp2_with fail
          refine (taken_calls _ _ _ _ _ S2.out).mono ?_
          rintro e w' ⟨rfl, rfl⟩
          go_wp2_with fail
          refine (left_calls _ _ _ _ _ S2.out h1 (by omega) (by omega)).mono ?_
          rintro e w' ⟨rfl, nq, rfl⟩
          have S3 := Lib.hid (S2.out.drewN nq)
          have SB3 := Lib.hid (below_drewN SB2.out nq)
          go_wp2_with fail
          refine (taken_calls _ _ _ _ _ S3.out).mono ?_
          rintro e w' ⟨rfl, rfl⟩
          go_wp2_with fail
          refine (over_calls _ _ _ _ _ S3.out).mono ?_
          rintro e w' ⟨rfl, rfl⟩
          go_wp2_with fail
          go_roundw
          case rel => exact ⟨k + 1, _, _, by omega, by go_num, by omega, by omega, Lib.hid (by intro h; cases h), S3, SB3⟩
          case measure => simp [intOf]; omega
        · by_cases hbig : x > limit - tk
          · have e1 : takeT limit tk false x = limit := by simp [takeT, hneg, hbig]
            have e2 : takeO limit tk false x = true := by simp [takeO, hneg, hbig]
            have e3 : takeR limit tk false x = false := by simp [takeR, hneg]; omega
            have E1 := Lib.hid e1
            have E2 := Lib.hid e2
            have E3 := Lib.hid e3
            clear e1 e2 e3
            go_wp2_with fail
            refine (taken_calls _ _ _ _ _ S1.out).mono ?_
            rintro e w' ⟨rfl, rfl⟩
            go_wp2_with fail
            refine (over_calls _ _ _ _ _ S1.out).mono ?_
            rintro e w' ⟨rfl, rfl⟩
            go_wp2_with fail
            refine (take_calls _ _ _ _ _ _ S1.out h1 t0 t1 hn).mono ?_
            rintro e w3 ⟨rfl, hb3, hw3⟩
            rw [E1.out, E2.out] at hb3
            rw [E3.out]
            have S2 := Lib.hid hb3
            have SB2 := Lib.hid (SB.out.trans (hw3.below k0 SB.out.size))
            clear hb3 hw3
            go_wp2_with fail
            refine (taken_calls _ _ _ _ _ S2.out).mono ?_
            rintro e w' ⟨rfl, rfl⟩
            go_wp2_with fail
            refine (taken_calls _ _ _ _ _ S2.out).mono ?_
            rintro e w' ⟨rfl, rfl⟩
            go_wp2_with fail
            refine (left_calls _ _ _ _ _ S2.out h1 (by omega) (by omega)).mono ?_
            rintro e w' ⟨rfl, nq, rfl⟩
            have S3 := Lib.hid (S2.out.drewN nq)
            have SB3 := Lib.hid (below_drewN SB2.out nq)
            go_wp2_with fail
            refine (taken_calls _ _ _ _ _ S3.out).mono ?_
            rintro e w' ⟨rfl, rfl⟩
            go_wp2_with fail
            refine (over_calls _ _ _ _ _ S3.out).mono ?_
            rintro e w' ⟨rfl, rfl⟩
            go_wp2_with fail
            refine (taken_calls _ _ _ _ _ S3.out).mono ?_
            rintro e w' ⟨rfl, rfl⟩
            go_wp2_with fail
            go_roundw
            case rel => exact ⟨k + 1, _, _, by omega, by go_num, by omega, by omega, Lib.hid (by intro _; rfl), S3, SB3⟩
            case measure => simp [intOf]; omega
          · have e1 : takeT limit tk false x = tk + x := by simp [takeT, hneg, hbig]
            have e2 : takeO limit tk false x = false := by simp [takeO, hneg]; omega
            have e3 : takeR limit tk false x = true := by simp [takeR, hneg]; omega
            have E1 := Lib.hid e1
            have E2 := Lib.hid e2
            have E3 := Lib.hid e3
            clear e1 e2 e3
            go_wp2_with fail
            refine (taken_calls _ _ _ _ _ S1.out).mono ?_
            rintro e w' ⟨rfl, rfl⟩
            go_wp2_with fail
            refine (over_calls _ _ _ _ _ S1.out).mono ?_
            rintro e w' ⟨rfl, rfl⟩
            go_wp2_with fail
            refine (take_calls _ _ _ _ _ _ S1.out h1 t0 t1 hn).mono ?_
            rintro e w3 ⟨rfl, hb3, hw3⟩
            rw [E1.out, E2.out] at hb3
            rw [E3.out]
            have S2 := Lib.hid hb3
            have SB2 := Lib.hid (SB.out.trans (hw3.below k0 SB.out.size))
            clear hb3 hw3
            go_wp2_with fail
            refine (taken_calls _ _ _ _ _ S2.out).mono ?_
            rintro e w' ⟨rfl, rfl⟩
            go_wp2_with fail
            refine (taken_calls _ _ _ _ _ S2.out).mono ?_
            rintro e w' ⟨rfl, rfl⟩
            go_wp2_with fail
            refine (left_calls _ _ _ _ _ S2.out h1 (by omega) (by omega)).mono ?_
            rintro e w' ⟨rfl, nq, rfl⟩
            have S3 := Lib.hid (S2.out.drewN nq)
            have SB3 := Lib.hid (below_drewN SB2.out nq)
            go_wp2_with fail
            refine (taken_calls _ _ _ _ _ S3.out).mono ?_
            rintro e w' ⟨rfl, rfl⟩
            go_wp2_with fail
            refine (taken_calls _ _ _ _ _ S3.out).mono ?_
            rintro e w' ⟨rfl, rfl⟩
            go_wp2_with fail
            refine (over_calls _ _ _ _ _ S3.out).mono ?_
            rintro e w' ⟨rfl, rfl⟩
            go_wp2_with fail
            go_roundw
            case rel => exact ⟨k + 1, _, _, by omega, by go_num, by omega, by omega, Lib.hid (by intro h; cases h), S3, SB3⟩
            case measure => simp [intOf]; omega
      · obtain rfl : limit = tk := (hov.out rfl).symm
        clear hov
        have e1 : takeT limit limit true x = limit := by simp [takeT]
        have e2 : takeO limit limit true x = true := by simp [takeO]
        have e3 : takeR limit limit true x = false := by simp [takeR]
        have E1 := Lib.hid e1
        have E2 := Lib.hid e2
        have E3 := Lib.hid e3
        clear e1 e2 e3
        go_wp2_with fail
        refine (taken_calls _ _ _ _ _ S1.out).mono ?_
        rintro e w' ⟨rfl, rfl⟩
        go_wp2_with fail
        refine (over_calls _ _ _ _ _ S1.out).mono ?_
        rintro e w' ⟨rfl, rfl⟩
        go_wp2_with fail
        refine (take_calls _ _ _ _ _ _ S1.out h1 t0 t1 hn).mono ?_
        rintro e w3 ⟨rfl, hb3, hw3⟩
        rw [E1.out, E2.out] at hb3
        rw [E3.out]
        have S2 := Lib.hid hb3
        have SB2 := Lib.hid (SB.out.trans (hw3.below k0 SB.out.size))
        clear hb3 hw3
        go_wp2_with fail
        refine (taken_calls _ _ _ _ _ S2.out).mono ?_
        rintro e w' ⟨rfl, rfl⟩
        go_wp2_with fail
        refine (taken_calls _ _ _ _ _ S2.out).mono ?_
        rintro e w' ⟨rfl, rfl⟩
        go_wp2_with fail
        refine (left_calls _ _ _ _ _ S2.out h1 (by omega) (by omega)).mono ?_
        rintro e w' ⟨rfl, nq, rfl⟩
        have S3 := Lib.hid (S2.out.drewN nq)
        have SB3 := Lib.hid (below_drewN SB2.out nq)
        go_wp2_with fail
        refine (taken_calls _ _ _ _ _ S3.out).mono ?_
        rintro e w' ⟨rfl, rfl⟩
        go_wp2_with fail
        refine (over_calls _ _ _ _ _ S3.out).mono ?_
        rintro e w' ⟨rfl, rfl⟩
        go_wp2_with fail
        refine (taken_calls _ _ _ _ _ S3.out).mono ?_
        rintro e w' ⟨rfl, rfl⟩
        go_wp2_with fail
        refine (over_calls _ _ _ _ _ S3.out).mono ?_
        rintro e w' ⟨rfl, rfl⟩
        go_wp2_with fail
        refine (taken_calls _ _ _ _ _ S3.out).mono ?_
        rintro e w' ⟨rfl, rfl⟩
        go_wp2_with fail
        go_roundw
        case rel => exact ⟨k + 1, _, _, by omega, by go_num, by omega, by omega, Lib.hid (by intro _; rfl), S3, SB3⟩
        case measure => simp [intOf]; omega
    · go_wp2
      go_ret
      exact ⟨rfl, SB.out⟩

theorem rises_walk (limit : Int) (a : Option Addr) (l : List Int) (cap : Nat) (w : World) (h0 : (Lit.int .i64 limit).wf = true)
    (ha : Arr w a l.length (fun j => .int .i64 (l.getD j 0))) (hb : l.length * 8 ≤ 140737488351232) (hx : ∀ x ∈ l, (Lit.int .i64 x).wf = true) :
    Calls Try.prog 4 #[.int .i64 limit, .slice a l.length cap] w fun e w' => e = .returned (.bool true) ∧ Below w.heap.size w w' := by
  by_cases hl : l.length ≤ 200
  · by_cases h : 0 ≤ limit ∧ limit ≤ 1099511627776
    · exact rises_some limit a l cap w hl h.1 h.2 ha (getD_le hx)
    · exact rises_no limit a l cap w hl (by omega)
  · exact rises_long limit a l cap w (by omega) (by omega)
end Go.Proofs.Ytgppemaekgnnfaa.Mt
