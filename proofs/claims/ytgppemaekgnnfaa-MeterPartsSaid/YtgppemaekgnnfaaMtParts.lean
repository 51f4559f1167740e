/- The walk of MeterParts. -/
import Derived.Test.YtgppemaekgnnfaaMtDoes
namespace Go.Proofs.Ytgppemaekgnnfaa.Mt
open Go.RowKit Go.Proofs.Ytgppemaekgnnfaa.Mem
set_option linter.unusedVariables false

theorem parts_step {lim s x : Int} (hl : 0 ≤ lim) (hs : 0 ≤ s) (hx : 0 ≤ x) :
    takeT lim (takeT lim 0 false s) (takeO lim 0 false s) x = takeT lim 0 false (s + x) ∧ takeO lim (takeT lim 0 false s) (takeO lim 0 false s) x = takeO lim 0 false (s + x) := by
  have h1 : ¬ s < 0 := by omega
  have h2 : ¬ x < 0 := by omega
  have h3 : ¬ s + x < 0 := by omega
  by_cases hb : s > lim
  · have h4 : s + x > lim := by omega
    simp [takeT, takeO, h1, h3, hb, h4]
  · by_cases hc : s + x > lim
    · have h5 : x > lim - s := by omega
      simp [takeT, takeO, h1, h2, h3, hb, hc, h5]
    · have h5 : ¬ x > lim - s := by omega
      simp [takeT, takeO, h1, h2, h3, hb, hc, h5]

theorem parts_no (limit : Int) (a : Option Addr) (l : List Int) (cap : Nat) (w : World) (hl : l.length ≤ 200) (h : limit < 0 ∨ 1099511627776 < limit) :
    Calls Try.prog 5 #[.int .i64 limit, .slice a l.length cap] w fun e w' => e = .returned (.bool true) ∧ Below w.heap.size w w' := by
  have H := Lib.hid h
  clear h
  go_enter Try.func5, Try.ntmps5
  go_wp2_with fail
  refine (awake_calls _).mono ?_
  rintro e w1 ⟨rfl, hw1⟩
  have W1 := Lib.hid hw1
  clear hw1
  go_wp2_with fail
  refine (new_no limit _ H.out).mono ?_
  rintro e w' ⟨rfl, rfl⟩
  go_wp2_with fail
  refine (new_no limit _ H.out).mono ?_
  rintro e w' ⟨rfl, rfl⟩
  go_wp2_with fail
  go_ret
  exact ⟨rfl, W1.out⟩
theorem parts_long (limit : Int) (a : Option Addr) (l : List Int) (cap : Nat) (w : World) (hl : 200 < l.length) (hb : l.length ≤ 140737488351232) :
    Calls Try.prog 5 #[.int .i64 limit, .slice a l.length cap] w fun e w' => e = .returned (.bool true) ∧ Below w.heap.size w w' := by
  go_enter Try.func5, Try.ntmps5
  go_wp2_with fail
  refine (awake_calls _).mono ?_
  rintro e w1 ⟨rfl, hw1⟩
  have W1 := Lib.hid hw1
  clear hw1
  go_wp2_with fail
  go_ret
  exact ⟨rfl, W1.out⟩

set_option maxRecDepth 20000 in
set_option maxHeartbeats 1000000 in
theorem parts_some (limit : Int) (a : Option Addr) (l : List Int) (cap : Nat) (w : World) (hl : l.length ≤ 200) (h0 : 0 ≤ limit) (h1 : limit ≤ 1099511627776)
    (ha : Arr w a l.length (fun j => .int .i64 (l.getD j 0))) :
    Calls Try.prog 5 #[.int .i64 limit, .slice a l.length cap] w fun e w' => e = .returned (.bool true) ∧ Below w.heap.size w w' := by
  have HA := Lib.hid ha
  clear ha
  go_enter Try.func5, Try.ntmps5
  go_wp2_with fail
  refine (awake_calls _).mono ?_
  rintro e w1 ⟨rfl, hw1⟩
  have W1 := Lib.hid hw1
  clear hw1
  go_wp2_with fail
  refine (new_ok limit _ h0 h1).mono ?_
  rintro e w2 ⟨rfl, hb2, hw2⟩
  have W2 := Lib.hid hw2
  have B2 := Lib.hid hb2
  clear hw2 hb2
  go_wp2_with fail
  refine (new_ok limit _ h0 h1).mono ?_
  rintro e w3 ⟨rfl, hb3, hw3⟩
  have W3 := Lib.hid hw3
  have B3 := Lib.hid hb3
  clear hw3 hb3
  have k1 : w1.heap.size < w2.heap.size := B2.out.lt
  have k2 : w2.heap.size < w3.heap.size := B3.out.lt
  have k0 : w.heap.size ≤ w1.heap.size := W1.out.size
  have WW := Lib.hid ((W1.out.trans (W2.out.mono k0)).trans (W3.out.mono (by omega)))
  have M3 := Lib.hid (show Mtr w3 w1.heap.size limit 0 false from Blk.below B2.out W3.out k1)
  have z1 : Hid (takeT limit 0 false 0 = 0) := by unfold Hid takeT; simp; omega
  have z2 : Hid (takeO limit 0 false 0 = false) := by unfold Hid takeO; simp; omega
  go_wp2_with fail
  go_loopw [9, 41] (fun s i wr => ∃ (k : Nat) (u : Int), k ≤ l.length ∧ i = .int .i64 k ∧ s = .int .i64 u ∧ 0 ≤ u ∧ u ≤ 1000000 * (k : Int) ∧ Hid (Mtr wr w1.heap.size limit (takeT limit 0 false u) (takeO limit 0 false u)) ∧ Hid (Mtr wr w2.heap.size limit 0 false) ∧ Hid (Below w.heap.size w wr)) (fun _ i _ => l.length - (intOf i).toNat)
  case atStart => exact ⟨0, 0, Nat.zero_le _, rfl, rfl, Int.le_refl 0, by simp, Lib.hid (by rw [z1.out, z2.out]; exact M3.out), B3, WW⟩
  case round =>
    obtain ⟨k, u, hk, rfl, rfl, u0, u1, S1, S2, SB⟩ := hrel
    have bd := takeT_bd (lim := limit) (tk := 0) (n := u) (ov := false) (Int.le_refl 0) h0
    have BD := Lib.hid bd
    clear bd
    by_cases hlt : k < l.length
    · obtain ⟨ba, oa, rfl, hba, hca⟩ : ∃ b o, a = some ⟨b, o, none⟩ ∧ b < w.heap.size ∧ w.cell? ⟨b, o + k, none⟩ = some (.int .i64 (l.getD k 0)) := by
        rcases HA.out with h | ⟨b, o, h1, h2, h3⟩
        · omega
        · exact ⟨b, o, h1, h2, h3 k hlt⟩
      generalize l.getD k 0 = x at *
      have hcell : wr.cell? ⟨ba, oa + k, none⟩ = some (.int .i64 x) := by rw [SB.out.cell (p := ⟨ba, oa + k, none⟩) hba]; exact hca
      clear hca
      by_cases hneg : x < 0
      · go_wp2
        go_ret
        exact ⟨rfl, SB.out⟩
      · by_cases hbig : 1000000 < x
        · go_wp2
          go_ret
          exact ⟨rfl, SB.out⟩
        · have ps := parts_step (x := x) h0 u0 (by omega)
          have PS := Lib.hid ps
          clear ps
          go_wp2_with fail
          refine (take_calls _ _ _ _ _ _ S1.out h1 BD.out.1 BD.out.2 (by omega)).mono ?_
          rintro e w5 ⟨rfl, hb5, hw5⟩
          rw [PS.out.1, PS.out.2] at hb5
          have S1' := Lib.hid hb5
          have S2' := Lib.hid (show Mtr w5 w2.heap.size limit 0 false from hw5.blk S2.out (by omega))
          have SB' := Lib.hid (SB.out.trans (hw5.below k0 SB.out.size))
          clear hb5 hw5
          go_wp2_with fail
          go_roundw
          case rel => exact ⟨k + 1, u + x, by omega, by go_num, rfl, by omega, by omega, S1', S2', SB'⟩
          case measure => simp [intOf]; omega
    · go_wp2_with fail
      refine (take_calls _ _ _ _ _ _ S2.out h1 (Int.le_refl 0) h0 (by omega)).mono ?_
      rintro e w5 ⟨rfl, hb5, hw5⟩
      have S2' := Lib.hid hb5
      have S1' := Lib.hid (show Mtr w5 w1.heap.size limit (takeT limit 0 false u) (takeO limit 0 false u) from hw5.blk S1.out (by omega))
      have SB' := Lib.hid (SB.out.trans (hw5.below (by omega) SB.out.size))
      clear hb5 hw5
      go_wp2_with fail
      refine (taken_calls _ _ _ _ _ S1'.out).mono ?_
      rintro e w' ⟨rfl, rfl⟩
      go_wp2_with fail
      refine (taken_calls _ _ _ _ _ S2'.out).mono ?_
      rintro e w' ⟨rfl, rfl⟩
      go_wp2_with fail
      refine (over_calls _ _ _ _ _ S1'.out).mono ?_
      rintro e w' ⟨rfl, rfl⟩
      go_wp2_with fail
      refine (over_calls _ _ _ _ _ S2'.out).mono ?_
      rintro e w' ⟨rfl, rfl⟩
      go_wp2_with fail
      refine (left_calls _ _ _ _ _ S1'.out h1 BD.out.1 BD.out.2).mono ?_
      rintro e w' ⟨rfl, nq, rfl⟩
      go_wp2_with fail
      refine (left_calls _ _ _ _ _ (S2'.out.drewN nq) h1 BD.out.1 BD.out.2).mono ?_
      rintro e w' ⟨rfl, nr, rfl⟩
      go_wp2_with fail
      go_ret
      exact ⟨rfl, below_drewN SB'.out _⟩

theorem parts_walk (limit : Int) (a : Option Addr) (l : List Int) (cap : Nat) (w : World) (h0 : (Lit.int .i64 limit).wf = true)
    (ha : Arr w a l.length (fun j => .int .i64 (l.getD j 0))) (hb : l.length * 8 ≤ 140737488351232) (hx : ∀ x ∈ l, (Lit.int .i64 x).wf = true) :
    Calls Try.prog 5 #[.int .i64 limit, .slice a l.length cap] w fun e w' => e = .returned (.bool true) ∧ Below w.heap.size w w' := by
  by_cases hl : l.length ≤ 200
  · by_cases h : 0 ≤ limit ∧ limit ≤ 1099511627776
    · exact parts_some limit a l cap w hl h.1 h.2 ha
    · exact parts_no limit a l cap w hl (by omega)
  · exact parts_long limit a l cap w (by omega) (by omega)
end Go.Proofs.Ytgppemaekgnnfaa.Mt
