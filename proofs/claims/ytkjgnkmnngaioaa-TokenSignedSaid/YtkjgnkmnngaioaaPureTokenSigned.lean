/- TokenSigned: what is signed tells what it was, and has neither of the signs' bytes; it is one text, or none. No condition. -/
import Derived.Test.YtkjgnkmnngaioaaQxD
import Derived.Test.YtkjgnkmnngaioaaTp
namespace Go.Proofs.Ytkjgnkmnngaioaa.Pure
open Go.RowKit Go.Proofs.Ytkjgnkmnngaioaa.Q Go.Proofs.YtkjgnkmnngaioaaW.PrintWords Go.Proofs.YtkjgnkmnngaioaaW.PrintLast
set_option linter.unusedVariables false

theorem wrap_step {i : Int} {n : Nat} (h0 : 0 ≤ i) (h : i < (n : Int)) (hn : n ≤ 140737488351232) : wrap64 (i + 1) = i + 1 := by
  unfold wrap64
  omega
theorem bt_at {s : ByteArray} {i : Nat} (h : i < s.size) : bt s (i : Int) = ((s[i]).toNat : Int) := by
  unfold bt
  rw [dif_pos (by simpa using h)]
  rfl
theorem ts_last (a0 T : ByteArray) (q : Bool) (hT : T.data.toList = signF (sgn q) a0.data.toList) (hs : T.size ≤ 4000) : ∀ k, 0 < k →
    ((token_Read.f T).bind fun bt142 => ((token_Tell.f T).bind fun t146 => (if t146.toList = a0.toList then (scrimlaw04_TokenSigned.j1 k a0 bt142.1 (bt142.2 != 0)) else (scrimlaw04_TokenSigned.j1 k a0 bt142.1 true)))) = some true := by
  intro k hk
  have h60 : (60 : UInt8) ∉ T.data.toList := by
    rw [hT]
    intro h
    exact (sign_bytes (sgn_or q) h).1 rfl
  have hr : token_Read.f T = some (endT [] T.data.toList, 0) := by
    unfold token_Read.f
    rw [if_pos (by omega), if_pos hs, readF_text h60]
  have ht : token_Tell.f T = some (st a0.data.toList) := by
    unfold token_Tell.f
    rw [if_pos (by omega), tellF_list, hT, tellL_sign (sgn_or q)]
  rw [hr, ht]
  simp only [Option.bind_some]
  have e1 : (st a0.data.toList).toList = a0.toList := by rw [ByteArray.toList_eq, ByteArray.toList_eq]; rfl
  rw [if_pos e1]
  obtain ⟨k, rfl⟩ : ∃ m, k = m + 1 := ⟨k - 1, by omega⟩
  rw [scrimlaw04_TokenSigned.j1]
  rw [if_neg (by decide)]
  by_cases h0 : a0.toList = []
  · rw [if_pos h0]
    have h1 : T.data.toList = [] := by rw [hT, ← ByteArray.toList_eq, h0]; rfl
    rw [h1]
    rfl
  · have h1 : T.data.toList ≠ [] := by
      intro h
      have h2 := tellL_sign (sgn_or q) a0.data.toList
      rw [← hT, h] at h2
      exact h0 (by rw [ByteArray.toList_eq, ← h2]; rfl)
    have h2 : endT [] T.data.toList = [⟨3, ⟨#[]⟩, st (tellF (st T.data.toList) 0), []⟩] := by unfold endT; rw [if_neg h1]; rfl
    rw [if_neg h0, h2]
    have h3 : st (tellF (st T.data.toList) 0) = st a0.data.toList := by rw [tellF_st, hT, tellL_sign (sgn_or q)]
    rw [h3, if_pos (by simp), if_pos (by simp)]
    show (if (3 : Int) = 3 then some ((st a0.data.toList).toList == a0.toList) else some false) = some true
    rw [if_pos rfl, e1]
    simp
theorem ts_loop (a0 T : ByteArray) (q : Bool) (hT : T.data.toList = signF (sgn q) a0.data.toList) (hs : T.size ≤ 4000) : ∀ (d k i : Nat), T.size - i = d → i ≤ T.size → d + 1 < k → scrimlaw04_TokenSigned.l0 k a0 q T (i : Int) = some true := by
  intro d
  induction d with
  | zero =>
    intro k i hd hi hk
    obtain ⟨k, rfl⟩ : ∃ m, k = m + 1 := ⟨k - 1, by omega⟩
    rw [scrimlaw04_TokenSigned.l0, if_neg (by omega)]
    exact ts_last a0 T q hT hs k (by omega)
  | succ d ih =>
    intro k i hd hi hk
    obtain ⟨k, rfl⟩ : ∃ m, k = m + 1 := ⟨k - 1, by omega⟩
    have hlt : i < T.size := by omega
    have hm : T[i] ∈ signF (sgn q) a0.data.toList := by
      rw [← hT]
      have : T[i] = T.data.toList[i]'(by simpa using hlt) := rfl
      rw [this]
      exact List.getElem_mem _
    have hb := sign_bytes (sgn_or q) hm
    have n60 : ¬ bt T (i : Int) = 60 := by
      rw [bt_at hlt]
      intro h
      exact hb.1 (by apply UInt8.toNat_inj.1; have : (T[i]).toNat = 60 := by omega
                     exact this)
    have n62 : ¬ bt T (i : Int) = 62 := by
      rw [bt_at hlt]
      intro h
      exact hb.2.1 (by apply UInt8.toNat_inj.1; have : (T[i]).toNat = 62 := by omega
                       exact this)
    rw [scrimlaw04_TokenSigned.l0, if_pos (by omega), if_pos (by omega), if_neg n60, if_neg n62]
    have hw : wrap64 ((i : Int) + 1) = ((i + 1 : Nat) : Int) := by rw [wrap_step (n := T.size) (by omega) (by omega) (by omega)]; omega
    rw [hw, ih k (i + 1) (by omega) (by omega) (by omega)]
    cases q with
    | false => rfl
    | true =>
      have n34 : ¬ bt T (i : Int) = 34 := by
        rw [bt_at hlt]
        intro h
        exact hb.2.2 rfl (by apply UInt8.toNat_inj.1; have : (T[i]).toNat = 34 := by omega
                             exact this)
      rw [if_pos rfl, if_neg n34]
theorem TokenSigned : scrimlaw04_TokenSigned.Pure := by
  intro a0 a1 hn
  by_cases h6 : (a0.size : Int) > 600
  · refine ⟨1, ?_⟩
    unfold scrimlaw04_TokenSigned.f scrimlaw04_awake.f
    simp only [Option.bind_some]
    rw [if_pos trivial, if_pos h6]
  · have hsz : (st (signF (sgn a1) a0.data.toList)).size ≤ 4000 := by
      have h := sign_len (np := sgn a1) (by rcases sgn_or a1 with h | h <;> omega) a0.data.toList
      have h2 : a0.data.toList.length = a0.size := by simp
      have h3 : (st (signF (sgn a1) a0.data.toList)).size = (signF (sgn a1) a0.data.toList).length := by unfold st; simp [ByteArray.size]
      omega
    refine ⟨(st (signF (sgn a1) a0.data.toList)).size + 2, ?_⟩
    unfold scrimlaw04_TokenSigned.f scrimlaw04_awake.f
    simp only [Option.bind_some]
    rw [if_pos trivial, if_neg h6]
    have hsg : token_Sign.f a0 a1 = some (st (signF (sgn a1) a0.data.toList)) := by
      unfold token_Sign.f
      rw [if_pos (by omega)]
    rw [hsg]
    simp only [Option.bind_some]
    exact ts_loop a0 _ a1 rfl hsz _ _ 0 (by rfl) (Nat.zero_le _) (by omega)
end Go.Proofs.Ytkjgnkmnngaioaa.Pure
