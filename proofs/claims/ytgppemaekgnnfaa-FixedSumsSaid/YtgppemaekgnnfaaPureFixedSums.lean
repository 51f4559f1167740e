/- The pure statement of FixedSums: what is summed up in parts is what is summed up at once, where all is exact. -/
import Derived.Test.YtgppemaekgnnfaaQx4
import Derived.Test.YtgppemaekgnnfaaFxL
namespace Go.Proofs.Ytgppemaekgnnfaa.Pure
open Go.RowKit Go.Proofs.Ytgppemaekgnnfaa.Q Go.Proofs.YtgppemaekgnnfaaW.PrintWords Go.Proofs.YtgppemaekgnnfaaW.PrintLast

/-- The sum of whole numbers. -/
def total : List Int → Int
  | [] => 0
  | x :: l => x + total l
theorem total_append : ∀ (l m : List Int), total (l ++ m) = total l + total m
  | [], m => by simp [total]
  | x :: l, m => by simp only [List.cons_append, total, total_append l m]; omega

theorem sm_false : ∀ (l : List Int) (n : Int), (sm n false l).2 = false
  | [], _ => rfl
  | _ :: l, _ => by simp only [sm, Bool.false_and]; exact sm_false l _

theorem sm_within : ∀ (l : List Int) (n : Int) (e : Bool), -1099511627776 ≤ n → n ≤ 1099511627776 → -1099511627776 ≤ (sm n e l).1 ∧ (sm n e l).1 ≤ 1099511627776
  | [], _, _, h1, h2 => ⟨h1, h2⟩
  | _ :: l, _, _, _, _ => by simp only [sm]; exact sm_within l _ _ (cl_lo _) (cl_hi _)

theorem sm_append : ∀ (l m : List Int) (n : Int) (e : Bool), sm n e (l ++ m) = sm (sm n e l).1 (sm n e l).2 m
  | [], _, _, _ => rfl
  | x :: l, m, n, e => by simp only [List.cons_append, sm]; exact sm_append l m _ _

/-- An exact sum, from a number on, is the number and the sum of whole numbers. -/
theorem sm_exact : ∀ (l : List Int) (n : Int), (sm n true l).2 = true → (sm n true l).1 = n + total l
  | [], n, _ => by simp [sm, total]
  | x :: l, n, h => by
    simp only [sm, Bool.true_and] at h ⊢
    by_cases hb : (clB n && clB x && clB (cl n + cl x)) = true
    · rw [hb] at h ⊢
      simp only [Bool.and_eq_true] at hb
      obtain ⟨⟨h1, h2⟩, h3⟩ := hb
      rw [cl_eq h1, cl_eq h2] at h3 h ⊢
      rw [cl_eq h3] at h ⊢
      rw [sm_exact l (n + x) h, total]
      omega
    · simp only [Bool.not_eq_true] at hb
      rw [hb, sm_false] at h
      cases h

/-- The loop of the law. -/
theorem sums_l0 (l : List Int) (hl : l.length * 8 ≤ 140737488351232) (a : Int) (f : Bool) (c : Int) (g : Bool) (s : Int) (h : Bool) :
    ∀ (d i k : Nat) (n : Int), i + d = l.length → d < k →
    scrimlaw01_FixedSums.l0 k a f c g s h (wrap64 n) l (l.length : Int) (i : Int) =
      some (decide (a = wrap64 (n + total (l.drop i))) && (!f || (!g || (h && (s == c))))) := by
  intro d
  induction d with
  | zero =>
    intro i k n e hk
    obtain ⟨k, rfl⟩ : ∃ m, k = m + 1 := ⟨k - 1, by omega⟩
    simp only [scrimlaw01_FixedSums.l0]
    rw [if_neg (by omega), List.drop_eq_nil_of_le (by omega)]
    simp only [total, Int.add_zero]
    by_cases e : a = wrap64 n
    · rw [if_pos e, decide_eq_true e]
      cases f <;> cases g <;> cases h <;> simp
    · rw [if_neg e, decide_eq_false e]; rfl
  | succ d ih =>
    intro i k n e hk
    obtain ⟨k, rfl⟩ : ∃ m, k = m + 1 := ⟨k - 1, by omega⟩
    have hi : i < l.length := by omega
    have w : wrap64 ((i : Int) + 1) = ((i + 1 : Nat) : Int) := by rw [wrap64_id (by omega) (by omega)]; omega
    have w2 : wrap64 (wrap64 n + l[i]) = wrap64 (n + l[i]) := by unfold wrap64; omega
    simp only [scrimlaw01_FixedSums.l0]
    rw [if_pos (by omega), if_pos (by omega), if_pos (by omega), rd_nat l i hi, w, w2, ih (i + 1) k _ (by omega) (by omega), List.drop_eq_getElem_cons hi]
    simp only [total]
    rw [Int.add_assoc]
    congr

theorem FixedSums : scrimlaw01_FixedSums.Pure := by
  intro l m _ hl _ _ hm _
  refine ⟨l.length + m.length + 6, ?_⟩
  unfold scrimlaw01_FixedSums.f
  rw [awake_f (l.length + m.length + 1), Option.bind_some, if_pos rfl]
  by_cases hbig : wrap64 ((l.length : Int) + (m.length : Int)) > 500
  · rw [if_pos hbig]
  rw [if_neg hbig]
  rw [wrap64_id (by omega) (by omega)] at hbig
  rw [sum_f l hl _ (by omega), Option.bind_some, sum_f m hm _ (by omega), Option.bind_some, Option.bind_some]
  rw [if_pos (by simp <;> omega), Option.bind_some, if_pos (by simp <;> omega), List.nil_append, sum_f (l ++ m) (by simp <;> omega) _ (by simp <;> omega), Option.bind_some]
  unfold fixed_Add.f
  rw [Option.bind_some]
  have w := sm_within l 0 true (by decide) (by decide)
  by_cases he : (sm 0 true l).2 = true
  · rw [if_pos he]
    have e1 := sm_exact l 0 he
    rw [Int.zero_add] at e1
    have z : wrap64 0 = 0 := wrap64_id (by decide) (by decide)
    have lp := sums_l0 l hl (sm 0 true l).1 (sm 0 true m).2 (sm 0 true (l ++ m)).1 (sm 0 true (l ++ m)).2 (cl (cl (sm 0 true l).1 + cl (sm 0 true m).1)) (clB (sm 0 true l).1 && clB (sm 0 true m).1 && clB (cl (sm 0 true l).1 + cl (sm 0 true m).1)) l.length 0 (l.length + m.length + 6) 0 (by omega) (by omega)
    rw [z] at lp
    rw [List.drop_zero, Int.zero_add] at lp
    refine lp.trans ?_
    have w' : wrap64 (total l) = total l := by rw [← e1]; exact wrap64_id (by omega) (by omega)
    rw [w', decide_eq_true e1]
    have wm := sm_within m 0 true (by decide) (by decide)
    by_cases hf : (sm 0 true m).2 = true
    · by_cases hg : (sm 0 true (l ++ m)).2 = true
      · have e2 := sm_exact m 0 hf
        have e3 := sm_exact (l ++ m) 0 hg
        have w3 := sm_within (l ++ m) 0 true (by decide) (by decide)
        rw [Int.zero_add] at e2 e3
        rw [total_append] at e3
        have b1 : clB (sm 0 true l).1 = true := clB_iff.2 w
        have b2 : clB (sm 0 true m).1 = true := clB_iff.2 wm
        have b3 : clB ((sm 0 true l).1 + (sm 0 true m).1) = true := clB_iff.2 (by rw [e1, e2, ← e3]; exact w3)
        rw [hf, hg, cl_eq b1, cl_eq b2, b1, b2, b3, cl_eq b3, e1, e2, e3]
        simp
      · simp only [Bool.not_eq_true] at hg
        rw [hg]; simp
    · simp only [Bool.not_eq_true] at hf
      rw [hf]; simp
  · rw [if_neg he]
    unfold scrimlaw01_within.f
    rw [if_pos w.1, decide_eq_true w.2]
    rfl
end Go.Proofs.Ytgppemaekgnnfaa.Pure
