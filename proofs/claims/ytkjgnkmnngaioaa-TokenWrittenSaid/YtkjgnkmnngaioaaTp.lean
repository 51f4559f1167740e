/- Plain words on tokens: what a text tells, as a function on lists; what is signed tells what it was; a text without the opening sign is one text. -/
import Derived.Test.YtkjgnkmnngaioaaTkG
namespace Go.Proofs.Ytkjgnkmnngaioaa.Q
open Go.RowKit Go.Proofs.Ytkjgnkmnngaioaa.Mem Go.Proofs.YtkjgnkmnngaioaaW.PrintWords
set_option linter.unusedVariables false
set_option linter.unusedSimpArgs false

/-- Which sign begins, behind its first byte. -/
def lkL : List UInt8 → Option Nat
  | [] => none
  | c :: r => match lkI c with
    | none => none
    | some i => if (px i).data.toList.isPrefixOf r = true then some i else none
def tlL : Nat → List UInt8 → List UInt8
  | 0, _ => []
  | _ + 1, [] => []
  | d + 1, c :: r => if c.toNat = 38 then (match lkL r with
      | some a => (vs a).data.toList ++ tlL d (r.drop (1 + (px a).size))
      | none => c :: tlL d r)
    else c :: tlL d r
theorem tl_list (s : ByteArray) : (tl s).data.toList = s.data.toList.drop 1 := by
  unfold tl
  rw [Lib.extract_data]
  exact List.take_of_length_le (by simp)
theorem hpB_list (s p : ByteArray) : hpB s p = p.data.toList.isPrefixOf s.data.toList := by
  have h := Lib.hasPrefix_raw s p
  unfold Lib.hasPrefix at h
  rw [← h]
  unfold hpB
  by_cases hs : p.size ≤ s.size
  · rw [if_pos hs, decide_eq_true hs, Bool.true_and]
  · rw [if_neg hs, decide_eq_false hs, Bool.false_and]
theorem lkF_list (s : ByteArray) : lkF s = lkL (s.data.toList.drop 1) := by
  unfold lkF
  have h1 := tl_list s
  have h2 : (tl s).size = (s.data.toList.drop 1).length := by rw [← h1]; simp
  cases hd : s.data.toList.drop 1 with
  | nil =>
    rw [hd] at h2
    rw [dif_neg (by rw [h2]; simp)]
    rfl
  | cons c r =>
    rw [hd] at h1 h2
    have h3 : 0 < (tl s).size := by rw [h2]; simp
    have h4 : (tl s)[0] = c := by
      have h5 : (tl s).data.toList[0]? = some c := by rw [h1]; rfl
      have h6 : (tl s).data.toList[0]? = some ((tl s)[0]) := by
        rw [List.getElem?_eq_getElem (by simpa using h3)]
        rfl
      exact Option.some.inj (h6.symm.trans h5)
    rw [dif_pos h3, h4]
    have h7 : (tl (tl s)).data.toList = r := by rw [tl_list, h1]; rfl
    simp only [lkL]
    cases lkI c with
    | none => rfl
    | some i =>
      dsimp only
      rw [hpB_list, h7]
theorem tellN_list (s : ByteArray) : ∀ (d i : Nat), tellN s d i = tlL d (s.data.toList.drop i)
  | 0, i => by rw [tellN]; rfl
  | d + 1, i => by
    have hl : s.data.toList.length = s.size := by simp
    rw [tellN]
    by_cases h : i < s.size
    · have hd : s.data.toList.drop i = s[i] :: s.data.toList.drop (i + 1) := List.drop_eq_getElem_cons (by omega)
      rw [dif_pos h, hd, tlL, lkF_list]
      have h1 : (s.extract i s.size).data.toList.drop 1 = s.data.toList.drop (i + 1) := by
        rw [Lib.extract_data, List.take_of_length_le (by simp), List.drop_drop]
      rw [h1]
      by_cases hc : s[i].toNat = 38
      · rw [if_pos hc, if_pos hc]
        cases hk : lkL (s.data.toList.drop (i + 1)) with
        | none =>
          show s[i] :: tellN s d (i + 1) = _
          rw [tellN_list s d (i + 1)]
        | some a =>
          show (vs a).data.toList ++ tellN s d (i + (2 + (px a).size)) = _
          show _ = (vs a).data.toList ++ tlL d (List.drop (1 + (px a).size) (List.drop (i + 1) s.data.toList))
          rw [tellN_list s d, List.drop_drop]
          rw [show i + (2 + (px a).size) = i + 1 + (1 + (px a).size) by omega]
      · rw [if_neg hc, if_neg hc, tellN_list s d (i + 1)]
    · rw [dif_neg h, List.drop_of_length_le (by omega)]
      rfl
theorem tlL_enough : ∀ (d d' : Nat) (l : List UInt8), l.length ≤ d → l.length ≤ d' → tlL d l = tlL d' l
  | 0, 0, _, _, _ => rfl
  | 0, d' + 1, l, h, _ => by
    have : l = [] := List.length_eq_zero_iff.1 (by omega)
    subst this; rfl
  | d + 1, 0, l, _, h => by
    have : l = [] := List.length_eq_zero_iff.1 (by omega)
    subst this; rfl
  | d + 1, d' + 1, [], _, _ => rfl
  | d + 1, d' + 1, c :: r, h, h' => by
    rw [List.length_cons] at h h'
    rw [tlL, tlL, tlL_enough d d' r (by omega) (by omega)]
    split
    · split
      · rename_i a _
        rw [tlL_enough d d' (r.drop (1 + (px a).size)) (by rw [List.length_drop]; omega) (by rw [List.length_drop]; omega)]
      · rfl
    · rfl
/-- What a text tells. -/
def tellL (l : List UInt8) : List UInt8 := tlL l.length l
theorem tellF_list (s : ByteArray) : tellF s 0 = tellL s.data.toList := by
  unfold tellF tellL
  rw [tellN_list, List.drop_zero]
  simp
theorem tellF_st (l : List UInt8) : tellF (st l) 0 = tellL l := tellF_list (st l)
/-- What is signed tells what it was. -/
theorem tlL_sign {np : Nat} (hnp : np = 3 ∨ np = 4) : ∀ (l : List UInt8) (d : Nat), (signF np l).length ≤ d → tlL d (signF np l) = l
  | [], d, _ => by cases d <;> rfl
  | c :: l, d, h => by
    have e : signF np (c :: l) = sg np c ++ signF np l := by simp [signF]
    rw [e] at h ⊢
    by_cases hc : ∃ a, a < np ∧ c.toNat = oby a
    · obtain ⟨a, ha, hca⟩ := hc
      rw [sg_some (by omega) ha hca] at h ⊢
      have ha4 : a = 0 ∨ a = 1 ∨ a = 2 ∨ a = 3 := by omega
      have hcc : c = UInt8.ofNat (oby a) := by rw [← hca]; simp
      obtain ⟨d, rfl⟩ : ∃ d', d = d' + 1 := ⟨d - 1, by
        rw [List.length_append] at h
        have := (ns_size (a := a) (by omega)).1
        have e2 : (ns a).data.toList.length = (ns a).size := by simp
        omega⟩
      have ih := tlL_sign hnp l d (by
        rw [List.length_append] at h
        have := (ns_size (a := a) (by omega)).1
        have e2 : (ns a).data.toList.length = (ns a).size := by simp
        omega)
      rcases ha4 with rfl | rfl | rfl | rfl
      · rw [hcc]
        show (38 : UInt8) :: tlL d (signF np l) = _
        rw [ih]; rfl
      · rw [hcc]
        show (60 : UInt8) :: tlL d (signF np l) = _
        rw [ih]; rfl
      · rw [hcc]
        show (62 : UInt8) :: tlL d (signF np l) = _
        rw [ih]; rfl
      · rw [hcc]
        show (34 : UInt8) :: tlL d (signF np l) = _
        rw [ih]; rfl
    · have hc' : ∀ a, a < np → c.toNat ≠ oby a := fun a h1 h2 => hc ⟨a, h1, h2⟩
      rw [sg_none hc'] at h ⊢
      obtain ⟨d, rfl⟩ : ∃ d', d = d' + 1 := ⟨d - 1, by simp at h; omega⟩
      show tlL (d + 1) (c :: signF np l) = _
      rw [tlL, if_neg (show ¬ c.toNat = 38 from hc' 0 (by omega)), tlL_sign hnp l d (by simp at h; omega)]
theorem tellL_sign {np : Nat} (hnp : np = 3 ∨ np = 4) (l : List UInt8) : tellL (signF np l) = l := tlL_sign hnp l _ (Nat.le_refl _)
theorem sgn_or (q : Bool) : sgn q = 3 ∨ sgn q = 4 := by cases q <;> simp [sgn]
/-- What is signed has none of the bytes that are signed. -/
theorem sign_bytes {np : Nat} (hnp : np = 3 ∨ np = 4) {l : List UInt8} {b : UInt8} (h : b ∈ signF np l) : b ≠ 60 ∧ b ≠ 62 ∧ (np = 4 → b ≠ 34) := by
  unfold signF at h
  rw [List.mem_flatMap] at h
  obtain ⟨c, _, h⟩ := h
  by_cases hc : ∃ a, a < np ∧ c.toNat = oby a
  · obtain ⟨a, ha, hca⟩ := hc
    rw [sg_some (by omega) ha hca] at h
    have ha4 : a = 0 ∨ a = 1 ∨ a = 2 ∨ a = 3 := by omega
    rcases ha4 with rfl | rfl | rfl | rfl <;> simp [ns] at h <;> rcases h with rfl | rfl | rfl | rfl | rfl | rfl <;> exact ⟨by decide, by decide, fun _ => by decide⟩
  · have hc' : ∀ a, a < np → c.toNat ≠ oby a := fun a h1 h2 => hc ⟨a, h1, h2⟩
    rw [sg_none hc', List.mem_singleton] at h
    subst h
    refine ⟨fun e => hc' 1 (by omega) (by rw [e]; rfl), fun e => hc' 2 (by omega) (by rw [e]; rfl), fun h4 e => hc' 3 (by omega) (by rw [e]; rfl)⟩
theorem sign_len {np : Nat} (hnp : np ≤ 4) (l : List UInt8) : (signF np l).length ≤ 6 * l.length := by
  induction l with
  | nil => simp [signF]
  | cons c l ih =>
    have e : signF np (c :: l) = sg np c ++ signF np l := by simp [signF]
    rw [e, List.length_append, List.length_cons]
    have h6 : (sg np c).length ≤ 6 := by
      by_cases hc : ∃ a, a < np ∧ c.toNat = oby a
      · obtain ⟨a, ha, hca⟩ := hc
        rw [sg_some hnp ha hca]
        have := (ns_size (a := a) (by omega)).2
        simpa using this
      · rw [sg_none (fun a h1 h2 => hc ⟨a, h1, h2⟩)]; simp
    omega
/-- A text without the opening sign. -/
theorem rdL_text {l : List UInt8} (h : (60 : UInt8) ∉ l) : ∀ (f o : Nat) (ts : List S31) (tx : List UInt8), l.length - o < f → o ≤ l.length → rdL l f o ts tx = endT ts (tx ++ l.drop o)
  | 0, o, ts, tx, hf, _ => by omega
  | f + 1, o, ts, tx, hf, ho => by
    rw [rdL]
    by_cases hlt : o < l.length
    · rw [List.getElem?_eq_getElem hlt]
      dsimp only
      rw [if_neg (fun e => h (by rw [← e]; exact List.getElem_mem hlt)), rdL_text h f (o + 1) ts (tx ++ [l[o]]) (by omega) (by omega), List.drop_eq_getElem_cons hlt]
      simp
    · rw [List.getElem?_eq_none (by omega), List.drop_of_length_le (by omega), List.append_nil]
theorem readF_text {l : List UInt8} (h : (60 : UInt8) ∉ l) : readF l = endT [] l := by
  unfold readF
  rw [rdL_text h _ 0 [] [] (by omega) (by omega)]
  simp
end Go.Proofs.Ytkjgnkmnngaioaa.Q
