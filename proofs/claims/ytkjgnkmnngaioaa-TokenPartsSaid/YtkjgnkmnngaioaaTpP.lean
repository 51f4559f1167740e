/- What the tokens of a text are: no two texts stand one behind the other, none is empty; names are names; no attribute is there twice. -/
import Derived.Test.YtkjgnkmnngaioaaTp
namespace Go.Proofs.Ytkjgnkmnngaioaa.Q
open Go.RowKit Go.Proofs.Ytkjgnkmnngaioaa.Mem Go.Proofs.YtkjgnkmnngaioaaW.PrintWords
set_option linter.unusedVariables false
set_option linter.unusedSimpArgs false

theorem byte_all {p : UInt8 → Bool} (h : ∀ n : Fin 256, p (UInt8.ofNat n.val) = true) (c : UInt8) : p c = true := by
  have := h ⟨c.toNat, c.toNat_lt⟩
  simpa using this
theorem low_inN (c : UInt8) : (!inN c || inN (low c)) = true := byte_all (p := fun c => !inN c || inN (low c)) (by decide +kernel) c
theorem low_ltr (c : UInt8) : (ltr (low c) == ltr c) = true := byte_all (p := fun c => ltr (low c) == ltr c) (by decide +kernel) c
theorem low_low (c : UInt8) : (low (low c) == low c) = true := byte_all (p := fun c => low (low c) == low c) (by decide +kernel) c
theorem tw_all {p : UInt8 → Bool} : ∀ {l : List UInt8}, (∀ c ∈ l, p c = true) → l.takeWhile p = l
  | [], _ => rfl
  | c :: l, h => by rw [List.takeWhile_cons, if_pos (h c (by simp)), tw_all (fun d hd => h d (by simp [hd]))]
theorem tw_take {p : UInt8 → Bool} : ∀ {l : List UInt8}, ∀ c ∈ l.take (l.takeWhile p).length, p c = true
  | [], c, h => by simp at h
  | d :: l, c, h => by
    rw [List.takeWhile_cons] at h
    split at h
    · rw [List.length_cons, List.take_succ_cons] at h
      rcases List.mem_cons.1 h with h | h
      · rw [h]; assumption
      · exact tw_take c h
    · simp at h
theorem nameB_low {l : List UInt8} {k : Nat} (h : nmF l = some k) : nameB (lows (l.take k)) = true := by
  have hs := nmF_some h
  have hk : k = (l.takeWhile inN).length := hs.1
  have h1 : ∀ c ∈ l.take k, inN c = true := by rw [hk]; exact tw_take
  have hlen : (lows (l.take k)).length = k := by unfold lows; rw [List.length_map, List.length_take]; omega
  have h2 : nmLen (lows (l.take k)) = k := by
    unfold nmLen
    rw [tw_all (fun c hc => by
      unfold lows at hc
      obtain ⟨d, hd, rfl⟩ := List.mem_map.1 hc
      have := low_inN d
      rw [h1 d hd] at this
      simpa using this), hlen]
  have h3 : ltr ((lows (l.take k)).headD 0) = true := by
    cases l with
    | nil => have h5 := hs.2.2.2.1; have h6 := hs.2.1; simp at h5; omega
    | cons c l =>
      obtain ⟨k, rfl⟩ : ∃ m, k = m + 1 := ⟨k - 1, by have := hs.2.1; omega⟩
      have h4 := low_ltr c
      have h5 := hs.2.2.2.2
      simp only [List.headD_cons] at h5
      rw [h5] at h4
      simpa [lows] using h4
  have h4 : lows (lows (l.take k)) = lows (l.take k) := by
    unfold lows
    rw [List.map_map]
    apply List.map_congr_left
    intro c _
    simpa using low_low c
  unfold nameB
  rw [h4, decide_eq_true rfl, Bool.and_true, decide_eq_true]
  unfold nmF
  rw [h2, h3, if_neg (by have := hs.2.1; have := hs.2.2.1; simp; omega), hlen]
/-- Attributes may be. -/
def okA (as_ : List S36) : Prop := as_.Pairwise (fun x y => x.f0 ≠ y.f0) ∧ ∀ x ∈ as_, nameB x.f0.data.toList = true
theorem eqS_iff (a b : ByteArray) : eqS a b = true ↔ a = b := by
  unfold eqS
  rw [decide_eq_true_iff]
  constructor
  · intro h
    rw [ByteArray.toList_eq, ByteArray.toList_eq] at h
    exact ByteArray.ext (Array.toList_inj.1 h)
  · intro h; rw [h]
theorem okA_add {as_ : List S36} (h : okA as_) {key v : ByteArray} (hk : nameB key.data.toList = true) : okA (addA as_ key v) := by
  unfold addA
  split
  · exact h
  · rename_i hn
    refine ⟨List.pairwise_append.2 ⟨h.1, List.pairwise_singleton _ _, fun x hx y hy => ?_⟩, fun x hx => ?_⟩
    · rw [List.mem_singleton] at hy
      subst hy
      intro e
      exact hn (List.any_eq_true.2 ⟨x, hx, (eqS_iff _ _).2 e⟩)
    · rcases List.mem_append.1 hx with hx | hx
      · exact h.2 x hx
      · rw [List.mem_singleton] at hx
        subst hx
        exact hk
theorem okA_opL {l : List UInt8} : ∀ {f o : Nat} {as_ : List S36} {r : List S36 × Nat}, okA as_ → opL l f o as_ = some r → okA r.1
  | 0, _, _, _, _, h => by cases h
  | f + 1, o, as_, r, ha, h => by
    rw [opL] at h
    split at h
    · injection h with h
      subst h
      exact ha
    · split at h
      · cases h
      · rename_i k hk
        split at h
        · cases h
        · split at h
          · exact okA_opL (okA_add ha (nameB_low hk)) h
          · split at h
            · cases h
            · exact okA_opL (okA_add ha (nameB_low hk)) h
/-- A token that is no text may be. -/
def okM (t : S31) : Prop := (t.f0 = 1 ∨ t.f0 = 2) ∧ nameB t.f1.data.toList = true ∧ t.f2.data.toList = [] ∧ (t.f0 = 2 → t.f3 = []) ∧ okA t.f3
theorem okM_tk {l : List UInt8} {t : S31} {u : Nat} (h : tkF l = some (t, u)) : okM t := by
  unfold tkF at h
  split at h
  · rename_i k u' hc
    injection h with h
    injection h with h1 h2
    subst h1
    unfold clF at hc
    split at hc
    · cases hc
    · split at hc
      · cases hc
      · split at hc
        · cases hc
        · rename_i hk
          split at hc
          · injection hc with hc
            injection hc with hc1 hc2
            subst hc1
            exact ⟨.inr rfl, nameB_low hk, rfl, fun _ => rfl, List.Pairwise.nil, fun x hx => by cases hx⟩
          · cases hc
  · split at h
    · rename_i hc k as_ u' ho
      injection h with h
      injection h with h1 h2
      subst h1
      unfold opF at ho
      split at ho
      · cases ho
      · rename_i hk
        obtain ⟨r, hr, he⟩ := Option.map_eq_some_iff.1 ho
        obtain ⟨r1, r2⟩ := r
        injection he with he1 he2
        injection he2 with he2 he3
        subst he1 he2 he3
        exact ⟨.inl rfl, nameB_low hk, rfl, (fun h => absurd (show (1 : Int) = 2 from h) (by decide)), okA_opL (r := (r1, r2)) ⟨List.Pairwise.nil, fun x hx => by cases hx⟩ hr⟩
    · cases h
/-- A text may be. -/
def okX (t : S31) : Prop := t.f0 = 3 ∧ t.f1.data.toList = [] ∧ t.f2.data.toList ≠ [] ∧ t.f3 = []
/-- Tokens may be. -/
def okT : List S31 → Prop := fun ts => ∀ i t, ts[i]? = some t → okM t ∨ (okX t ∧ ∀ j t', i = j + 1 → ts[j]? = some t' → t'.f0 ≠ 3)
theorem okT_snoc {ts : List S31} (h : okT ts) {t : S31} (ht : okM t ∨ (okX t ∧ ∀ t', ts.getLast? = some t' → t'.f0 ≠ 3)) : okT (ts ++ [t]) := by
  intro i x hx
  rcases Nat.lt_or_ge i ts.length with hi | hi
  · rw [List.getElem?_append_left hi] at hx
    rcases h i x hx with h1 | ⟨h1, h2⟩
    · exact .inl h1
    · refine .inr ⟨h1, fun j t' hj ht' => h2 j t' hj ?_⟩
      rwa [List.getElem?_append_left (by omega)] at ht'
  · have hi' : i = ts.length := by
      have := (List.getElem?_eq_some_iff.1 hx).1
      simp at this
      omega
    subst hi'
    have : t = x := by simpa using hx
    subst this
    rcases ht with h1 | ⟨h1, h2⟩
    · exact .inl h1
    · refine .inr ⟨h1, fun j t' hj ht' => h2 t' ?_⟩
      rw [List.getElem?_append_left (by omega)] at ht'
      rw [List.getLast?_eq_getElem?, hj, Nat.add_sub_cancel]
      exact ht'
theorem tlL_ne : ∀ {d : Nat} {l : List UInt8}, 0 < d → l ≠ [] → tlL d l ≠ []
  | 0, _, h, _ => by omega
  | d + 1, [], _, h => absurd rfl h
  | d + 1, c :: l, _, _ => by
    rw [tlL]
    split
    · split
      · rename_i a _
        have hv : (vs a).data.toList ≠ [] ∨ 4 ≤ a := by
          rcases Nat.lt_or_ge a 4 with h | h
          · have : a = 0 ∨ a = 1 ∨ a = 2 ∨ a = 3 := by omega
            rcases this with rfl | rfl | rfl | rfl <;> (left; decide)
          · exact .inr h
        rename_i hk
        rcases hv with hv | hv
        · intro h
          exact hv (List.append_eq_nil_iff.1 h).1
        · exfalso
          unfold lkL at hk
          split at hk
          · cases hk
          · split at hk
            · cases hk
            · rename_i i hi
              split at hk
              · injection hk with hk
                subst hk
                unfold lkI at hi
                split at hi
                · injection hi with hi; omega
                · split at hi
                  · injection hi with hi; omega
                  · split at hi
                    · injection hi with hi; omega
                    · split at hi
                      · injection hi with hi; omega
                      · cases hi
              · cases hk
      · simp
    · simp
theorem okT_end {ts : List S31} {tx : List UInt8} (h : okT ts) (hl : ∀ t', ts.getLast? = some t' → t'.f0 ≠ 3) : okT (endT ts tx) := by
  unfold endT
  split
  · exact h
  · rename_i hx
    refine okT_snoc h (.inr ⟨⟨rfl, rfl, ?_, rfl⟩, hl⟩)
    show (st (tellF (st tx) 0)).data.toList ≠ []
    rw [tellF_st]
    exact tlL_ne (List.length_pos_iff.2 hx) hx
theorem okT_rd {l : List UInt8} : ∀ {f o : Nat} {ts : List S31} {tx : List UInt8}, okT ts → (∀ t', ts.getLast? = some t' → t'.f0 ≠ 3) → okT (rdL l f o ts tx)
  | 0, _, _, _, h, hl => okT_end h hl
  | f + 1, o, ts, tx, h, hl => by
    rw [rdL]
    split
    · exact okT_end h hl
    · split
      · split
        · rename_i t u ht
          have hm := okM_tk ht
          refine okT_rd (okT_snoc (okT_end h hl) (.inl hm)) (fun t' ht' => ?_)
          rw [List.getLast?_append] at ht'
          have : t = t' := by simpa using ht'
          subst this
          rcases hm.1 with h1 | h1 <;> rw [h1] <;> decide
        · exact okT_rd h hl
      · exact okT_rd h hl
theorem okT_read (l : List UInt8) : okT (readF l) := okT_rd (fun i t h => by simp at h) (fun t' h => by simp at h)
end Go.Proofs.Ytkjgnkmnngaioaa.Q
