/- TokenWritten: plain law and walk, in one text for the claim (written by this session: TpP, TpW, TpR, TpS, TwW put together). No condition. -/
import Derived.Test.YtkjgnkmnngaioaaTp
import Derived.Test.YtkjgnkmnngaioaaTkA
import Derived.Maps.OwnOps
import Derived.Maps.OwnSet
import Derived.Maps.Views
import Derived.LoopN
import Derived.StringKeys
import Derived.Test.YtkjgnkmnngaioaaQxC
import Derived.Test.YtkjgnkmnngaioaaQxW
import Derived.Test.YtkjgnkmnngaioaaOps
/- What the tokens of a text are: no two texts stand one behind the other, none is empty; names are names; no attribute is there twice. -/
namespace Go.Proofs.Ytkjgnkmnngaioaa.Q
open Go.RowKit Go.Proofs.Ytkjgnkmnngaioaa.Mem Go.Proofs.YtkjgnkmnngaioaaW.PrintWords
set_option linter.unusedVariables false
set_option linter.unusedSimpArgs false

theorem byte_all {p : UInt8 → Bool} (h : ∀ n : Fin 256, p (UInt8.ofNat n.val) = true) (c : UInt8) : p c = true := by
  have := h ⟨c.toNat, c.toNat_lt⟩
  simpa using this
theorem low_inN (c : UInt8) : (!inN c || inN (low c)) = true := byte_all (p := fun c => !inN c || inN (low c)) (by decide +kernel) c
theorem low_ltr (c : UInt8) : (ltr (low c) == ltr c) = true := byte_all (p := fun c => ltr (low c) == ltr c) (by decide +kernel) c
theorem low_low (c : UInt8) : (low (low c) == low c) = true := byte_all (p := fun c => low (low c) == low c) (by decide +kernel) c
theorem tw_all {p : UInt8 → Bool} : ∀ {l : List UInt8}, (∀ c ∈ l, p c = true) → l.takeWhile p = l
  | [], _ => rfl
  | c :: l, h => by rw [List.takeWhile_cons, if_pos (h c (by simp)), tw_all (fun d hd => h d (by simp [hd]))]
theorem tw_take {p : UInt8 → Bool} : ∀ {l : List UInt8}, ∀ c ∈ l.take (l.takeWhile p).length, p c = true
  | [], c, h => by simp at h
  | d :: l, c, h => by
    rw [List.takeWhile_cons] at h
    split at h
    · rw [List.length_cons, List.take_succ_cons] at h
      rcases List.mem_cons.1 h with h | h
      · rw [h]; assumption
      · exact tw_take c h
    · simp at h
theorem nameB_low {l : List UInt8} {k : Nat} (h : nmF l = some k) : nameB (lows (l.take k)) = true := by
  have hs := nmF_some h
  have hk : k = (l.takeWhile inN).length := hs.1
  have h1 : ∀ c ∈ l.take k, inN c = true := by rw [hk]; exact tw_take
  have hlen : (lows (l.take k)).length = k := by unfold lows; rw [List.length_map, List.length_take]; omega
  have h2 : nmLen (lows (l.take k)) = k := by
    unfold nmLen
    rw [tw_all (fun c hc => by
      unfold lows at hc
      obtain ⟨d, hd, rfl⟩ := List.mem_map.1 hc
      have := low_inN d
      rw [h1 d hd] at this
      simpa using this), hlen]
  have h3 : ltr ((lows (l.take k)).headD 0) = true := by
    cases l with
    | nil => have h5 := hs.2.2.2.1; have h6 := hs.2.1; simp at h5; omega
    | cons c l =>
      obtain ⟨k, rfl⟩ : ∃ m, k = m + 1 := ⟨k - 1, by have := hs.2.1; omega⟩
      have h4 := low_ltr c
      have h5 := hs.2.2.2.2
      simp only [List.headD_cons] at h5
      rw [h5] at h4
      simpa [lows] using h4
  have h4 : lows (lows (l.take k)) = lows (l.take k) := by
    unfold lows
    rw [List.map_map]
    apply List.map_congr_left
    intro c _
    simpa using low_low c
  unfold nameB
  rw [h4, decide_eq_true rfl, Bool.and_true, decide_eq_true]
  unfold nmF
  rw [h2, h3, if_neg (by have := hs.2.1; have := hs.2.2.1; simp; omega), hlen]
/-- Attributes may be. -/
def okA (as_ : List S36) : Prop := as_.Pairwise (fun x y => x.f0 ≠ y.f0) ∧ ∀ x ∈ as_, nameB x.f0.data.toList = true
theorem eqS_iff (a b : ByteArray) : eqS a b = true ↔ a = b := by
  unfold eqS
  rw [decide_eq_true_iff]
  constructor
  · intro h
    rw [ByteArray.toList_eq, ByteArray.toList_eq] at h
    exact ByteArray.ext (Array.toList_inj.1 h)
  · intro h; rw [h]
theorem okA_add {as_ : List S36} (h : okA as_) {key v : ByteArray} (hk : nameB key.data.toList = true) : okA (addA as_ key v) := by
  unfold addA
  split
  · exact h
  · rename_i hn
    refine ⟨List.pairwise_append.2 ⟨h.1, List.pairwise_singleton _ _, fun x hx y hy => ?_⟩, fun x hx => ?_⟩
    · rw [List.mem_singleton] at hy
      subst hy
      intro e
      exact hn (List.any_eq_true.2 ⟨x, hx, (eqS_iff _ _).2 e⟩)
    · rcases List.mem_append.1 hx with hx | hx
      · exact h.2 x hx
      · rw [List.mem_singleton] at hx
        subst hx
        exact hk
theorem okA_opL {l : List UInt8} : ∀ {f o : Nat} {as_ : List S36} {r : List S36 × Nat}, okA as_ → opL l f o as_ = some r → okA r.1
  | 0, _, _, _, _, h => by cases h
  | f + 1, o, as_, r, ha, h => by
    rw [opL] at h
    split at h
    · injection h with h
      subst h
      exact ha
    · split at h
      · cases h
      · rename_i k hk
        split at h
        · cases h
        · split at h
          · exact okA_opL (okA_add ha (nameB_low hk)) h
          · split at h
            · cases h
            · exact okA_opL (okA_add ha (nameB_low hk)) h
/-- A token that is no text may be. -/
def okM (t : S31) : Prop := (t.f0 = 1 ∨ t.f0 = 2) ∧ nameB t.f1.data.toList = true ∧ t.f2.data.toList = [] ∧ (t.f0 = 2 → t.f3 = []) ∧ okA t.f3
theorem okM_tk {l : List UInt8} {t : S31} {u : Nat} (h : tkF l = some (t, u)) : okM t := by
  unfold tkF at h
  split at h
  · rename_i k u' hc
    injection h with h
    injection h with h1 h2
    subst h1
    unfold clF at hc
    split at hc
    · cases hc
    · split at hc
      · cases hc
      · split at hc
        · cases hc
        · rename_i hk
          split at hc
          · injection hc with hc
            injection hc with hc1 hc2
            subst hc1
            exact ⟨.inr rfl, nameB_low hk, rfl, fun _ => rfl, List.Pairwise.nil, fun x hx => by cases hx⟩
          · cases hc
  · split at h
    · rename_i hc k as_ u' ho
      injection h with h
      injection h with h1 h2
      subst h1
      unfold opF at ho
      split at ho
      · cases ho
      · rename_i hk
        obtain ⟨r, hr, he⟩ := Option.map_eq_some_iff.1 ho
        obtain ⟨r1, r2⟩ := r
        injection he with he1 he2
        injection he2 with he2 he3
        subst he1 he2 he3
        exact ⟨.inl rfl, nameB_low hk, rfl, (fun h => absurd (show (1 : Int) = 2 from h) (by decide)), okA_opL (r := (r1, r2)) ⟨List.Pairwise.nil, fun x hx => by cases hx⟩ hr⟩
    · cases h
/-- A text may be. -/
def okX (t : S31) : Prop := t.f0 = 3 ∧ t.f1.data.toList = [] ∧ t.f2.data.toList ≠ [] ∧ t.f3 = []
/-- Tokens may be. -/
def okT : List S31 → Prop := fun ts => ∀ i t, ts[i]? = some t → okM t ∨ (okX t ∧ ∀ j t', i = j + 1 → ts[j]? = some t' → t'.f0 ≠ 3)
theorem okT_snoc {ts : List S31} (h : okT ts) {t : S31} (ht : okM t ∨ (okX t ∧ ∀ t', ts.getLast? = some t' → t'.f0 ≠ 3)) : okT (ts ++ [t]) := by
  intro i x hx
  rcases Nat.lt_or_ge i ts.length with hi | hi
  · rw [List.getElem?_append_left hi] at hx
    rcases h i x hx with h1 | ⟨h1, h2⟩
    · exact .inl h1
    · refine .inr ⟨h1, fun j t' hj ht' => h2 j t' hj ?_⟩
      rwa [List.getElem?_append_left (by omega)] at ht'
  · have hi' : i = ts.length := by
      have := (List.getElem?_eq_some_iff.1 hx).1
      simp at this
      omega
    subst hi'
    have : t = x := by simpa using hx
    subst this
    rcases ht with h1 | ⟨h1, h2⟩
    · exact .inl h1
    · refine .inr ⟨h1, fun j t' hj ht' => h2 t' ?_⟩
      rw [List.getElem?_append_left (by omega)] at ht'
      rw [List.getLast?_eq_getElem?, hj, Nat.add_sub_cancel]
      exact ht'
theorem tlL_ne : ∀ {d : Nat} {l : List UInt8}, 0 < d → l ≠ [] → tlL d l ≠ []
  | 0, _, h, _ => by omega
  | d + 1, [], _, h => absurd rfl h
  | d + 1, c :: l, _, _ => by
    rw [tlL]
    split
    · split
      · rename_i a _
        have hv : (vs a).data.toList ≠ [] ∨ 4 ≤ a := by
          rcases Nat.lt_or_ge a 4 with h | h
          · have : a = 0 ∨ a = 1 ∨ a = 2 ∨ a = 3 := by omega
            rcases this with rfl | rfl | rfl | rfl <;> (left; decide)
          · exact .inr h
        rename_i hk
        rcases hv with hv | hv
        · intro h
          exact hv (List.append_eq_nil_iff.1 h).1
        · exfalso
          unfold lkL at hk
          split at hk
          · cases hk
          · split at hk
            · cases hk
            · rename_i i hi
              split at hk
              · injection hk with hk
                subst hk
                unfold lkI at hi
                split at hi
                · injection hi with hi; omega
                · split at hi
                  · injection hi with hi; omega
                  · split at hi
                    · injection hi with hi; omega
                    · split at hi
                      · injection hi with hi; omega
                      · cases hi
              · cases hk
      · simp
    · simp
theorem okT_end {ts : List S31} {tx : List UInt8} (h : okT ts) (hl : ∀ t', ts.getLast? = some t' → t'.f0 ≠ 3) : okT (endT ts tx) := by
  unfold endT
  split
  · exact h
  · rename_i hx
    refine okT_snoc h (.inr ⟨⟨rfl, rfl, ?_, rfl⟩, hl⟩)
    show (st (tellF (st tx) 0)).data.toList ≠ []
    rw [tellF_st]
    exact tlL_ne (List.length_pos_iff.2 hx) hx
theorem okT_rd {l : List UInt8} : ∀ {f o : Nat} {ts : List S31} {tx : List UInt8}, okT ts → (∀ t', ts.getLast? = some t' → t'.f0 ≠ 3) → okT (rdL l f o ts tx)
  | 0, _, _, _, h, hl => okT_end h hl
  | f + 1, o, ts, tx, h, hl => by
    rw [rdL]
    split
    · exact okT_end h hl
    · split
      · split
        · rename_i t u ht
          have hm := okM_tk ht
          refine okT_rd (okT_snoc (okT_end h hl) (.inl hm)) (fun t' ht' => ?_)
          rw [List.getLast?_append] at ht'
          have : t = t' := by simpa using ht'
          subst this
          rcases hm.1 with h1 | h1 <;> rw [h1] <;> decide
        · exact okT_rd h hl
      · exact okT_rd h hl
theorem okT_read (l : List UInt8) : okT (readF l) := okT_rd (fun i t h => by simp at h) (fun t' h => by simp at h)
end Go.Proofs.Ytkjgnkmnngaioaa.Q

/- TokenParts walked: no two texts stand one behind the other, and none is empty; names are names, and no attribute is there twice. No condition. -/
namespace Go.Proofs.Ytkjgnkmnngaioaa.Q
open Go.RowKit Go.IntWalk Go.Proofs.Ytkjgnkmnngaioaa.Mem Go.Proofs.YtkjgnkmnngaioaaW.PrintWords Go.Proofs.YtkjgnkmnngaioaaW.PrintLast Go.Proofs.YtkjgnkmnngaioaaW.PrintMore
open Go.Maps (Keyed)
set_option linter.unusedVariables false
set_option linter.unusedSimpArgs false

theorem plainElem_bool_inv {H : Type} {P : Program} {e : TypeId} (he : P.underlying e = some .bool) {v : Value} {z : DataW H × List MemPlace} (h : plainElem P e v = some z) : ∃ b, v = .bool b ∧ z = (.lit (.bool b), []) := by
  unfold plainElem at h
  rw [he] at h
  cases v <;> simp at h
  exact ⟨_, rfl, h.symm⟩
/-- A look-up of a bool in a map of the call's own. -/
theorem wpList_lookup_own_bool {H : Type} {P : Program} (w : World) {ops : Array Oper} {rest : List Oper} {o : Oper} {a : Act} {Q : Exit → Act → World → Prop}
    (hg : o.guard = none) (m x : Operand) (t : TypeId) (hop : o.op = Op.lookup t m x false)
    (k e : TypeId) (K : Keyed P k) (ht : P.underlying t = some (.map k e)) (he : P.underlying e = some .bool) (hz : (zeroValue e).run P w = .ok (.bool false) w) (b n : Nat) (D : DataW H)
    (hm : a.eval m = .map (some b)) (hown : w.ownsMap P k (plainElem P e) b n D) (key : Value) (kl : Lit) (hx : a.eval x = key) (hkey : keyOf P k key = some kl)
    (hK : ∀ c : Bool, D.atKey kl (.lit (.bool false)) = .lit (.bool c) → wpList P ops Q rest (a.put o.dst (.bool c)) w) :
    wpList P ops Q (o :: rest) a w := by
  refine wpList_plain hg fun K' hK' => ?_
  obtain ⟨v, ps, hrun, hv⟩ := hown.lookup K ht hz (plainElem_bool he false) hkey
  obtain ⟨c, rfl, hc⟩ := plainElem_bool_inv he hv
  simp only [Prod.mk.injEq] at hc
  unfold Oper.wp
  simp [execOp, hop, hm, hx, hrun, Result.andThen]
  exact hK' _ _ (hK c hc.1)
/-- The names, as a map's keys. -/
def keyL (x : S36) : Lit := .string x.f0.data.toList
def seenM (l : List S36) : DataW Nat := Maps.setOf (.lit (.bool true)) (l.map keyL)
theorem keyL_key (x : S36) : WideAt.IsKeyLit (keyL x) := by unfold keyL; first | trivial | simp [WideAt.IsKeyLit]
theorem seen_not {l : List S36} {x : S36} (h : ∀ y ∈ l, y.f0 ≠ x.f0) : Maps.has (seenM l) (keyL x) = false := by
  unfold seenM
  rw [Maps.has_setOf _ _ _ (fun y hy => by
    obtain ⟨z, _, rfl⟩ := List.mem_map.1 hy
    exact keyL_key z), List.any_eq_false]
  intro y hy
  obtain ⟨z, hz, rfl⟩ := List.mem_map.1 hy
  rw [Maps.sameKey_ne (fun e => h z hz (by
    unfold keyL at e
    injection e with e
    exact ByteArray.ext (Array.toList_inj.1 e)))]
  simp
theorem seen_snoc (l : List S36) (x : S36) : seenM (l ++ [x]) = (seenM l).put (keyL x) (.lit (.bool true)) := by
  unfold seenM
  rw [List.map_append, List.map_singleton, Maps.setOf_snoc]
theorem name_small {s : ByteArray} (h : nameB s.data.toList = true) : s.size ≤ 20 ∧ token_Name.f s = some true := by
  have h1 : s.size ≤ 20 := by
    unfold nameB at h
    rw [Bool.and_eq_true, decide_eq_true_iff] at h
    have h2 := (nmF_some h.1).2.2.1
    have h3 : s.data.toList.length = s.size := by simp
    omega
  refine ⟨h1, ?_⟩
  unfold token_Name.f
  rw [if_pos (by omega), h]
theorem empty_of {s : ByteArray} (h : s.data.toList = []) : s = ⟨#[]⟩ := ByteArray.ext (Array.toList_inj.1 h)
end Go.Proofs.Ytkjgnkmnngaioaa.Q

/- What is written is read: an opening with its attributes, a text, a closing. -/
namespace Go.Proofs.Ytkjgnkmnngaioaa.Q
open Go.RowKit Go.Proofs.Ytkjgnkmnngaioaa.Mem Go.Proofs.YtkjgnkmnngaioaaW.PrintWords
set_option linter.unusedVariables false
set_option linter.unusedSimpArgs false

theorem nameB_parts {n : List UInt8} (h : nameB n = true) : 0 < n.length ∧ n.length ≤ 20 ∧ (∀ c ∈ n, inN c = true) ∧ lows n = n ∧ ltr (n.headD 0) = true := by
  unfold nameB at h
  rw [Bool.and_eq_true, decide_eq_true_iff, decide_eq_true_iff] at h
  have h1 := nmF_some h.1
  refine ⟨h1.2.1, h1.2.2.1, ?_, h.2, h1.2.2.2.2⟩
  have h2 : n.length = (n.takeWhile inN).length := h1.1
  have h3 : n.take (n.takeWhile inN).length = n := by rw [← h2]; exact List.take_length
  intro c hc
  exact tw_take c (by rw [h3]; exact hc)
theorem nmF_app {n r : List UInt8} (h : nameB n = true) (hr : ∀ c, r.head? = some c → inN c = false) : nmF (n ++ r) = some n.length := by
  obtain ⟨h1, h2, h3, h4, h5⟩ := nameB_parts h
  have hl : nmLen (n ++ r) = n.length := by
    refine nmLen_drop (fun c hc => h3 c (by rwa [List.take_left'] at hc; rfl)) (by simp) ?_
    cases r with
    | nil => left; simp
    | cons c r =>
      right
      refine ⟨by simp, ?_⟩
      rw [List.getElem_append_right (Nat.le_refl _)]
      simpa using hr c rfl
  unfold nmF
  have hh : (n ++ r).headD 0 = n.headD 0 := by
    cases n with
    | nil => simp at h1
    | cons c n => rfl
  rw [hl, hh, h5, if_neg (by rintro (h | h | h) <;> first | omega | cases h)]
theorem lows_app {n r : List UInt8} (h : nameB n = true) : lows ((n ++ r).take n.length) = n := by
  rw [List.take_left' rfl]
  exact (nameB_parts h).2.2.2.1
theorem ltr_not {c : UInt8} (h : ltr c = true) : bl c = false ∧ c ≠ 62 ∧ c ≠ 47 ∧ c ≠ 61 := by
  have h1 := byte_all (p := fun c => !ltr c || (!bl c && decide (c ≠ 62) && decide (c ≠ 47) && decide (c ≠ 61))) (by decide +kernel) c
  simp only [h, Bool.not_true, Bool.false_or, Bool.and_eq_true, Bool.not_eq_true', decide_eq_true_eq] at h1
  exact ⟨h1.1.1.1, h1.1.1.2, h1.1.2, h1.2⟩
/-- An attribute, written. -/
def atW (a : S36) : List UInt8 := 32 :: (a.f0.data.toList ++ (61 :: 34 :: (signF 4 a.f1.data.toList ++ [34])))
def atsW (as_ : List S36) : List UInt8 := as_.flatMap atW
theorem atsW_len (as_ : List S36) : as_.length ≤ (atsW as_).length := by
  induction as_ with
  | nil => simp [atsW]
  | cons a as_ ih =>
    have e : atsW (a :: as_) = atW a ++ atsW as_ := by simp [atsW]
    rw [e, List.length_append, List.length_cons]
    unfold atW
    rw [List.length_cons]
    omega
theorem qF_sign (v r : List UInt8) : qF (61 :: 34 :: (signF 4 v ++ 34 :: r)) = some (signF 4 v) := by
  have hn : (34 : UInt8) ∉ signF 4 v := fun h => (sign_bytes (.inr rfl) h).2.2 rfl rfl
  unfold qF
  rw [if_pos (by rfl)]
  have hd : List.drop 2 (61 :: 34 :: (signF 4 v ++ 34 :: r)) = signF 4 v ++ 34 :: r := rfl
  rw [hd, if_pos (by simp)]
  congr 1
  rw [List.takeWhile_append_of_pos (fun c hc => by
    have : c ≠ 34 := fun e => hn (by rw [← e]; exact hc)
    simpa using this)]
  simp
theorem opL_written {rest : List UInt8} : ∀ (as2 as1 : List S36) (P : List UInt8) (f : Nat), as2.length < f → (∀ x ∈ as2, nameB x.f0.data.toList = true) → (as1 ++ as2).Pairwise (fun x y => x.f0 ≠ y.f0) →
    opL (P ++ (atsW as2 ++ 62 :: rest)) f P.length as1 = some (as1 ++ as2, P.length + (atsW as2).length + 1)
  | [], as1, P, f, hf, _, _ => by
    obtain ⟨f, rfl⟩ : ∃ m, f = m + 1 := ⟨f - 1, by simp at hf; omega⟩
    have hd : (P ++ (atsW [] ++ 62 :: rest)).drop P.length = 62 :: rest := by rw [List.drop_left' rfl]; rfl
    rw [opL, hd]
    have hs : spLen (62 :: rest) = 0 := rfl
    rw [hs, Nat.add_zero, hd, if_pos (show (62 :: rest).head? = some 62 from rfl)]
    simp [atsW]
  | a :: as2, as1, P, f, hf, hn, hp => by
    obtain ⟨f, rfl⟩ : ∃ m, f = m + 1 := ⟨f - 1, by omega⟩
    have ha := hn a (by simp)
    obtain ⟨k1, k2, k3, k4, k5⟩ := nameB_parts ha
    obtain ⟨n0, n1, hnm⟩ : ∃ n0 n1, a.f0.data.toList = n0 :: n1 := by
      cases h : a.f0.data.toList with
      | nil => rw [h] at k1; simp at k1
      | cons x y => exact ⟨x, y, rfl⟩
    have hl0 : ltr n0 = true := by rw [hnm] at k5; exact k5
    have hq0 := ltr_not hl0
    obtain ⟨T, hT⟩ : ∃ T, T = atsW as2 ++ 62 :: rest := ⟨_, rfl⟩
    obtain ⟨v, hv⟩ : ∃ v, v = signF 4 a.f1.data.toList := ⟨_, rfl⟩
    have hL : P ++ (atsW (a :: as2) ++ 62 :: rest) = P ++ (32 :: (a.f0.data.toList ++ (61 :: 34 :: (v ++ 34 :: T)))) := by
      rw [hT, hv]
      simp [atsW, atW]
    rw [hL]
    have d0 : (P ++ (32 :: (a.f0.data.toList ++ (61 :: 34 :: (v ++ 34 :: T))))).drop P.length = 32 :: (a.f0.data.toList ++ (61 :: 34 :: (v ++ 34 :: T))) := List.drop_left' rfl
    have hs : spLen (32 :: (a.f0.data.toList ++ (61 :: 34 :: (v ++ 34 :: T)))) = 1 := by
      rw [hnm]
      unfold spLen
      rw [List.takeWhile_cons, if_pos (by decide), List.cons_append, List.takeWhile_cons, if_neg (by rw [hq0.1]; decide)]
      rfl
    have d1 : (P ++ (32 :: (a.f0.data.toList ++ (61 :: 34 :: (v ++ 34 :: T))))).drop (P.length + 1) = a.f0.data.toList ++ (61 :: 34 :: (v ++ 34 :: T)) := by
      rw [← List.drop_drop, d0]; rfl
    have d2 : (P ++ (32 :: (a.f0.data.toList ++ (61 :: 34 :: (v ++ 34 :: T))))).drop (P.length + 1 + a.f0.data.toList.length) = 61 :: 34 :: (v ++ 34 :: T) := by
      rw [← List.drop_drop, d1]; exact List.drop_left' rfl
    have hnf : nmF (a.f0.data.toList ++ (61 :: 34 :: (v ++ 34 :: T))) = some a.f0.data.toList.length := nmF_app ha (fun c hc => by injection hc with hc; subst hc; decide)
    rw [opL, d0, hs, d1]
    rw [if_neg (by rw [hnm]; intro h; injection h with h; exact hq0.2.1 h), hnf]
    dsimp only
    rw [if_neg (by decide), d2, hv, qF_sign]
    dsimp only
    rw [← hv, lows_app ha]
    have hval : st (tellF (st v) 0) = a.f1 := by
      rw [tellF_st, hv, tellL_sign (.inr rfl)]
      rfl
    have hkey : st a.f0.data.toList = a.f0 := rfl
    have hadd : addA as1 a.f0 a.f1 = as1 ++ [a] := by
      unfold addA
      rw [if_neg]
      intro h
      obtain ⟨x, hx, he⟩ := List.any_eq_true.1 h
      exact (List.pairwise_append.1 hp).2.2 x hx a (by simp) ((eqS_iff _ _).1 he)
    rw [hval, hkey, hadd]
    have hP : P ++ (32 :: (a.f0.data.toList ++ (61 :: 34 :: (v ++ 34 :: T)))) = (P ++ atW a) ++ (atsW as2 ++ 62 :: rest) := by
      rw [hT]; unfold atW; rw [← hv]; simp
    have hPl : P.length + 1 + a.f0.data.toList.length + (v.length + 3) = (P ++ atW a).length := by
      unfold atW; rw [← hv]; simp; omega
    rw [hP, hPl, opL_written as2 (as1 ++ [a]) (P ++ atW a) f (by simp at hf; omega) (fun x hx => hn x (by simp [hx])) (by rw [List.append_assoc]; exact hp)]
    simp [atsW]
    omega
/-- A segment without the opening sign. -/
theorem rdL_seg {l : List UInt8} : ∀ (seg A B : List UInt8) (f : Nat) (ts : List S31) (tx : List UInt8), l = A ++ (seg ++ B) → (60 : UInt8) ∉ seg → rdL l (f + seg.length) A.length ts tx = rdL l f (A.length + seg.length) ts (tx ++ seg)
  | [], A, B, f, ts, tx, _, _ => by simp
  | c :: seg, A, B, f, ts, tx, hl, h => by
    have hc : l[A.length]? = some c := by rw [hl, List.getElem?_append_right (Nat.le_refl _)]; simp
    have e : f + (c :: seg).length = (f + seg.length) + 1 := by rw [List.length_cons]; omega
    rw [e, rdL, hc]
    dsimp only
    rw [if_neg (fun e => h (by rw [e]; simp))]
    have h1 := rdL_seg (l := l) seg (A ++ [c]) B f ts (tx ++ [c]) (by rw [hl]; simp) (fun h2 => h (by simp [h2]))
    rw [List.length_append, List.length_singleton] at h1
    rw [h1, show A.length + 1 + seg.length = A.length + (c :: seg).length by rw [List.length_cons]; omega]
    simp
/-- What is written. -/
def wrF (name : List UInt8) (as_ : List S36) (text : List UInt8) : List UInt8 := 60 :: (name ++ (atsW as_ ++ 62 :: (signF 3 text ++ (60 :: 47 :: (name ++ [62])))))
theorem clF_written {name : List UInt8} (h : nameB name = true) : clF (60 :: 47 :: (name ++ [62])) = some (name.length, name.length + 3) := by
  have hn := nmF_app (r := [62]) h (fun c hc => by injection hc with hc; subst hc; decide)
  unfold clF
  rw [if_neg (by simp), if_neg (by simp)]
  have d : List.drop 2 (60 :: 47 :: (name ++ [62])) = name ++ [62] := rfl
  rw [d, hn]
  dsimp only
  have d2 : List.drop (2 + name.length) (60 :: 47 :: (name ++ [62])) = [62] := by
    rw [← List.drop_drop, d]; exact List.drop_left' rfl
  rw [d2]
  have hs : spLen ([62] : List UInt8) = 0 := rfl
  rw [hs, Nat.add_zero, d2, if_pos (show ([62] : List UInt8).head? = some 62 from rfl), show 2 + name.length + 1 = name.length + 3 by omega]
theorem read_written {name text : List UInt8} {as_ : List S36} (h : nameB name = true) (hn : ∀ x ∈ as_, nameB x.f0.data.toList = true) (hp : as_.Pairwise (fun x y => x.f0 ≠ y.f0)) :
    readF (wrF name as_ text) = endT [⟨1, st name, ⟨#[]⟩, as_⟩] (signF 3 text) ++ [⟨2, st name, ⟨#[]⟩, []⟩] := by
  obtain ⟨l, hl⟩ : ∃ l, l = wrF name as_ text := ⟨_, rfl⟩
  obtain ⟨R1, hR1⟩ : ∃ R1, R1 = signF 3 text ++ (60 :: 47 :: (name ++ [62])) := ⟨_, rfl⟩
  obtain ⟨k1, k2, k3, k4, k5⟩ := nameB_parts h
  obtain ⟨n0, n1, hnm⟩ : ∃ n0 n1, name = n0 :: n1 := by
    cases name with
    | nil => simp at k1
    | cons x y => exact ⟨x, y, rfl⟩
  have hq0 := ltr_not (show ltr n0 = true by rw [hnm] at k5; exact k5)
  have hl1 : l = 60 :: (name ++ (atsW as_ ++ 62 :: R1)) := by rw [hl, hR1]; rfl
  -- the opening
  have hcl : clF l = none := by
    unfold clF
    rw [hl1, hnm]
    rw [if_neg (by simp), if_pos (by simpa using hq0.2.2.1)]
  have hnx : ∀ c, (atsW as_ ++ 62 :: R1).head? = some c → inN c = false := by
    intro c hc
    cases as_ with
    | nil => simp [atsW] at hc; subst hc; decide
    | cons a as_ => simp [atsW, atW] at hc; subst hc; decide
  have hop : opF l = some (name.length, as_, 1 + name.length + (atsW as_).length + 1) := by
    unfold opF
    have d1 : l.drop 1 = name ++ (atsW as_ ++ 62 :: R1) := by rw [hl1]; rfl
    rw [d1, nmF_app h hnx]
    dsimp only
    have hP : l = (60 :: name) ++ (atsW as_ ++ 62 :: R1) := by rw [hl1]; rfl
    have hlen : as_.length < l.length + 1 := by
      rw [hl1]
      have := atsW_len as_
      simp
      omega
    have hw := opL_written (rest := R1) as_ [] (60 :: name) (l.length + 1) hlen hn (by simpa using hp)
    rw [← hP] at hw
    have e1 : (60 :: name).length = 1 + name.length := by rw [List.length_cons]; omega
    rw [e1] at hw
    rw [hw]
    simp
  have htk : tkF l = some (⟨1, st name, ⟨#[]⟩, as_⟩, 1 + name.length + (atsW as_).length + 1) := by
    unfold tkF
    rw [hcl]
    dsimp only
    rw [hop]
    dsimp only
    have d1 : l.drop 1 = name ++ (atsW as_ ++ 62 :: R1) := by rw [hl1]; rfl
    rw [d1, lows_app h]
  unfold readF
  rw [← hl, rdL]
  have h0 : l[0]? = some 60 := by rw [hl1]; rfl
  rw [h0]
  dsimp only
  rw [if_pos rfl, List.drop_zero, htk]
  dsimp only
  have he0 : endT ([] : List S31) [] = [] := rfl
  rw [he0, List.nil_append, Nat.zero_add]
  -- the text
  obtain ⟨A, hA⟩ : ∃ A, A = 60 :: (name ++ (atsW as_ ++ [62])) := ⟨_, rfl⟩
  have hAl : 1 + name.length + (atsW as_).length + 1 = A.length := by rw [hA]; simp; omega
  have hlA : l = A ++ (signF 3 text ++ (60 :: 47 :: (name ++ [62]))) := by rw [hl1, hA, hR1]; simp
  have hn60 : (60 : UInt8) ∉ signF 3 text := fun h => (sign_bytes (.inl rfl) h).1 rfl
  have hfuel : l.length = (name.length + 3 + A.length) + (signF 3 text).length := by rw [hlA]; simp; omega
  rw [hAl]
  have hsg := rdL_seg (l := l) (signF 3 text) A (60 :: 47 :: (name ++ [62])) (name.length + 3 + A.length) [⟨1, st name, ⟨#[]⟩, as_⟩] [] hlA hn60
  rw [← hfuel, List.nil_append] at hsg
  rw [hsg]
  -- the closing
  obtain ⟨f, hf⟩ : ∃ f, name.length + 3 + A.length = f + 2 := ⟨name.length + 1 + A.length, by omega⟩
  rw [hf, rdL]
  have hB : l = (A ++ signF 3 text) ++ (60 :: 47 :: (name ++ [62])) := by rw [hlA]; simp
  have hBl : A.length + (signF 3 text).length = (A ++ signF 3 text).length := by simp
  have h1 : l[A.length + (signF 3 text).length]? = some 60 := by rw [hBl, hB, List.getElem?_append_right (Nat.le_refl _)]; simp
  have hd : l.drop (A.length + (signF 3 text).length) = 60 :: 47 :: (name ++ [62]) := by rw [hBl, hB]; exact List.drop_left' rfl
  rw [h1]
  dsimp only
  rw [if_pos rfl, hd]
  have htk2 : tkF (60 :: 47 :: (name ++ [62])) = some (⟨2, st name, ⟨#[]⟩, []⟩, name.length + 3) := by
    unfold tkF
    rw [clF_written h]
    dsimp only
    have d1 : List.drop 2 (60 :: 47 :: (name ++ [62])) = name ++ [62] := rfl
    rw [d1, lows_app h]
  rw [htk2]
  dsimp only
  rw [rdL, List.getElem?_eq_none (by rw [hlA]; simp; omega)]
  rfl
end Go.Proofs.Ytkjgnkmnngaioaa.Q

/- 'Same' of a list of tokens and itself, and what 'own' makes of the tokens. -/
namespace Go.Proofs.Ytkjgnkmnngaioaa.Q
open Go.RowKit Go.Proofs.YtkjgnkmnngaioaaW.PrintWords Go.Proofs.YtkjgnkmnngaioaaW.PrintLast Go.Proofs.YtkjgnkmnngaioaaW.PrintMore
set_option linter.unusedVariables false

theorem sa_self {l : List S36} (hl : l.length ≤ 1000000) : ∀ (f i : Nat), i ≤ l.length → l.length - i < f → scrimref04_SameAttrs.l0 f l l (i : Int) = some true
  | 0, i, _, h => absurd h (Nat.not_lt_zero _)
  | f + 1, i, h0, h => by
    unfold scrimref04_SameAttrs.l0
    by_cases hi : i < l.length
    · rw [if_pos (by omega), if_pos (by omega), if_pos (by omega), if_neg (by simp), IntWalk.wrap64_in _ (by omega), show (i : Int) + 1 = ((i + 1 : Nat) : Int) by omega]
      exact sa_self hl f (i + 1) (by omega) (by omega)
    · rw [if_neg (by omega)]
theorem sa_f {l : List S36} (hl : l.length ≤ 1000000) {k : Nat} (hk : l.length < k) : scrimref04_SameAttrs.f k l l = some true := by
  unfold scrimref04_SameAttrs.f
  rw [if_pos rfl]
  exact sa_self hl k 0 (Nat.zero_le _) (by omega)
theorem sm_self {l : List S37} {m : Nat} (hl : l.length ≤ 1000000) (hm : m ≤ 1000000) (ha : ∀ x ∈ l, x.f3.length ≤ m) : ∀ (f i : Nat), i ≤ l.length → l.length - i + m + 1 < f → scrimref04_Same.l0 f l l (i : Int) = some true
  | 0, i, _, h => absurd h (Nat.not_lt_zero _)
  | f + 1, i, h0, h => by
    unfold scrimref04_Same.l0
    by_cases hi : i < l.length
    · have hx : rd_T37 l (i : Int) ∈ l := by
        unfold rd_T37
        rw [Int.toNat_natCast, List.getD_eq_getElem?_getD, List.getElem?_eq_getElem hi]
        exact List.getElem_mem hi
      have h3 := ha _ hx
      rw [if_pos (by omega), if_pos (by omega), if_pos (by omega), if_pos rfl, if_pos rfl, if_pos rfl, sa_f (by omega) (by omega), Option.bind_some, if_pos rfl, IntWalk.wrap64_in _ (by omega), show (i : Int) + 1 = ((i + 1 : Nat) : Int) by omega]
      exact sm_self hl hm ha f (i + 1) (by omega) (by omega)
    · rw [if_neg (by omega)]
theorem sm_f {l : List S37} {m : Nat} (hl : l.length ≤ 1000000) (hm : m ≤ 1000000) (ha : ∀ x ∈ l, x.f3.length ≤ m) {k : Nat} (hk : l.length + m + 1 < k) : scrimref04_Same.f k l l = some true := by
  unfold scrimref04_Same.f
  rw [if_pos rfl]
  exact sm_self hl hm ha k 0 (Nat.zero_le _) (by omega)
def toR (x : S31) : S37 := ⟨x.f0, x.f1, x.f2, x.f3⟩
theorem ow_self {l : List S31} (hl : l.length ≤ 1000000) : ∀ (f i : Nat), i ≤ l.length → l.length - i < f → scrimlaw04_own.l0 f ((l.take i).map toR) l (l.length : Int) (i : Int) = some (l.map toR)
  | 0, i, _, h => absurd h (Nat.not_lt_zero _)
  | f + 1, i, h0, h => by
    unfold scrimlaw04_own.l0
    by_cases hi : i < l.length
    · have ht : (l.take i).map toR ++ [toR (rd_T31 l (i : Int))] = (l.take (i + 1)).map toR := by
        unfold rd_T31
        rw [Int.toNat_natCast, List.getD_eq_getElem?_getD, List.getElem?_eq_getElem hi, List.take_succ_eq_append_getElem hi, List.map_append]
        rfl
      rw [if_pos (by omega), if_pos (by omega), if_pos (by omega), if_pos (by rw [List.length_map, List.length_take]; omega), IntWalk.wrap64_in _ (by omega), show (i : Int) + 1 = ((i + 1 : Nat) : Int) by omega]
      have h2 := ow_self hl f (i + 1) (by omega) (by omega)
      rw [← ht] at h2
      exact h2
    · rw [if_neg (by omega), show i = l.length by omega, List.take_length]
theorem ow_f {l : List S31} (hl : l.length ≤ 1000000) {k : Nat} (hk : l.length < k) : scrimlaw04_own.f k l = some (l.map toR) := ow_self hl k 0 (Nat.zero_le _) (by omega)
end Go.Proofs.Ytkjgnkmnngaioaa.Q

/- TokenWritten walked: an opening that is written is read, with its attributes; so is a closing, and a text between. No condition. -/
namespace Go.Proofs.Ytkjgnkmnngaioaa.Q
open Go.RowKit Go.IntWalk Go.Proofs.Ytkjgnkmnngaioaa.Mem Go.Proofs.YtkjgnkmnngaioaaW.PrintWords Go.Proofs.YtkjgnkmnngaioaaW.PrintLast Go.Proofs.YtkjgnkmnngaioaaW.PrintMore
open Go.Maps (Keyed)
set_option linter.unusedVariables false
set_option linter.unusedSimpArgs false

/-- A look-up of a bool in a map of the call's own, behind a guard that lets it. -/
theorem wpList_lookup_own_boolg {H : Type} {P : Program} (w : World) {ops : Array Oper} {rest : List Oper} {o : Oper} {a : Act} {Q : Exit → Act → World → Prop}
    (hg : Region.wanted o (yielded ops a.tmps) = true) (m x : Operand) (t : TypeId) (hop : o.op = Op.lookup t m x false)
    (k e : TypeId) (K : Keyed P k) (ht : P.underlying t = some (.map k e)) (he : P.underlying e = some .bool) (hz : (zeroValue e).run P w = .ok (.bool false) w) (b n : Nat) (D : DataW H)
    (hm : a.eval m = .map (some b)) (hown : w.ownsMap P k (plainElem P e) b n D) (key : Value) (kl : Lit) (hx : a.eval x = key) (hkey : keyOf P k key = some kl)
    (hK : ∀ c : Bool, D.atKey kl (.lit (.bool false)) = .lit (.bool c) → wpList P ops Q rest (a.put o.dst (.bool c)) w) :
    wpList P ops Q (o :: rest) a w := by
  refine wpList_step fun K' hK' => ?_
  rw [if_pos hg]
  obtain ⟨v, ps, hrun, hv⟩ := hown.lookup K ht hz (plainElem_bool he false) hkey
  obtain ⟨c, rfl, hc⟩ := plainElem_bool_inv he hv
  simp only [Prod.mk.injEq] at hc
  unfold Oper.wp
  simp [execOp, hop, hm, hx, hrun, Result.andThen]
  exact hK' _ _ (hK c hc.1)
theorem keyL_inj {x y : S36} (h : keyL x = keyL y) : x.f0 = y.f0 := by
  unfold keyL at h
  injection h with h
  exact ByteArray.ext (Array.toList_inj.1 h)
theorem seenM_isMap (l : List S36) : Maps.IsMap (seenM l) := by
  obtain ⟨es, h, _⟩ := Maps.tidy_setOf (H := Nat) (.lit (.bool true)) (l.map keyL) (fun y hy => by
    obtain ⟨z, _, rfl⟩ := List.mem_map.1 hy
    exact keyL_key z)
  exact ⟨es, h⟩
theorem seen_at {x : S36} (z : DataW Nat) : ∀ (n : Nat) (l : List S36), l.length = n → (∃ y ∈ l, y.f0 = x.f0) → (seenM l).atKey (keyL x) z = .lit (.bool true)
  | 0, l, h, ⟨y, hy, _⟩ => by rw [List.eq_nil_of_length_eq_zero h] at hy; simp at hy
  | n + 1, l, h, ⟨y, hy, e⟩ => by
    have hne : l ≠ [] := by intro h0; subst h0; simp at h
    obtain ⟨l', u, rfl⟩ : ∃ l' u, l = l' ++ [u] := ⟨_, _, (List.dropLast_concat_getLast hne).symm⟩
    rw [seen_snoc]
    by_cases hu : keyL x = keyL u
    · rw [hu]
      exact Maps.atKey_put_same (seenM_isMap l') (keyL_key u) _ _
    · rw [Maps.atKey_put_other hu]
      refine seen_at z n l' (by simp at h; exact h) ⟨y, ?_, e⟩
      rcases List.mem_append.1 hy with hy | hy
      · exact hy
      · simp only [List.mem_singleton] at hy
        subst hy
        exact absurd (by unfold keyL; rw [e]) hu
theorem atsW_snoc (l : List S36) (x : S36) : atsW (l ++ [x]) = atsW l ++ atW x := by
  unfold atsW
  simp
theorem sg_le {np : Nat} (h : np = 3 ∨ np = 4) (c : UInt8) : (sg np c).length ≤ 16 := by
  rcases h with rfl | rfl
  · rw [sg_len3]; repeat' split
    all_goals omega
  · rw [sg_len4]; repeat' split
    all_goals omega
theorem signF_most {np : Nat} (h : np = 3 ∨ np = 4) : ∀ l : List UInt8, (signF np l).length ≤ 16 * l.length
  | [] => by simp [signF]
  | c :: l => by
    have h1 := signF_most h l
    have h2 := sg_le h c
    unfold signF at h1 ⊢
    rw [List.flatMap_cons, List.length_append, List.length_cons]
    omega
theorem sign_f (x : ByteArray) (q : Bool) (h : x.size ≤ 400) : ∃ T, T = st (signF (sgn q) x.data.toList) ∧ token_Sign.f x q = some T ∧ T.size ≤ 6400 ∧ T.size ≤ 16 * x.size := by
  have h1 : (signF (sgn q) x.data.toList).length ≤ 16 * x.size := signF_most (by cases q; exact .inl rfl; exact .inr rfl) _
  have h2 : (st (signF (sgn q) x.data.toList)).size = (signF (sgn q) x.data.toList).length := by show (signF (sgn q) x.data.toList).toArray.size = _; simp
  refine ⟨_, rfl, ?_, by omega, by omega⟩
  unfold token_Sign.f
  rw [if_pos (by omega)]
/-- What stands in cells alone, in whatever world that has them. -/
theorem F_args {w : World} {A : Option Addr} {l : List S36} (h : Kd.C k36 w A l.length l) : Kd.F k36 w (fun k => k < w.heap.size) A l.length l := fun W' hW => by
  have hs : w.heap.size ≤ W'.heap.size := by
    by_cases h0 : w.heap.size = 0
    · omega
    · have := heap_lt (hW (w.heap.size - 1) (by omega) (by omega)) (by omega)
      omega
  exact Kd.C_below (w1 := { w with heap := W'.heap }) h ⟨rfl, rfl, rfl, hs, fun k hk => hW k hk hk⟩
/-- What is wanted, from cells. -/
theorem FK_row {W : World} {ok : Nat → Prop} (x : S37) {A : Option Addr} {c : Nat} (hl : x.f3.length ≤ c) (hf : Kd.F k36 W ok A x.f3.length x.f3) : Kd.FK k37 W ok x [.int .i64 x.f0, .string x.f1, .string x.f2, .slice A x.f3.length c] := k37_mkF W ok x hl hf
def wantR (a0 : ByteArray) (l1 : List S36) (a2 : ByteArray) : List S37 := if a2 = ⟨#[]⟩ then [⟨1, a0, ⟨#[]⟩, l1⟩, ⟨2, a0, ⟨#[]⟩, []⟩] else [⟨1, a0, ⟨#[]⟩, l1⟩, ⟨3, ⟨#[]⟩, a2, []⟩, ⟨2, a0, ⟨#[]⟩, []⟩]
theorem st_of (s : ByteArray) : st s.data.toList = s := ByteArray.ext (by simp [st])
theorem signF_nil {np : Nat} (h : np = 3 ∨ np = 4) {l : List UInt8} (e : signF np l = []) : l = [] := by
  have h1 := signF_ge (np := np) (by omega) l
  rw [e] at h1
  exact List.eq_nil_of_length_eq_zero (by simpa using h1)
theorem read_want {a0 a2 S : ByteArray} {l1 : List S36} (h : nameB a0.data.toList = true) (hn : ∀ x ∈ l1, nameB x.f0.data.toList = true) (hp : l1.Pairwise (fun x y => x.f0 ≠ y.f0)) (hS : S.data.toList = wrF a0.data.toList l1 a2.data.toList) :
    (readF S.data.toList).map toR = wantR a0 l1 a2 := by
  rw [hS, read_written h hn hp, st_of]
  unfold endT wantR
  by_cases h2 : a2 = ⟨#[]⟩
  · subst h2
    rw [if_pos rfl, if_pos (by rfl)]
    rfl
  · rw [if_neg h2, if_neg (fun e => h2 (empty_of (signF_nil (.inl rfl) e))), tellF_st, tellL_sign (.inl rfl), st_of]
    rfl
theorem wantR_len (a0 : ByteArray) (l1 : List S36) (a2 : ByteArray) : (wantR a0 l1 a2).length ≤ 3 := by
  unfold wantR
  split <;> simp
theorem wantR_same {a0 : ByteArray} {l1 : List S36} {a2 : ByteArray} (h : l1.length ≤ 10) : scrimref04_Same.f 20 (wantR a0 l1 a2) (wantR a0 l1 a2) = some true := by
  have h3 := wantR_len a0 l1 a2
  refine sm_f (m := 10) (by omega) (by omega) ?_ (by omega)
  intro x hx
  unfold wantR at hx
  split at hx
  · simp only [List.mem_cons, List.not_mem_nil, or_false] at hx
    rcases hx with rfl | rfl
    · exact h
    · simp
  · simp only [List.mem_cons, List.not_mem_nil, or_false] at hx
    rcases hx with rfl | rfl | rfl
    · exact h
    · simp
    · simp
theorem reps_one {W : World} {ok : Nat → Prop} {x : S37} {cs : List Value} (h : Kd.FK k37 W ok x cs) : Reps (Kd.FK k37 W ok) k37.sz [x] cs := by
  have hl := (Kd.FK_raw h).2.1
  refine ⟨by simpa using hl, fun j p hj => ?_⟩
  rcases j with _ | j
  · simp only [List.getElem?_cons_zero, Option.some.injEq] at hj
    subst hj
    rw [Nat.zero_mul, List.drop_zero, ← hl, List.take_length]
    exact h
  · simp at hj
section
variable {ops : Array Oper} {rest : List Oper} {o : Oper} {a : Act} {Q : Exit → Act → World → Prop}
/-- append(want, T{..}), behind a guard or none. -/
theorem app_want {w0 W : World} (base : Nat) (hw : Region.wanted o (yielded ops a.tmps) = true) (s x : Operand)
    (ho : o.op = .call { callee := .builtin .append, args := #[s, x], argTypes := #[38, 38] })
    (v : Value) (xs : List S37) (p : S37) (cs : List Value) (ok okp : Nat → Prop) (hs : a.eval s = v) (hx : a.eval x = .slice (some ⟨W.heap.size, 0, none⟩) 1 1) (hp : Kd.FK k37 W okp p cs) (hokp : ∀ k, okp k → ok k ∧ some k ≠ v.ownBlock) (hfresh : ∀ k, W.heap.size ≤ k → ok k)
    (HO : Kd.N k37 37 W base ok v xs) (HB : Below base w0 W) (hbase : base ≤ W.heap.size) (hl : (xs.length + 1) * 64 ≤ 140737488355328)
    (h : ∀ v1 w1, Kd.N k37 37 w1 base ok v1 (xs ++ [p]) → Below base w0 w1 → W.grownBy w1 v.ownBlock → (v1.ownBlock = v.ownBlock ∨ ∃ b, v1.ownBlock = some b ∧ W.heap.size ≤ b) → wpList Try.prog ops Q rest (a.put o.dst v1) w1) :
    wpList Try.prog ops Q (o :: rest) a (W.alloc (.cells cs.toArray 37)) :=
  wpList_step fun K hK => Kd.N_append_step k37 base hw s x 38 37 (.agg #[(.int .i64 0), (.string ⟨#[]⟩), (.string ⟨#[]⟩), (.slice none 0 0)]) 64 ho Try.underlying38 info37 rfl (by decide) (by omega) v xs p cs ok okp hs hx hp hokp hfresh HO HB hbase hl (fun v1 w1 h1 h2 h3 h4 => hK _ _ (h v1 w1 h1 h2 h3 h4))
end
/-- Worlds in a region that draws: before the call as drawn, behind it below. -/
def TwC (w1 : World) : Nat → World → Prop
  | 0, y => y = w1
  | _, y => Below w1.heap.size w1 y
set_option maxRecDepth 100000 in
set_option maxHeartbeats 16000000 in
theorem written_walk (a0 : ByteArray) (A1 : Option Addr) (c1 : Nat) (l1 : List S36) (a2 : ByteArray) (w : World) (hr1 : Kd.C k36 w A1 l1.length l1) (hc1 : l1.length ≤ c1)
    (g0 : a0.size ≤ maxLen) (g1 : (∀ y ∈ l1, good36 y) ∧ l1.length ≤ maxLen) (g2 : a2.size ≤ maxLen) :
    Calls Try.prog 5 #[.string a0, .slice A1 l1.length c1, .string a2] w fun e w' => e = .returned (.bool true) ∧ Below w.heap.size w w' := by
  have hn0 : token_Name.f a0 = some (nameB a0.data.toList) := by unfold token_Name.f; exact if_pos g0
  have HN0 := Lib.hid hn0
  have HR1 := Lib.hid hr1
  have HG1 := Lib.hid g1.1
  have hlen1 : l1.length ≤ 9223372036854775807 := g1.2
  clear hn0 hr1 g1
  by_cases h4 : 400 < a2.size
  · have v1 : decide ((400 : Int) < (a2.size : Int)) = true := by simp; omega
    go_enter Try.func5, Try.ntmps5
    go_wp2_with (go_at_call 6; refine (awake_calls _).mono ?_; rintro e w0 ⟨rfl, hb⟩; have HB0 := Lib.hid hb; clear hb)
    go_ret
    exact ⟨rfl, HB0.out⟩
  have v1 : decide ((400 : Int) < (a2.size : Int)) = false := by simp; omega
  by_cases hn : nameB a0.data.toList = false
  · rw [hn] at HN0
    go_enter Try.func5, Try.ntmps5
    go_wp2_with (first | (go_at_call 6; refine (awake_calls _).mono ?_; rintro e w0 ⟨rfl, hb⟩; have HB0 := Lib.hid hb; clear hb) | (go_at_call 10; refine (token_Name.calls a0 false _ HN0.out).mono ?_; rintro e w1 ⟨rfl, hb⟩; have HB1 := Lib.hid (HB0.out.trans (hb.mono HB0.out.size)); clear hb))
    go_ret
    exact ⟨rfl, HB1.out⟩
  rw [Bool.not_eq_false] at hn
  rw [hn] at HN0
  have HNA := Lib.hid hn
  clear hn
  by_cases h10 : 10 < l1.length
  · have v2 : decide ((10 : Int) < (l1.length : Int)) = true := by simp; omega
    go_enter Try.func5, Try.ntmps5
    go_wp2_with (first | (go_at_call 6; refine (awake_calls _).mono ?_; rintro e w0 ⟨rfl, hb⟩; have HB0 := Lib.hid hb; clear hb) | (go_at_call 10; refine (token_Name.calls a0 true _ HN0.out).mono ?_; rintro e w1 ⟨rfl, hb⟩; have HB1 := Lib.hid (HB0.out.trans (hb.mono HB0.out.size)); clear hb))
    go_ret
    exact ⟨rfl, HB1.out⟩
  have v2 : decide ((10 : Int) < (l1.length : Int)) = false := by simp; omega
  have hmm := @run_makeMap Try.prog
  have hz20 := (name_small HNA.out).1
  have u0 : ¬ 9223372036854775807 < 1 + a0.size := by omega
  go_enter Try.func5, Try.ntmps5
  go_wp2_with (first | (go_at_call 6; refine (awake_calls _).mono ?_; rintro e w0 ⟨rfl, hb⟩; have HB0 := Lib.hid hb; clear hb) | (go_at_call 10; refine (token_Name.calls a0 true _ HN0.out).mono ?_; rintro e w1 ⟨rfl, hb⟩; have HB1 := Lib.hid (HB0.out.trans (hb.mono HB0.out.size)); clear hb))
  have hz0 : ∀ W : World, (zeroValue 4).run Try.prog W = .ok (.bool false) W := fun W => by kernel_rfl
  have HZB := Lib.hid hz0
  clear hz0
  have HM0 := Lib.hid (World.ownsMap_made (H := Nat) w1 Try.prog 9 (plainElem Try.prog 4))
  have HC1 := Lib.hid (Kd.C_below HR1.out HB1.out)
  go_loopw [7, 34] (fun sv iv wr => ∃ (j : Nat) (S : ByteArray), j ≤ l1.length ∧ sv = .string S ∧ iv = .int .i64 (j : Int) ∧ S.size ≤ 100 + 1000 * j ∧ Hid (S.data.toList = 60 :: (a0.data.toList ++ atsW (l1.take j))) ∧ Hid (∀ x ∈ l1.take j, nameB x.f0.data.toList = true ∧ x.f1.size ≤ 50) ∧ Hid ((l1.take j).Pairwise (fun x y => x.f0 ≠ y.f0)) ∧ w1.heap.size < wr.heap.size ∧ Hid (Below w1.heap.size w1 wr) ∧ Hid (wr.ownsMap Try.prog 9 (plainElem Try.prog 4) w1.heap.size j (seenM (l1.take j)))) (fun sv iv _ => l1.length - (intOf iv).toNat)
  case atStart => exact ⟨0, _, Nat.zero_le _, rfl, rfl, by rw [ByteArray.size_append]; show 1 + a0.size ≤ _; omega, Lib.hid (by simp [atsW]), Lib.hid (by simp), Lib.hid (by simp), by simp, Lib.hid ((Below.refl _ _).alloc (Nat.le_refl _) _), HM0⟩
  case round =>
    clear HM0
    obtain ⟨j, S, hj, rfl, rfl, hS, HSD, HNM, HPW, hlt0, HBJ, HMJ⟩ := hrel
    by_cases hjl : j < l1.length
    · have hjx : l1[j]? = some (rd_T36 l1 (j : Int)) := by unfold rd_T36; rw [Int.toNat_natCast, List.getD_eq_getElem?_getD, List.getElem?_eq_getElem hjl]; rfl
      obtain ⟨ad3, rfl, q0, q1⟩ := at_T36 (Kd.C_below HC1.out HBJ.out) (j : Int) (by omega) (by omega)
      simp only [Int.toNat_natCast] at q0 q1
      have HTK := Lib.hid (show l1.take (j + 1) = l1.take j ++ [rd_T36 l1 (j : Int)] from by
        rw [List.getElem?_eq_getElem hjl] at hjx
        injection hjx with hjx
        rw [List.take_succ_eq_append_getElem hjl, hjx])
      have hgx := HG1.out _ (List.mem_of_getElem? hjx)
      have HJM := Lib.hid (show j < maxLen from by unfold maxLen; omega)
      have u1 : (j : Int) < (l1.length : Int) := by omega
      have u2 : (0 : Int) ≤ (j : Int) := by omega
      generalize rd_T36 l1 (j : Int) = x at *
      obtain ⟨x0, x1⟩ := x
      dsimp only at q0 q1
      have hx0 : x0.size ≤ 9223372036854775807 := hgx.1
      have HNX := Lib.hid (show token_Name.f x0 = some (nameB x0.data.toList) from by unfold token_Name.f; exact if_pos hx0)
      have HKEY := Lib.hid (show keyOf Try.prog 9 (.string x0) = some (keyL ⟨x0, x1⟩) from WideMaps.keyOf_string_mk Try.underlying9 hx0)
      have HMX := Lib.hid (HMJ.out.alloc (.cells #[.string x0, .string x1] 36))
      clear hjx hgx
      cases hnx : nameB x0.data.toList with
      | false =>
        rw [hnx] at HNX
        as_aux_lemma =>
          go_wp2_with (go_at_call 10; refine (token_Name.calls x0 false _ HNX.out).mono ?_; rintro e wx ⟨rfl, hb⟩; have HBX := Lib.hid ((HBJ.out.alloc HBJ.out.size _).trans (hb.mono (by have := HBJ.out.size; simp; omega))); clear hb)
          go_ret
          exact ⟨rfl, HB1.out.trans (HBX.out.mono HB1.out.size)⟩
      | true =>
        rw [hnx] at HNX
        have ACT : True := trivial
        by_cases hdup : ∃ y ∈ l1.take j, y.f0 = x0
        · have HAT := Lib.hid (show (seenM (l1.take j)).atKey (keyL ⟨x0, x1⟩) (.lit (.bool false)) = .lit (.bool true) from seen_at _ _ _ rfl hdup)
          clear hdup
          as_aux_lemma =>
            go_wp2_with (first | (go_at_call 10; refine (token_Name.calls x0 true _ HNX.out).mono ?_; rintro e wx ⟨rfl, hb⟩; have HBX := Lib.hid ((HBJ.out.alloc HBJ.out.size _).trans (hb.mono (by have := HBJ.out.size; simp; omega))); have HMX2 := Lib.hid (HMX.out.kept (grown_of_below hb none) (by simp)); have HTX := Lib.hid ((Blk.alloc wr #[.string x0, .string x1] 36).below hb (by simp)); have k0 : wx.cell? ⟨wr.heap.size, 0, none⟩ = some (.string x0) := HTX.out.cell 0; have k1 : wx.cell? ⟨wr.heap.size, 1, none⟩ = some (.string x1) := HTX.out.cell 1; clear hb) | (at_lookup; refine wpList_lookup_own_boolg _ rfl _ _ 34 rfl 9 4 (Maps.string_keyed Try.underlying9) Try.underlying34 Try.underlying4 (HZB.out _) w1.heap.size j (seenM (l1.take j)) rfl HMX2.out _ (keyL ⟨x0, x1⟩) rfl HKEY.out ?_; intro cc hcc; have hcf : cc = true := (by rw [HAT.out] at hcc; injection hcc with hcc; injection hcc with hcc; exact hcc.symm); subst hcf; clear hcc))
            go_ret
            exact ⟨rfl, HB1.out.trans (HBX.out.mono HB1.out.size)⟩
        have HNOT := Lib.hid (show Maps.has (seenM (l1.take j)) (keyL ⟨x0, x1⟩) = false from seen_not (fun y hy e => hdup ⟨y, hy, e⟩))
        have HDUP := Lib.hid hdup
        clear hdup
        by_cases h50 : 50 < x1.size
        · have v5 : decide ((50 : Int) < (x1.size : Int)) = true := by simp; omega
          as_aux_lemma =>
            go_wp2_with (first | (go_at_call 10; refine (token_Name.calls x0 true _ HNX.out).mono ?_; rintro e wx ⟨rfl, hb⟩; have HBX := Lib.hid ((HBJ.out.alloc HBJ.out.size _).trans (hb.mono (by have := HBJ.out.size; simp; omega))); have HMX2 := Lib.hid (HMX.out.kept (grown_of_below hb none) (by simp)); have HTX := Lib.hid ((Blk.alloc wr #[.string x0, .string x1] 36).below hb (by simp)); have k0 : wx.cell? ⟨wr.heap.size, 0, none⟩ = some (.string x0) := HTX.out.cell 0; have k1 : wx.cell? ⟨wr.heap.size, 1, none⟩ = some (.string x1) := HTX.out.cell 1; clear hb) | (at_lookup; refine wpList_lookup_own_boolg _ rfl _ _ 34 rfl 9 4 (Maps.string_keyed Try.underlying9) Try.underlying34 Try.underlying4 (HZB.out _) w1.heap.size j (seenM (l1.take j)) rfl HMX2.out _ (keyL ⟨x0, x1⟩) rfl HKEY.out ?_; intro cc hcc; have hcf : cc = false := (by rw [Maps.atKey_of_not_has HNOT.out] at hcc; injection hcc with hcc; injection hcc with hcc; exact hcc.symm); subst hcf; clear hcc))
            go_ret
            exact ⟨rfl, HB1.out.trans (HBX.out.mono HB1.out.size)⟩
        have v5 : decide ((50 : Int) < (x1.size : Int)) = false := by simp; omega
        obtain ⟨T, hT, hsf, ht1, ht2⟩ := sign_f x1 true (by omega)
        have HTD := Lib.hid hT
        have HSF := Lib.hid hsf
        have hx20 := (name_small hnx).1
        clear hT hsf
        as_aux_lemma =>
          go_upto_region 13 with (first | (go_at_call 10; refine (token_Name.calls x0 true _ HNX.out).mono ?_; rintro e wx ⟨rfl, hb⟩; have HBX := Lib.hid ((HBJ.out.alloc HBJ.out.size _).trans (hb.mono (by have := HBJ.out.size; simp; omega))); have HMX2 := Lib.hid (HMX.out.kept (grown_of_below hb none) (by simp)); have HTX := Lib.hid ((Blk.alloc wr #[.string x0, .string x1] 36).below hb (by simp)); have k0 : wx.cell? ⟨wr.heap.size, 0, none⟩ = some (.string x0) := HTX.out.cell 0; have k1 : wx.cell? ⟨wr.heap.size, 1, none⟩ = some (.string x1) := HTX.out.cell 1; clear hb) | (at_lookup; refine wpList_lookup_own_boolg _ rfl _ _ 34 rfl 9 4 (Maps.string_keyed Try.underlying9) Try.underlying34 Try.underlying4 (HZB.out _) w1.heap.size j (seenM (l1.take j)) rfl HMX2.out _ (keyL ⟨x0, x1⟩) rfl HKEY.out ?_; intro cc hcc; have hcf : cc = false := (by rw [Maps.atKey_of_not_has HNOT.out] at hcc; injection hcc with hcc; injection hcc with hcc; exact hcc.symm); subst hcf; clear hcc) | (at_mapUpdate; refine wpList_mapUpdate_own _ rfl _ _ _ 34 rfl 9 4 (Maps.string_keyed Try.underlying9) Try.underlying34 (plainElem Try.prog 4) w1.heap.size j (seenM (l1.take j)) rfl HMX2.out HJM.out _ _ (keyL ⟨x0, x1⟩) rfl rfl HKEY.out (.lit (.bool true)) [] (plainElem_bool Try.underlying4 true) ?_; intro w5 hown5 hg5; have HM5 := Lib.hid hown5; have HG5 := Lib.hid hg5; clear hown5 hg5))
          have HT5 := Lib.hid (HTX.out.of_block (HG5.out.block wr.heap.size HTX.out.lt (fun e => by injection e with e; omega)))
          have HB5 := Lib.hid (show Below w1.heap.size w1 w5 from HBX.out.trans ⟨HG5.out.os, HG5.out.tape, HG5.out.output, HG5.out.size, fun k hk => HG5.out.block k (Nat.lt_of_lt_of_le hk HBX.out.size) (fun e => by injection e with e; omega)⟩)
          have hlt5 : w1.heap.size < w5.heap.size := by have := HT5.out.lt; omega
          clear k0 k1 HTX HMX2 HMX HMJ HG5
          have hC0 : TwC w5.drew 0 w5.drew := rfl
          have ne : Nonempty (Mix.Wd (TwC w5.drew) 0) := ⟨⟨w5.drew, 0, Nat.le_refl _, hC0⟩⟩
          have HTA : ∀ x : Mix.Wd (TwC w5.drew) 0, Blk x.1 wr.heap.size #[.string x0, .string x1] 36 := fun x => by
            obtain ⟨y, i, _, h3⟩ := x
            rcases i with _ | i
            · have h3' : y = w5.drew := h3
              subst h3'
              exact HT5.out.drew
            · exact HT5.out.drew.below (show Below w5.drew.heap.size w5.drew y from h3) HT5.out.drew.lt
          have kc0 : ∀ x : Mix.Wd (TwC w5.drew) 0, x.1.cell? ⟨wr.heap.size, 0, none⟩ = some (.string x0) := fun x => (HTA x).cell 0
          have kc1 : ∀ x : Mix.Wd (TwC w5.drew) 0, x.1.cell? ⟨wr.heap.size, 1, none⟩ = some (.string x1) := fun x => (HTA x).cell 1
          have z1 : ¬ 9223372036854775807 < 1 + x0.size := by omega
          have z2 : ¬ 9223372036854775807 < 1 + x0.size + 2 := by omega
          have z3 : ¬ 9223372036854775807 < 1 + x0.size + 2 + T.size := by omega
          have z4 : ¬ 9223372036854775807 < 1 + x0.size + 2 + T.size + 1 := by omega
          have z5 : ¬ 9223372036854775807 < S.size + (1 + x0.size + 2 + T.size + 1) := by omega
          refine Mix.wp_region_mix (C := TwC w5.drew) [7] (by kernel_rfl) (by kernel_rfl) hC0 ?_
          iterate 7 (refine Mix.mix_still (by decide) (fun K hK => ?_); go_simp; refine hK _ ?_; clear hK K)
          refine Mix.mix_turn (by decide) (fun K hK => ?_)
          go_simp
          refine ⟨_, fun y hy => (token_Sign.calls x1 true T y HSF.out).mono fun e w' h => ⟨h.1, by have hy' : y = w5.drew := hy; rw [hy'] at h; exact h.2⟩, hK _ ?_⟩
          clear hK K
          iterate 4 (refine Mix.mix_still (by decide) (fun K hK => ?_); go_simp; refine hK _ ?_; clear hK K)
          refine Mix.mix_nil ?_
          intro w6 hw6
          have HW6 := Lib.hid (show Below w5.drew.heap.size w5.drew w6 from hw6)
          have hlt6 : w1.heap.size < w6.heap.size := Nat.lt_of_lt_of_le hlt5 HW6.out.size
          have HM6 := Lib.hid (show w6.ownsMap Try.prog 9 (plainElem Try.prog 4) w1.heap.size (j + 1) _ from (show w5.drew.ownsMap Try.prog 9 (plainElem Try.prog 4) w1.heap.size (j + 1) _ from HM5.out).kept (grown_of_below HW6.out none) (by simp))
          have HB6 := Lib.hid (show Below w1.heap.size w1 w6 from (below_drewN HB5.out 1).trans (HW6.out.mono (Nat.le_of_lt hlt5)))
          clear hw6 ne hC0 HTA kc0 kc1
          show Exit.inBlock _ _ _ _ w6
          go_wp2_with fail
          go_roundw
          case rel =>
            refine ⟨j + 1, _, by omega, rfl, by first | go_num | rfl, ?_, Lib.hid ?_, Lib.hid ?_, Lib.hid ?_, hlt6, HB6, Lib.hid ?_⟩
            · simp only [ByteArray.size_append]
              show S.size + (1 + x0.size + 2 + T.size + 1) ≤ _
              omega
            · rw [HTK.out, atsW_snoc]
              simp only [ByteArray.data_append, Array.toList_append]
              rw [HSD.out, HTD.out]
              simp [atW, sgn, st]
            · rw [HTK.out]
              intro y hy
              rcases List.mem_append.1 hy with hy | hy
              · exact HNM.out y hy
              · simp only [List.mem_singleton] at hy
                subst hy
                exact ⟨hnx, by show x1.size ≤ 50; omega⟩
            · rw [HTK.out, List.pairwise_append]
              refine ⟨HPW.out, List.pairwise_singleton _ _, fun y hy z hz e => HDUP.out ⟨y, hy, ?_⟩⟩
              simp only [List.mem_singleton] at hz
              subst hz
              exact e
            · rw [HTK.out, seen_snoc]
              exact HM6.out
          case measure => simp [intOf]; omega
    · have u2 : ¬ (j : Int) < (l1.length : Int) := by omega
      have hje : j = l1.length := by omega
      subst hje
      rw [List.take_length] at HSD HNM HPW
      clear HMJ hj u2
      have u2 : ¬ (l1.length : Int) < (l1.length : Int) := by omega
      obtain ⟨T2, hT, hsf, ht1, ht2⟩ := sign_f a2 false (by omega)
      have HTD := Lib.hid hT
      have HSF := Lib.hid hsf
      clear hT hsf
      have z1 : ¬ 9223372036854775807 < 1 + T2.size := by omega
      have z2 : ¬ 9223372036854775807 < 1 + T2.size + 2 := by omega
      have z3 : ¬ 9223372036854775807 < 1 + T2.size + 2 + a0.size := by omega
      have z4 : ¬ 9223372036854775807 < 1 + T2.size + 2 + a0.size + 1 := by omega
      have z5 : ¬ 9223372036854775807 < S.size + (1 + T2.size + 2 + a0.size + 1) := by omega
      as_aux_lemma =>
        go_upto_region 18 with (go_at_call 7; refine (token_Sign.calls a2 false T2 _ HSF.out).mono ?_; rintro e w2 ⟨rfl, hb⟩; have HB2 := Lib.hid (HBJ.out.trans (hb.mono HBJ.out.size)); clear hb)
        · go_ret
          exact ⟨rfl, HB1.out.trans (HB2.out.mono HB1.out.size)⟩
        have hS2 : (S ++ (({ data := #[62] } : ByteArray) ++ T2 ++ { data := #[60, 47] } ++ a0 ++ { data := #[62] })).data.toList = wrF a0.data.toList l1 a2.data.toList := by
          simp only [ByteArray.data_append, Array.toList_append]
          rw [HSD.out, HTD.out]
          simp [wrF, sgn, st]
        have hS3 : (S ++ (({ data := #[62] } : ByteArray) ++ T2 ++ { data := #[60, 47] } ++ a0 ++ { data := #[62] })).size ≤ 4000 := by
          simp only [ByteArray.size_append]
          show S.size + (1 + T2.size + 2 + a0.size + 1) ≤ 4000
          omega
        generalize S ++ (({ data := #[62] } : ByteArray) ++ T2 ++ { data := #[60, 47] } ++ a0 ++ { data := #[62] }) = S2 at hS2 hS3 ⊢
        have hwant := read_want HNA.out (fun x hx => (HNM.out x hx).1) HPW.out hS2
        obtain ⟨TS, hTS⟩ : ∃ TS, TS = readF S2.data.toList := ⟨_, rfl⟩
        rw [← hTS] at hwant
        have hrd : token_Read.f S2 = some (TS, 0) := by
          unfold token_Read.f
          rw [if_pos (by omega), if_pos hS3, hTS]
        have hlen : TS.length ≤ 3 := by
          have h1 := congrArg List.length hwant
          rw [List.length_map] at h1
          have h2 := wantR_len a0 l1 a2
          omega
        have HOW := Lib.hid (show scrimlaw04_own.f 10 TS = some (wantR a0 l1 a2) from by rw [ow_f (by omega) (by omega), hwant])
        have HRD := Lib.hid hrd
        have HSM := Lib.hid (wantR_same (a0 := a0) (a2 := a2) (l1 := l1) (by omega))
        clear hS2 hS3 hwant hTS hrd hlen HSD HTD HSF HNM HPW
        by_cases ha2 : a2 = ⟨#[]⟩
        · have HWE := Lib.hid (show wantR a0 l1 a2 = [⟨1, a0, ⟨#[]⟩, l1⟩] ++ [⟨2, a0, ⟨#[]⟩, []⟩] from by unfold wantR; rw [if_pos ha2]; rfl)
          have e1 : a2.toList.isEmpty = true := by rw [ha2, ByteArray.toList_eq]; rfl
          clear ha2
          go_wp2_with (first | (go_at_call 8; refine (token_Read.calls S2 TS 0 _ HRD.out).mono ?_; rintro e w3 ⟨v3, rfl, hs3, hb3⟩; have HB3 := Lib.hid (HB2.out.trans (hb3.mono HB2.out.size)); obtain ⟨A3, c3, rfl⟩ := Kd.S_slice hs3; have HV3 := Lib.hid (show Kd.V k31 31 w3 w3.heap.size (fun k => k < w3.heap.size) (.slice A3 TS.length c3) TS from Kd.V_mono (Kd.V_bound (Kd.S_V hs3)) (fun _ hk => hk.2)); have HBW := Lib.hid (show Below w.heap.size w w3 from HB1.out.trans (HB3.out.mono HB1.out.size)); have HF3 := Lib.hid (Kd.F_below (F_args HR1.out) HBW.out); clear hs3 hb3) | ((with_reducible refine gate_dst (N := 89) rfl ?_); refine Kd.N_lit k37 (w0 := w3) w3.heap.size 37 rfl (N' := 89) rfl (xs := [⟨1, a0, ⟨#[]⟩, l1⟩]) (inner := [.int .i64 1, .string a0, .string ⟨#[]⟩, .slice A1 l1.length c1]) (ok := fun k => k < w.heap.size ∨ w3.heap.size ≤ k) (okp := fun k => k < w.heap.size) (by first | rfl | (go_simp; done) | (go_simp; rfl)) (reps_one (FK_row ⟨1, a0, ⟨#[]⟩, l1⟩ hc1 HF3.out)) (fun _ hk => .inl hk) (.inr (Nat.le_refl _)) (Below.refl _ _) (Nat.le_refl _) (by simp) ?_; intro v4 w4 hn4 hb4 hg4 hat4; have HN4 := Lib.hid hn4; have HB34 := Lib.hid hb4; clear hn4 hb4 hg4 hat4) | (go_at_call 12; refine (scrimlaw04_own.calls 10 (fun k => k < w3.heap.size) A3 c3 TS (wantR a0 l1 a2) _ (Kd.V_map HV3.out (fun _ hf => Kd.F_below hf (HB34.out.mono (Nat.le_of_eq rfl)))) HOW.out).mono ?_; rintro e w6 ⟨v6, rfl, hn6, hb6⟩; have HN6 := Lib.hid hn6; have HB36 := Lib.hid (show Below w3.heap.size w3 w6 from HB34.out.trans (hb6.mono HB34.out.size)); have HNV := Lib.hid (Kd.N_below HN4.out hb6); clear hn6 hb6) | ((with_reducible refine gate_builtin (b := .append) (xs := #[.tmp 102, .tmp 105]) rfl ?_); at_builtin; refine app_want (w0 := w3) w3.heap.size (by first | rfl | (simp [Region.wanted]; done)) (.tmp 102) (.tmp 105) rfl v4 [⟨1, a0, ⟨#[]⟩, l1⟩] ⟨2, a0, ⟨#[]⟩, []⟩ [.int .i64 2, .string a0, .string ⟨#[]⟩, .slice none 0 0] (fun k => k < w.heap.size ∨ w3.heap.size ≤ k) (fun _ => False) rfl rfl (FK_row ⟨2, a0, ⟨#[]⟩, []⟩ (A := none) (c := 0) (Nat.le_refl _) (Kd.F_nil _ _ _)) (fun _ hk => hk.elim) (fun k hk => .inr (Nat.le_trans HB36.out.size hk)) HNV.out HB36.out HB36.out.size (by simp) ?_; intro v7 w7 hn7 hb7 hg7 hat7; have HN7 := Lib.hid hn7; have HB37 := Lib.hid hb7; have HG7 := Lib.hid hg7; clear hn7 hb7 hg7 hat7))
          have HO7 := Kd.N_grown HN6.out HG7.out (fun k hk e => by
            have h1 := Kd.N_base HN4.out k e.symm
            have h2 := Kd.N_lt HN4.out k e.symm
            rcases hk with hk | hk <;> omega)
          obtain ⟨A6, c6, rfl, hc6, hr6⟩ := Kd.N_reads HO7
          obtain ⟨A7, c7, rfl, hc7, hr7⟩ := Kd.N_reads HN7.out
          rw [← HWE.out] at hc7 hr7 ⊢
          refine (scrimref04_Same.calls 20 A6 c6 (wantR a0 l1 a2) A7 c7 (wantR a0 l1 a2) true _ hr6 hc6 hr7 hc7 HSM.out).mono ?_
          rintro e w8 ⟨rfl, hb8⟩
          have HB8 := Lib.hid (show Below w.heap.size w w8 from HBW.out.trans ((HB37.out.trans (hb8.mono HB37.out.size)).mono HBW.out.size))
          clear HO7 hc6 hr6 hc7 hr7 hb8
          go_wp2_with fail
          go_ret
          exact ⟨rfl, HB8.out⟩
        · have HWE := Lib.hid (show wantR a0 l1 a2 = ([⟨1, a0, ⟨#[]⟩, l1⟩] ++ [⟨3, ⟨#[]⟩, a2, []⟩]) ++ [⟨2, a0, ⟨#[]⟩, []⟩] from by unfold wantR; rw [if_neg ha2]; rfl)
          have e2 : a2.toList ≠ [] := by rw [ByteArray.toList_eq]; exact fun e => ha2 (empty_of e)
          have e3 : a2.toList.isEmpty = false := by simp [e2]
          clear ha2
          go_wp2_with (first | (go_at_call 8; refine (token_Read.calls S2 TS 0 _ HRD.out).mono ?_; rintro e w3 ⟨v3, rfl, hs3, hb3⟩; have HB3 := Lib.hid (HB2.out.trans (hb3.mono HB2.out.size)); obtain ⟨A3, c3, rfl⟩ := Kd.S_slice hs3; have HV3 := Lib.hid (show Kd.V k31 31 w3 w3.heap.size (fun k => k < w3.heap.size) (.slice A3 TS.length c3) TS from Kd.V_mono (Kd.V_bound (Kd.S_V hs3)) (fun _ hk => hk.2)); have HBW := Lib.hid (show Below w.heap.size w w3 from HB1.out.trans (HB3.out.mono HB1.out.size)); have HF3 := Lib.hid (Kd.F_below (F_args HR1.out) HBW.out); clear hs3 hb3) | ((with_reducible refine gate_dst (N := 89) rfl ?_); refine Kd.N_lit k37 (w0 := w3) w3.heap.size 37 rfl (N' := 89) rfl (xs := [⟨1, a0, ⟨#[]⟩, l1⟩]) (inner := [.int .i64 1, .string a0, .string ⟨#[]⟩, .slice A1 l1.length c1]) (ok := fun k => k < w.heap.size ∨ w3.heap.size ≤ k) (okp := fun k => k < w.heap.size) (by first | rfl | (go_simp; done) | (go_simp; rfl)) (reps_one (FK_row ⟨1, a0, ⟨#[]⟩, l1⟩ hc1 HF3.out)) (fun _ hk => .inl hk) (.inr (Nat.le_refl _)) (Below.refl _ _) (Nat.le_refl _) (by simp) ?_; intro v4 w4 hn4 hb4 hg4 hat4; have HN4 := Lib.hid hn4; have HB34 := Lib.hid hb4; clear hn4 hb4 hg4 hat4) | ((with_reducible refine gate_builtin (b := .append) (xs := #[.tmp 92, .tmp 95]) rfl ?_); at_builtin; refine app_want (w0 := w3) w3.heap.size (by first | rfl | (simp [Region.wanted]; done)) (.tmp 92) (.tmp 95) rfl v4 [⟨1, a0, ⟨#[]⟩, l1⟩] ⟨3, ⟨#[]⟩, a2, []⟩ [.int .i64 3, .string ⟨#[]⟩, .string a2, .slice none 0 0] (fun k => k < w.heap.size ∨ w3.heap.size ≤ k) (fun _ => False) rfl rfl (FK_row ⟨3, ⟨#[]⟩, a2, []⟩ (A := none) (c := 0) (Nat.le_refl _) (Kd.F_nil _ _ _)) (fun _ hk => hk.elim) (fun k hk => .inr (Nat.le_trans HB34.out.size hk)) HN4.out HB34.out HB34.out.size (by simp) ?_; intro v5 w5 hn5 hb5 hg5 hat5; have HN5 := Lib.hid hn5; have HB35 := Lib.hid hb5; clear hn5 hb5 hg5 hat5) | (go_at_call 12; refine (scrimlaw04_own.calls 10 (fun k => k < w3.heap.size) A3 c3 TS (wantR a0 l1 a2) _ (Kd.V_map HV3.out (fun _ hf => Kd.F_below hf (HB35.out.mono (Nat.le_of_eq rfl)))) HOW.out).mono ?_; rintro e w6 ⟨v6, rfl, hn6, hb6⟩; have HN6 := Lib.hid hn6; have HB36 := Lib.hid (show Below w3.heap.size w3 w6 from HB35.out.trans (hb6.mono HB35.out.size)); have HNV := Lib.hid (Kd.N_below HN5.out hb6); clear hn6 hb6) | ((with_reducible refine gate_builtin (b := .append) (xs := #[.tmp 102, .tmp 105]) rfl ?_); at_builtin; refine app_want (w0 := w3) w3.heap.size (by first | rfl | (simp [Region.wanted]; done)) (.tmp 102) (.tmp 105) rfl v5 ([⟨1, a0, ⟨#[]⟩, l1⟩] ++ [⟨3, ⟨#[]⟩, a2, []⟩]) ⟨2, a0, ⟨#[]⟩, []⟩ [.int .i64 2, .string a0, .string ⟨#[]⟩, .slice none 0 0] (fun k => k < w.heap.size ∨ w3.heap.size ≤ k) (fun _ => False) rfl rfl (FK_row ⟨2, a0, ⟨#[]⟩, []⟩ (A := none) (c := 0) (Nat.le_refl _) (Kd.F_nil _ _ _)) (fun _ hk => hk.elim) (fun k hk => .inr (Nat.le_trans HB36.out.size hk)) HNV.out HB36.out HB36.out.size (by simp) ?_; intro v7 w7 hn7 hb7 hg7 hat7; have HN7 := Lib.hid hn7; have HB37 := Lib.hid hb7; have HG7 := Lib.hid hg7; clear hn7 hb7 hg7 hat7))
          have HO7 := Kd.N_grown HN6.out HG7.out (fun k hk e => by
            have h1 := Kd.N_base HN5.out k e.symm
            have h2 := Kd.N_lt HN5.out k e.symm
            rcases hk with hk | hk <;> omega)
          obtain ⟨A6, c6, rfl, hc6, hr6⟩ := Kd.N_reads HO7
          obtain ⟨A7, c7, rfl, hc7, hr7⟩ := Kd.N_reads HN7.out
          rw [← HWE.out] at hc7 hr7 ⊢
          refine (scrimref04_Same.calls 20 A6 c6 (wantR a0 l1 a2) A7 c7 (wantR a0 l1 a2) true _ hr6 hc6 hr7 hc7 HSM.out).mono ?_
          rintro e w8 ⟨rfl, hb8⟩
          have HB8 := Lib.hid (show Below w.heap.size w w8 from HBW.out.trans ((HB37.out.trans (hb8.mono HB37.out.size)).mono HBW.out.size))
          clear HO7 hc6 hr6 hc7 hr7 hb8
          go_wp2_with fail
          go_ret
          exact ⟨rfl, HB8.out⟩
end Go.Proofs.Ytkjgnkmnngaioaa.Q
