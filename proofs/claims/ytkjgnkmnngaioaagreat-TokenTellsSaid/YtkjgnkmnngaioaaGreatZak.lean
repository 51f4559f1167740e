/- What the proof of tokenTells_holds needs, of the texts that this work has written and of the words that the kit's print lends. -/
import Derived.Test.YtkjgnkmnngaioaaGreatZah
import Derived.Test.YtkjgnkmnngaioaaGreatZaj
import Derived.Test.YtkjgnkmnngaioaaGreatZad
namespace Go.Proofs.YtkjgnkmnngaioaaGreat.Q
open Go.RowKit Go.Proofs.YtkjgnkmnngaioaaGreat.Mem Go.Proofs.YtkjgnkmnngaioaaGreatW.PrintWords Go.Proofs.YtkjgnkmnngaioaaGreatW.PrintLast Go.Proofs.YtkjgnkmnngaioaaGreatW.PrintMore
set_option linter.unusedVariables false
set_option linter.unusedSimpArgs false
theorem nat_byte (c : UInt8) (n : Nat) (hn : n < 256) : (c == UInt8.ofNat n) = decide (c.toNat = n) := by
  rw [Bool.eq_iff_iff, beq_iff_eq, decide_eq_true_iff]
  constructor
  · intro h; rw [h]; simp; omega
  · intro h; apply UInt8.toNat_inj.1; rw [h]; simp; omega
theorem ks_list {j : Nat} (h : j < 4) : (ks j).data.toList = 38 :: UInt8.ofNat (kb j) :: (px j).data.toList := by
  have : j = 0 ∨ j = 1 ∨ j = 2 ∨ j = 3 := by omega
  rcases this with rfl | rfl | rfl | rfl <;> rfl
theorem kb_lt' {j : Nat} (h : j < 4) : kb j < 256 := (mp_kb h).1
theorem kb_inj {i j : Nat} (hi : i < 4) (hj : j < 4) (h : kb i = kb j) : i = j := by
  have h1 : i = 0 ∨ i = 1 ∨ i = 2 ∨ i = 3 := by omega
  have h2 : j = 0 ∨ j = 1 ∨ j = 2 ∨ j = 3 := by omega
  rcases h1 with rfl | rfl | rfl | rfl <;> rcases h2 with rfl | rfl | rfl | rfl <;> first | rfl | (simp [kb] at h)
theorem lkI_kb {c : UInt8} {j : Nat} (hj : j < 4) (h : c.toNat = kb j) : lkI c = some j := by
  have h1 : j = 0 ∨ j = 1 ∨ j = 2 ∨ j = 3 := by omega
  unfold lkI
  rcases h1 with rfl | rfl | rfl | rfl <;> rw [h] <;> rfl
def pre (m : List UInt8) (j : Nat) : Bool := (ks j).data.toList.isPrefixOf m
theorem pre_cons {c : UInt8} {r : List UInt8} {j : Nat} (hj : j < 4) : pre (c :: r) j = (decide (c.toNat = 38) && (match r with
    | [] => false
    | d :: r' => decide (d.toNat = kb j) && (px j).data.toList.isPrefixOf r')) := by
  unfold pre
  rw [ks_list hj, List.isPrefixOf_cons_cons]
  have e1 : ((38 : UInt8) == c) = decide (c.toNat = 38) := by rw [← nat_byte c 38 (by omega), Bool.eq_iff_iff, beq_iff_eq, beq_iff_eq]; exact eq_comm
  rw [e1]
  cases r with
  | nil => rfl
  | cons d r' =>
    rw [List.isPrefixOf_cons_cons]
    have e2 : (UInt8.ofNat (kb j) == d) = decide (d.toNat = kb j) := by rw [← nat_byte d (kb j) (kb_lt' hj), Bool.eq_iff_iff, beq_iff_eq, beq_iff_eq]; exact eq_comm
    rw [e2]
theorem pre_none {c : UInt8} {r : List UInt8} (h : c.toNat = 38 → lkL r = none) {j : Nat} (hj : j < 4) : pre (c :: r) j = false := by
  rw [pre_cons hj]
  by_cases hc : c.toNat = 38
  · have h := h hc
    cases r with
    | nil => simp
    | cons d r' =>
      by_cases hd : d.toNat = kb j
      · rw [lkL, lkI_kb hj hd] at h
        dsimp only at h ⊢
        split at h
        · cases h
        · rename_i hp
          rw [Bool.eq_false_iff.2 hp]
          simp
      · dsimp only; rw [decide_eq_false hd]; simp
  · rw [decide_eq_false hc]; rfl
theorem pre_some {c : UInt8} {r : List UInt8} {a : Nat} (hc : c.toNat = 38) (h : lkL r = some a) : a < 4 ∧ ∀ j, j < 4 → pre (c :: r) j = decide (j = a) := by
  cases r with
  | nil => cases h
  | cons d r' =>
    rw [lkL] at h
    cases hi : lkI d with
    | none => rw [hi] at h; cases h
    | some i =>
      rw [hi] at h
      dsimp only at h
      split at h
      · rename_i hp
        injection h with h
        subst h
        have hk := lkI_some hi
        refine ⟨hk.1, fun j hj => ?_⟩
        rw [pre_cons hj, decide_eq_true hc]
        dsimp only
        by_cases hji : j = i
        · subst hji
          rw [decide_eq_true hk.2, hp, decide_eq_true rfl]
          rfl
        · rw [decide_eq_false (fun e => hji (kb_inj hj hk.1 (by omega))), decide_eq_false hji]
          rfl
      · cases h
theorem ks_small (j : Nat) : (ks j).size ≤ 100 := by
  rcases j with _ | _ | _ | _ | j
  · decide
  · decide
  · decide
  · decide
  · show (KS.getD (j + 4) em).size ≤ 100
    have : KS.getD (j + 4) em = em := by
      rw [List.getD_eq_getElem?_getD, List.getElem?_eq_none (by simp [KS])]
      rfl
    rw [this]
    decide
theorem ks_pos {j : Nat} (h : j < 4) : 0 < (ks j).size := by
  rw [← len_size, ks_list h]
  simp
theorem tell_in {s : ByteArray} (hs : s.size ≤ 100000) {acc : List Int} {i : Nat} (hi : i ≤ 100000) {c n : Int} {j : Nat} (hj : j < 4) {r : ByteArray}
    (h : Ev (fun k => scrimref04_Tell.l1 k s KS acc (i : Int) (if pre (s.data.toList.drop i) j = true then bt ⟨#[60, 62, 38, 34]⟩ (j : Int) else c) (if pre (s.data.toList.drop i) j = true then ((ks j).size : Int) else n) ((j + 1 : Nat) : Int)) r) :
    Ev (fun k => scrimref04_Tell.l1 k s KS acc (i : Int) c n (j : Int)) r := by
  refine Ev.step (fun k => by rw [scrimref04_Tell.l1]) ?_
  have hl : (KS.length : Int) = 4 := rfl
  refine ev_pos (by omega) (ev_pos (by omega) (ev_pos (by omega) ?_))
  have e : rdOf ByteArray.empty KS (j : Int) = ks j := by
    have : j = 0 ∨ j = 1 ∨ j = 2 ∨ j = 3 := by omega
    rcases this with rfl | rfl | rfl | rfl <;> rfl
  rw [e, w_one (by omega)]
  refine ev_bind1 (has_f (by omega) (by omega) (ks_small j) (ks_pos hj)) ?_
  show Ev (fun k => if pre (s.data.toList.drop i) j = true then _ else _) r
  by_cases hp : pre (s.data.toList.drop i) j = true
  · rw [if_pos hp, if_pos hp] at h
    exact ev_pos hp h
  · rw [if_neg hp, if_neg hp] at h
    exact ev_neg hp h
theorem tell_put {s : ByteArray} {out : List UInt8} (ho : out.length ≤ 1000000) {i n : Nat} (hi : i + n ≤ 1000000) {c : UInt8} {r : ByteArray}
    (h : Ev (fun k => scrimref04_Tell.l0 k s KS (nats (out ++ [c])) ((i + n : Nat) : Int)) r) :
    Ev (fun k => scrimref04_Tell.l1 k s KS (nats out) (i : Int) (c.toNat : Int) (n : Int) 4) r := by
  refine Ev.step (fun k => by rw [scrimref04_Tell.l1]) ?_
  refine ev_neg (by omega) (ev_pos (by rw [nats_len]; omega) ?_)
  rw [w_add (by omega), nats_snoc]
  exact h
theorem tell_on {s : ByteArray} (hs : s.size ≤ 100000) : ∀ (d i : Nat) (out : List UInt8), (s.data.toList.drop i).length ≤ d → i ≤ s.size → out.length ≤ i →
    Ev (fun k => scrimref04_Tell.l0 k s KS (nats out) (i : Int)) (st (out ++ tlL d (s.data.toList.drop i)))
  | d, i, out, hd, hi, ho => by
    refine Ev.step (fun k => by rw [scrimref04_Tell.l0]) ?_
    by_cases hlt : i < s.size
    · obtain ⟨c, hc, hb⟩ := drop_at (s := s) hlt
      refine ev_pos (by omega) (ev_pos (by omega) ?_)
      have hdl := hd
      rw [hc, List.length_cons] at hdl
      obtain ⟨d, rfl⟩ : ∃ d', d = d' + 1 := ⟨d - 1, by omega⟩
      rw [hb]
      have hz : (0 : Int) = ((0 : Nat) : Int) := rfl
      rw [hz]
      rcases hlk : (if c.toNat = 38 then lkL (s.data.toList.drop (i + 1)) else none) with _ | a
      · have hp : ∀ j, j < 4 → pre (s.data.toList.drop i) j = false := fun j hj => by
          rw [hc]
          refine pre_none (fun h38 => ?_) hj
          rw [if_pos h38] at hlk
          exact hlk
        refine tell_in hs (by omega) (by omega) (tell_in hs (by omega) (by omega) (tell_in hs (by omega) (by omega) (tell_in hs (by omega) (by omega) ?_)))
        rw [hp 0 (by omega), hp (0 + 1) (by omega), hp (0 + 1 + 1) (by omega), hp (0 + 1 + 1 + 1) (by omega)]
        simp only [Bool.false_eq_true, if_false]
        refine tell_put (n := 1) (by omega) (by omega) ?_
        have hg := tell_on hs d (i + 1) (out ++ [c]) (by omega) (by omega) (by simp; omega)
        have e : tlL (d + 1) (s.data.toList.drop i) = c :: tlL d (s.data.toList.drop (i + 1)) := by
          rw [hc, tlL]
          by_cases h38 : c.toNat = 38
          · rw [if_pos h38] at hlk ⊢
            rw [hlk]
          · rw [if_neg h38]
        rw [e, show out ++ c :: tlL d (s.data.toList.drop (i + 1)) = out ++ [c] ++ tlL d (s.data.toList.drop (i + 1)) by simp]
        exact hg
      · have h38 : c.toNat = 38 := by
          by_cases h : c.toNat = 38
          · exact h
          · rw [if_neg h] at hlk; cases hlk
        rw [if_pos h38] at hlk
        obtain ⟨ha, hp⟩ := pre_some (c := c) h38 hlk
        rw [← hc] at hp
        have hpl : 2 + (px a).size ≤ (s.data.toList.drop i).length := by
          have h1 := hp a ha
          rw [decide_eq_true rfl] at h1
          unfold pre at h1
          rw [List.isPrefixOf_iff_prefix] at h1
          have h2 := h1.length_le
          rw [ks_list ha, List.length_cons, List.length_cons, len_size] at h2
          omega
        rw [List.length_drop, len_size] at hpl
        have hk : (ks a).size = 2 + (px a).size := by rw [← len_size, ks_list ha, List.length_cons, List.length_cons, len_size]; omega
        obtain ⟨x, hx⟩ : ∃ x : UInt8, (vs a).data.toList = [x] ∧ bt ⟨#[60, 62, 38, 34]⟩ (a : Int) = (x.toNat : Int) := by
          have : a = 0 ∨ a = 1 ∨ a = 2 ∨ a = 3 := by omega
          rcases this with rfl | rfl | rfl | rfl
          · exact ⟨60, rfl, rfl⟩
          · exact ⟨62, rfl, rfl⟩
          · exact ⟨38, rfl, rfl⟩
          · exact ⟨34, rfl, rfl⟩
        have hg := tell_on hs d (i + (2 + (px a).size)) (out ++ [x]) (by rw [List.length_drop, len_size]; rw [List.length_drop, len_size] at hdl; omega) (by omega) (by simp; omega)
        have e : tlL (d + 1) (s.data.toList.drop i) = x :: tlL d (s.data.toList.drop (i + (2 + (px a).size))) := by
          rw [hc, tlL, if_pos h38, hlk]
          dsimp only
          rw [hx.1, List.drop_drop, show i + 1 + (1 + (px a).size) = i + (2 + (px a).size) by omega]
          rfl
        rw [e, show out ++ x :: tlL d (s.data.toList.drop (i + (2 + (px a).size))) = out ++ [x] ++ tlL d (s.data.toList.drop (i + (2 + (px a).size))) by simp]
        refine tell_in hs (by omega) (by omega) (tell_in hs (by omega) (by omega) (tell_in hs (by omega) (by omega) (tell_in hs (by omega) (by omega) ?_)))
        rw [hp 0 (by omega), hp (0 + 1) (by omega), hp (0 + 1 + 1) (by omega), hp (0 + 1 + 1 + 1) (by omega)]
        have hput := tell_put (s := s) (out := out) (by omega) (i := i) (n := (ks a).size) (by omega) (c := x) (r := st (out ++ [x] ++ tlL d (s.data.toList.drop (i + (2 + (px a).size))))) (by rw [hk]; exact hg)
        rw [← hx.2] at hput
        have h4 : a = 0 ∨ a = 1 ∨ a = 2 ∨ a = 3 := by omega
        rcases h4 with rfl | rfl | rfl | rfl <;> exact hput
    · rw [drop_end hlt]
      refine ev_neg (by omega) (ev_one ?_)
      rw [str_nats]
      cases d <;> simp [tlL]
termination_by d => d
theorem tell_f {s : ByteArray} (hs : s.size ≤ 100000) : Ev (fun k => scrimref04_Tell.f k s) (st (tellL s.data.toList)) := by
  have h := tell_on hs s.data.toList.length 0 [] (by simp) (Nat.zero_le _) (Nat.zero_le _)
  exact h
theorem name_f {s : ByteArray} (hs : s.size ≤ 1000000) : Ev (fun k => scrimref04_Name.f k s) (nameB s.data.toList) := by
  unfold scrimref04_Name.f
  by_cases h0 : s.size = 0
  · have e : nameB s.data.toList = false := by
      have : s.data.toList = [] := List.length_eq_zero_iff.1 (by rw [len_size]; exact h0)
      rw [this]
      rfl
    rw [e]
    exact ev_neg (by omega) (ev_one rfl)
  · refine ev_pos (by omega) ?_
    have hn := name_at hs 0 (by omega)
    rw [List.drop_zero] at hn
    refine Ev.bind hn ?_
    unfold nameB
    by_cases h1 : nmF s.data.toList = some s.data.toList.length
    · have h2 := nmN_some h1
      rw [len_size] at h2
      refine ev_pos (by rw [h2]) (Ev.bind (lower_f hs) (ev_one ?_))
      rw [decide_eq_true h1, Bool.true_and, ByteArray.toList_eq, ByteArray.toList_eq]
      congr 1
      rw [Bool.eq_iff_iff, beq_iff_eq, decide_eq_true_iff]
      exact Iff.rfl
    · rw [decide_eq_false h1, Bool.false_and]
      refine ev_neg (fun h2 => h1 ?_) (ev_one rfl)
      have h3 : nmN s.data.toList = s.size := by omega
      cases h4 : nmF s.data.toList with
      | none => rw [nmN_none h4] at h3; omega
      | some k => rw [nmN_some h4] at h3; rw [len_size, h3]
end Go.Proofs.YtkjgnkmnngaioaaGreat.Q
namespace Go.Proofs.YtkjgnkmnngaioaaGreat.Q
open Go.RowKit Go.Proofs.YtkjgnkmnngaioaaGreat.Mem Go.Proofs.YtkjgnkmnngaioaaGreatW.PrintWords Go.Proofs.YtkjgnkmnngaioaaGreatW.PrintLast Go.Proofs.YtkjgnkmnngaioaaGreatW.PrintMore
set_option linter.unusedVariables false
set_option linter.unusedSimpArgs false
abbrev RT := Int × ByteArray × ByteArray × List S70 × Int
def noT : RT := (0, ⟨#[]⟩, ⟨#[]⟩, [], 0)
theorem pre_one (b : UInt8) (m : List UInt8) : (([b] : List UInt8).isPrefixOf m = true) ↔ m.head? = some b := by
  cases m with
  | nil => simp [List.isPrefixOf]
  | cons c m =>
    rw [List.isPrefixOf_cons_cons]
    simp
    exact eq_comm
theorem tw_len {p : UInt8 → Bool} (m : List UInt8) : (m.takeWhile p).length ≤ m.length := (List.takeWhile_prefix _).length_le
theorem tw_eq {p : UInt8 → Bool} (m : List UInt8) : m.take (m.takeWhile p).length = m.takeWhile p := by
  have h := List.prefix_iff_eq_take.1 (List.takeWhile_prefix (p := p) (l := m))
  exact h.symm
theorem tw_next {p : UInt8 → Bool} : ∀ {m : List UInt8} {c : UInt8} {r : List UInt8}, m.drop (m.takeWhile p).length = c :: r → p c = false
  | [], c, r, h => by simp at h
  | d :: m, c, r, h => by
    rw [List.takeWhile_cons] at h
    split at h
    · rw [List.length_cons, List.drop_succ_cons] at h
      exact tw_next h
    · rename_i hp
      injection h with h1 h2
      rw [← h1]
      exact Bool.eq_false_iff.2 hp
theorem tw_mem {p : UInt8 → Bool} : ∀ {m : List UInt8} {c : UInt8}, c ∈ m.takeWhile p → p c = true
  | [], c, h => by simp at h
  | d :: m, c, h => by
    rw [List.takeWhile_cons] at h
    split at h
    · rcases List.mem_cons.1 h with h | h
      · rw [h]; assumption
      · exact tw_mem h
    · simp at h
theorem quote_mem (m : List UInt8) : 34 ∈ m ↔ (m.takeWhile (· != 34)).length < m.length := by
  induction m with
  | nil => simp
  | cons c m ih =>
    rw [List.takeWhile_cons]
    by_cases h : c = 34
    · subst h; simp
    · rw [if_pos (by simpa using h), List.length_cons, List.length_cons, List.mem_cons]
      constructor
      · intro h1
        rcases h1 with h1 | h1
        · exact absurd h1.symm h
        · have := ih.1 h1; omega
      · intro h1
        exact .inr (ih.2 (by omega))
/-- What an opening at a place is told as_. -/
def opW (at0 : Nat) (nm : ByteArray) : Option (List S70 × Nat) → RT
  | none => noT
  | some (as_, u) => (1, nm, ⟨#[]⟩, as_, ((at0 + u : Nat) : Int))
theorem addA_len (as_ : List S70) (k v : ByteArray) : (addA as_ k v).length ≤ as_.length + 1 := by
  unfold addA
  split
  · omega
  · rw [List.length_append]; simp
/-- An attribute more. -/
theorem opn_more {s : ByteArray} {at_ : Nat} {nm key v : ByteArray} {as_ : List S70} (hl : as_.length ≤ 100000) {r : RT}
    (h : Ev (fun k => scrimref04_opening.l0 k s (at_ : Int) 1 nm ⟨#[]⟩ (addA as_ key v)) r) :
    Ev (fun k => (scrimref04_Attr.f k as_ key).bind fun bt178 => (if bt178.2 = true then (scrimref04_opening.l0 k s (at_ : Int) 1 nm ⟨#[]⟩ as_) else (if as_.length < 4398046511104 then (scrimref04_opening.l0 k s (at_ : Int) 1 nm ⟨#[]⟩ (as_ ++ [(⟨key, v⟩ : S70)])) else (none)))) r := by
  obtain ⟨x, hx⟩ := attr_f (l := as_) (by omega) key
  refine Ev.bind hx ?_
  unfold addA at h
  by_cases hk : (as_.any fun x => eqS x.f0 key) = true
  · rw [if_pos hk] at h
    exact ev_pos hk h
  · rw [if_neg hk] at h
    exact ev_neg hk (ev_pos (by omega) h)
/-- The end of a quoted text. -/
theorem opn_quote {s : ByteArray} (hs : s.size ≤ 100000) {q : Nat} {nm key : ByteArray} {as_ : List S70} {r : RT} {v : List UInt8} (hv : v = (s.data.toList.drop (q + 2)).takeWhile (· != 34))
    (hq : q + 2 ≤ s.size) (h : Ev (fun k => scrimref04_opening.j4 k s (q : Int) key ((q + 2 + v.length : Nat) : Int) 1 nm ⟨#[]⟩ as_) r) : ∀ (d e : Nat), v.length - e = d → e ≤ v.length →
    Ev (fun k => scrimref04_opening.l1 k s (q : Int) key ((q + 2 + e : Nat) : Int) 1 nm ⟨#[]⟩ as_) r
  | 0, e, hd, he => by
    have hev : e = v.length := by omega
    subst hev
    refine Ev.step (fun k => by rw [scrimref04_opening.l1]) ?_
    by_cases hlt : q + 2 + v.length < s.size
    · refine ev_pos (by omega) (ev_pos (by omega) ?_)
      obtain ⟨c, hc, hb⟩ := drop_at (s := s) hlt
      have h34 : c = 34 := by
        have h1 : (s.data.toList.drop (q + 2)).drop v.length = c :: s.data.toList.drop (q + 2 + v.length + 1) := by rw [List.drop_drop, hc]
        rw [hv] at h1
        have h2 := tw_next h1
        simpa using h2
      rw [hb, h34]
      exact ev_pos (by decide) h
    · exact ev_neg (by omega) h
  | d + 1, e, hd, he => by
    have hl : v.length ≤ (s.data.toList.drop (q + 2)).length := by rw [hv]; exact tw_len _
    rw [List.length_drop, len_size] at hl
    refine Ev.step (fun k => by rw [scrimref04_opening.l1]) ?_
    refine ev_pos (by omega) (ev_pos (by omega) ?_)
    obtain ⟨c, hc, hb⟩ := drop_at (s := s) (i := q + 2 + e) (by omega)
    have h34 : c ≠ 34 := by
      have h1 : c ∈ (s.data.toList.drop (q + 2)).take v.length := by
        rw [List.mem_take_iff_getElem]
        refine ⟨e, by rw [List.length_drop, len_size]; omega, ?_⟩
        have h2 : (s.data.toList.drop (q + 2))[e]? = some c := by
          rw [List.getElem?_drop, ← List.head?_drop, hc]
          rfl
        rw [List.getElem?_eq_getElem (by rw [List.length_drop, len_size]; omega)] at h2
        injection h2
      rw [hv, tw_eq] at h1
      have h2 := tw_mem h1
      simpa using h2
    rw [hb]
    refine ev_neg (fun h => h34 (UInt8.toNat_inj.1 (by show c.toNat = 34; omega))) ?_
    rw [w_one (by omega)]
    exact opn_quote hs hv hq h d (e + 1) (by omega) (by omega)
theorem opn_on {s : ByteArray} (hs : s.size ≤ 100000) (at0 : Nat) (nm : ByteArray) : ∀ (f o : Nat) (as_ : List S70), s.size - (at0 + o) < f → as_.length ≤ o → at0 + o ≤ s.size →
    Ev (fun k => scrimref04_opening.l0 k s ((at0 + o : Nat) : Int) 1 nm ⟨#[]⟩ as_) (opW at0 nm (opL (s.data.toList.drop at0) f o as_))
  | 0, o, as_, hf, _, _ => absurd hf (Nat.not_lt_zero _)
  | f + 1, o, as_, hf, ha, ho => by
    refine Ev.step (fun k => by rw [scrimref04_opening.l0]) ?_
    rw [opL]
    obtain ⟨k0, hk0⟩ : ∃ k0, k0 = spLen (s.data.toList.drop (at0 + o)) := ⟨_, rfl⟩
    have hkle : k0 ≤ s.size - (at0 + o) := by have := spLen_le (s.data.toList.drop (at0 + o)); rw [← hk0, List.length_drop, len_size] at this; exact this
    have hb := blanks_at (s := s) (by omega) (at0 + o) (by omega)
    rw [← hk0] at hb
    refine Ev.bind hb ?_
    have edj : ∀ j, (s.data.toList.drop at0).drop j = s.data.toList.drop (at0 + j) := fun j => List.drop_drop
    rw [edj o, ← hk0, edj (o + k0)]
    have ea : at0 + (o + k0) = at0 + o + k0 := by omega
    rw [ea, w_add (by omega)]
    refine ev_bind1 (has_f (by omega) (by omega) (by decide) (by decide)) ?_
    show Ev (fun k => if ([62] : List UInt8).isPrefixOf (s.data.toList.drop (at0 + o + k0)) = true then _ else _) _
    by_cases h62 : (s.data.toList.drop (at0 + o + k0)).head? = some 62
    · rw [if_pos h62]
      refine ev_pos ((pre_one _ _).2 h62) (ev_one ?_)
      rw [w_one (by omega)]
      show some _ = some (1, nm, (⟨#[]⟩ : ByteArray), as_, ((at0 + (o + k0 + 1) : Nat) : Int))
      rw [show at0 + o + k0 + 1 = at0 + (o + k0 + 1) by omega]
    rw [if_neg h62]
    refine ev_neg (fun h => h62 ((pre_one _ _).1 h)) ?_
    refine Ev.bind (name_at (s := s) (by omega) (at0 + o + k0) (by omega)) ?_
    cases hn : nmF (s.data.toList.drop (at0 + o + k0)) with
    | none =>
      rw [nmN_none hn]
      dsimp only
      have hj : Ev (fun k => scrimref04_opening.j2 k s ((at0 + o : Nat) : Int) ((0 : Nat) : Int) (k0 : Int) true 1 nm ⟨#[]⟩ as_) (opW at0 nm none) := by
        refine Ev.step (fun k => by rw [scrimref04_opening.j2]) ?_
        exact ev_pos rfl (ev_one rfl)
      by_cases hz : (k0 : Int) = 0
      · exact ev_pos hz hj
      · exact ev_neg hz hj
    | some n =>
      rw [nmN_some hn]
      dsimp only
      have hns := nmF_some hn
      have hnl := hns.2.2.2.1
      rw [List.length_drop, len_size] at hnl
      by_cases hz : k0 = 0
      · rw [if_pos hz]
        refine ev_pos (by omega) ?_
        refine Ev.step (fun k => by rw [scrimref04_opening.j2]) ?_
        exact ev_pos rfl (ev_one rfl)
      rw [if_neg hz]
      refine ev_neg (by omega) ?_
      have hn0 : ((n : Int) == 0) = false := by rw [beq_eq_false_iff_ne]; have := hns.2.1; omega
      rw [hn0]
      refine Ev.step (fun k => by rw [scrimref04_opening.j2]) ?_
      refine ev_neg (by decide) ?_
      rw [w_add (by omega), w_add (by omega)]
      refine ev_pos (by omega) (ev_pos (by omega) (ev_pos (by omega) ?_))
      rw [Int.toNat_natCast, Int.toNat_natCast, ext_st, show at0 + o + k0 + n - (at0 + o + k0) = n by omega]
      obtain ⟨key, hkey⟩ : ∃ key, key = st (lows ((s.data.toList.drop (at0 + o + k0)).take n)) := ⟨_, rfl⟩
      refine Ev.bind (lower_f (s := st ((s.data.toList.drop (at0 + o + k0)).take n)) (by rw [st_size, List.length_take]; have := hns.2.2.1; omega)) ?_
      rw [st_list, ← hkey]
      obtain ⟨q, hq⟩ : ∃ q, q = at0 + o + k0 + n := ⟨_, rfl⟩
      rw [edj (o + k0 + n), show at0 + (o + k0 + n) = q by omega, ← hq]
      refine ev_bind1 (has_f (by omega) (by omega) (by decide) (by decide)) ?_
      show Ev (fun k => if ([61] : List UInt8).isPrefixOf (s.data.toList.drop q) = true then _ else _) _
      by_cases h61 : (s.data.toList.drop q).head? = some 61
      · refine ev_pos ((pre_one _ _).2 h61) ?_
        refine ev_bind1 (has_f (by omega) (by omega) (by decide) (by decide)) ?_
        show Ev (fun k => if ([61, 34] : List UInt8).isPrefixOf (s.data.toList.drop q) = true then _ else _) _
        by_cases hp : ([61, 34] : List UInt8).isPrefixOf (s.data.toList.drop q) = true
        · refine ev_pos hp ?_
          have h2 : q + 2 ≤ s.size := by
            have h3 := (List.isPrefixOf_iff_prefix.1 hp).length_le
            rw [List.length_drop, len_size] at h3
            simp at h3
            omega
          obtain ⟨v, hv⟩ : ∃ v, v = (s.data.toList.drop (q + 2)).takeWhile (· != 34) := ⟨_, rfl⟩
          have hvl : v.length ≤ s.size - (q + 2) := by
            have := tw_len (p := (· != 34)) (s.data.toList.drop (q + 2))
            rw [← hv, List.length_drop, len_size] at this
            exact this
          rw [w_two (by omega)]
          refine opn_quote hs hv h2 ?_ v.length 0 (by omega) (by omega)
          refine Ev.step (fun k => by rw [scrimref04_opening.j4]) ?_
          have hqf : qF (s.data.toList.drop q) = if q + 2 + v.length < s.size then some v else none := by
            unfold qF
            rw [show Lib.hasPrefix (s.data.toList.drop q) [61, 34] = true from hp, if_pos rfl, List.drop_drop, ← hv]
            by_cases hlt : q + 2 + v.length < s.size
            · rw [if_pos hlt, if_pos ((quote_mem _).2 (by rw [← hv, List.length_drop, len_size]; omega))]
            · rw [if_neg hlt, if_neg (fun h => by have := (quote_mem _).1 h; rw [← hv, List.length_drop, len_size] at this; omega)]
          rw [hqf]
          by_cases hlt : q + 2 + v.length < s.size
          · rw [if_pos hlt]
            dsimp only
            refine ev_neg (by omega) ?_
            rw [w_two (by omega)]
            refine ev_pos (by omega) (ev_pos (by omega) (ev_pos (by omega) ?_))
            rw [Int.toNat_natCast, Int.toNat_natCast, ext_st, show q + 2 + v.length - (q + 2) = v.length by omega]
            have hvt : (s.data.toList.drop (q + 2)).take v.length = v := by rw [hv]; exact tw_eq _
            rw [hvt]
            refine Ev.bind (tell_f (s := st v) (by rw [st_size]; omega)) ?_
            rw [st_list, w_one (by omega), tellF_st]
            have hadd := addA_len as_ key (st (tellL v))
            have hg := opn_on hs at0 nm f (o + k0 + n + (v.length + 3)) (addA as_ key (st (tellL v))) (by omega) (by omega) (by omega)
            rw [show at0 + (o + k0 + n + (v.length + 3)) = q + 2 + v.length + 1 by omega] at hg
            exact opn_more (by omega) hg
          · rw [if_neg hlt]
            dsimp only
            rw [if_pos h61]
            exact ev_pos (by omega) (ev_one rfl)
        · have hqf : qF (s.data.toList.drop q) = none := by
            unfold qF
            rw [if_neg (show ¬ Lib.hasPrefix (s.data.toList.drop q) [61, 34] = true from hp)]
          rw [hqf]
          dsimp only
          rw [if_pos h61]
          exact ev_neg hp (ev_one rfl)
      · have hqf : qF (s.data.toList.drop q) = none := by
          unfold qF
          rw [if_neg (fun h => h61 ?_)]
          have h := (show ([61, 34] : List UInt8).isPrefixOf (s.data.toList.drop q) = true from h)
          revert h
          cases s.data.toList.drop q with
          | nil => intro h; cases h
          | cons c m =>
            intro h
            rw [List.isPrefixOf_cons_cons] at h
            have h1 : ((61 : UInt8) == c) = true := (Bool.and_eq_true _ _ ▸ h).1
            rw [beq_iff_eq] at h1
            rw [← h1]
            rfl
        rw [hqf]
        dsimp only
        rw [if_neg h61]
        refine ev_neg (fun h => h61 ((pre_one _ _).1 h)) ?_
        have hadd := addA_len as_ key (st [])
        have hn1 := hns.2.1
        have hg := opn_on hs at0 nm f (o + k0 + n) (addA as_ key (st [])) (by omega) (by omega) (by omega)
        rw [show at0 + (o + k0 + n) = q by omega] at hg
        exact opn_more (by omega) hg
/-- What is told of an opening at a place. -/
def opP (at0 : Nat) (m : List UInt8) : RT := match (if m.head? = some 60 then opF m else none) with
  | none => noT
  | some (k, as_, u) => (1, st (lows ((m.drop 1).take k)), ⟨#[]⟩, as_, ((at0 + u : Nat) : Int))
theorem opening_f {s : ByteArray} (hs : s.size ≤ 100000) {i : Nat} (hi : i < s.size) : Ev (fun k => scrimref04_opening.f k s (i : Int)) (opP i (s.data.toList.drop i)) := by
  unfold scrimref04_opening.f
  rw [w_one (by omega)]
  refine Ev.bind (name_at (s := s) (by omega) (i + 1) (by omega)) ?_
  obtain ⟨c, hc, hb⟩ := drop_at (s := s) hi
  refine ev_pos (by omega) (ev_pos (by omega) ?_)
  rw [hb]
  have nope : Ev (fun k => scrimref04_opening.j0 k s (i : Int) ((nmN (s.data.toList.drop (i + 1)) : Nat) : Int) true) noT := by
    refine Ev.step (fun k => by rw [scrimref04_opening.j0]) ?_
    exact ev_pos rfl (ev_one rfl)
  unfold opP
  by_cases h60 : (c.toNat : Int) = 60
  · have hc60 : c = 60 := UInt8.toNat_inj.1 (by show c.toNat = 60; omega)
    refine ev_pos h60 ?_
    rw [if_pos (by rw [hc, hc60]; rfl)]
    unfold opF
    rw [List.drop_drop]
    cases hn : nmF (s.data.toList.drop (i + 1)) with
    | none =>
      rw [nmN_none hn] at nope ⊢
      exact nope
    | some n =>
      rw [nmN_some hn]
      dsimp only
      have hns := nmF_some hn
      have hnl := hns.2.2.2.1
      rw [List.length_drop, len_size] at hnl
      have hn0 : ((n : Int) == 0) = false := by rw [beq_eq_false_iff_ne]; have := hns.2.1; omega
      rw [hn0]
      refine Ev.step (fun k => by rw [scrimref04_opening.j0]) ?_
      refine ev_neg (by decide) ?_
      rw [w_one (by omega), w_add (by omega)]
      refine ev_pos (by omega) (ev_pos (by omega) (ev_pos (by omega) ?_))
      rw [Int.toNat_natCast, Int.toNat_natCast, ext_st, show i + 1 + n - (i + 1) = n by omega]
      refine Ev.bind (lower_f (s := st ((s.data.toList.drop (i + 1)).take n)) (by rw [st_size, List.length_take]; have := hns.2.2.1; omega)) ?_
      rw [st_list]
      have hg := opn_on hs i (st (lows ((s.data.toList.drop (i + 1)).take n))) ((s.data.toList.drop i).length + 1) (1 + n) [] (by rw [List.length_drop, len_size]; omega) (Nat.zero_le _) (by omega)
      rw [show i + (1 + n) = i + 1 + n by omega] at hg
      cases ho : opL (s.data.toList.drop i) ((s.data.toList.drop i).length + 1) (1 + n) [] with
      | none => rw [ho] at hg; exact hg
      | some r => rw [ho] at hg; obtain ⟨r1, r2⟩ := r; exact hg
  · rw [if_neg (by rw [hc]; intro h; injection h with h; rw [h] at h60; exact h60 rfl)]
    exact ev_neg h60 nope
/-- What is told of a closing at a place. -/
def clP (at0 : Nat) (m : List UInt8) : RT := match (if m.head? = some 60 then clF m else none) with
  | none => noT
  | some (k, u) => (2, st (lows ((m.drop 2).take k)), ⟨#[]⟩, [], ((at0 + u : Nat) : Int))
theorem pre_two (a b : UInt8) (m : List UInt8) : ([a, b] : List UInt8).isPrefixOf m = true ↔ (m.head? = some a ∧ 2 ≤ m.length ∧ m.getD 1 0 = b) := by
  cases m with
  | nil => simp
  | cons c m =>
    cases m with
    | nil => simp [List.isPrefixOf]
    | cons d m =>
      rw [List.isPrefixOf_cons_cons, List.isPrefixOf_cons_cons]
      simp
      constructor
      · rintro ⟨h1, h2⟩; exact ⟨h1.symm, h2.symm⟩
      · rintro ⟨h1, h2⟩; exact ⟨h1.symm, h2.symm⟩
theorem closing_f {s : ByteArray} (hs : s.size ≤ 100000) {i : Nat} (hi : i < s.size) : Ev (fun k => scrimref04_closing.f k s (i : Int)) (clP i (s.data.toList.drop i)) := by
  unfold scrimref04_closing.f
  rw [w_two (by omega)]
  refine Ev.bind (name_at (s := s) (by omega) (i + 2) (by omega)) ?_
  refine ev_bind1 (has_f (by omega) (by omega) (by decide) (by decide)) ?_
  show Ev (fun k => if ([60, 47] : List UInt8).isPrefixOf (s.data.toList.drop i) = true then _ else _) _
  have nope : Ev (fun k => scrimref04_closing.j0 k s (i : Int) ((nmN (s.data.toList.drop (i + 2)) : Nat) : Int) true) noT := by
    refine Ev.step (fun k => by rw [scrimref04_closing.j0]) ?_
    exact ev_pos rfl (ev_one rfl)
  unfold clP
  by_cases hp : ([60, 47] : List UInt8).isPrefixOf (s.data.toList.drop i) = true
  · obtain ⟨h1, h2, h3⟩ := (pre_two _ _ _).1 hp
    refine ev_pos hp ?_
    rw [if_pos h1]
    unfold clF
    rw [if_neg (by omega), if_neg (fun h => h h3), List.drop_drop (i := 2) (j := i)]
    rw [List.length_drop, len_size] at h2
    cases hn : nmF (s.data.toList.drop (i + 2)) with
    | none =>
      rw [nmN_none hn] at nope ⊢
      exact nope
    | some n =>
      rw [nmN_some hn]
      dsimp only
      have hns := nmF_some hn
      have hnl := hns.2.2.2.1
      rw [List.length_drop, len_size] at hnl
      have hn0 : ((n : Int) == 0) = false := by rw [beq_eq_false_iff_ne]; have := hns.2.1; omega
      rw [hn0]
      refine Ev.step (fun k => by rw [scrimref04_closing.j0]) ?_
      refine ev_neg (by decide) ?_
      rw [w_two (by omega), w_add (by omega)]
      refine Ev.bind (blanks_at (s := s) (by omega) (i + 2 + n) (by omega)) ?_
      have hsp := spLen_le (s.data.toList.drop (i + 2 + n))
      rw [List.length_drop, len_size] at hsp
      have ed : ∀ j, (s.data.toList.drop i).drop (2 + n + j) = s.data.toList.drop (i + 2 + n + j) := fun j => by rw [List.drop_drop]; congr 1; omega
      have ed0 : (s.data.toList.drop i).drop (2 + n) = s.data.toList.drop (i + 2 + n) := ed 0
      rw [ed0]
      generalize spLen (s.data.toList.drop (i + 2 + n)) = k0 at hsp ⊢
      rw [w_add (by omega), ed k0]
      refine ev_bind1 (has_f (by omega) (by omega) (by decide) (by decide)) ?_
      show Ev (fun k => if ([62] : List UInt8).isPrefixOf (s.data.toList.drop (i + 2 + n + k0)) = true then _ else _) _
      by_cases h62 : (s.data.toList.drop (i + 2 + n + k0)).head? = some 62
      · rw [if_pos h62]
        refine ev_pos ((pre_one _ _).2 h62) (ev_pos (by omega) (ev_pos (by omega) (ev_pos (by omega) ?_)))
        rw [Int.toNat_natCast, Int.toNat_natCast, ext_st, show i + 2 + n - (i + 2) = n by omega]
        refine Ev.bind (lower_f (s := st ((s.data.toList.drop (i + 2)).take n)) (by rw [st_size, List.length_take]; have := hns.2.2.1; omega)) (ev_one ?_)
        rw [st_list, w_one (by omega)]
        dsimp only
        rw [show i + 2 + n + k0 + 1 = i + (2 + n + k0 + 1) by omega]
      · rw [if_neg h62]
        exact ev_neg (fun h => h62 ((pre_one _ _).1 h)) (ev_one rfl)
  · refine ev_neg hp ?_
    have e : (if (s.data.toList.drop i).head? = some 60 then clF (s.data.toList.drop i) else none) = none := by
      by_cases h1 : (s.data.toList.drop i).head? = some 60
      · rw [if_pos h1]
        unfold clF
        by_cases h2 : (s.data.toList.drop i).length < 2
        · rw [if_pos h2]
        · rw [if_neg h2, if_pos (fun h3 => hp ((pre_two _ _ _).2 ⟨h1, by omega, h3⟩))]
      · rw [if_neg h1]
    rw [e]
    exact nope
end Go.Proofs.YtkjgnkmnngaioaaGreat.Q
namespace Go.Proofs.YtkjgnkmnngaioaaGreat.Q
open Go.RowKit Go.Proofs.YtkjgnkmnngaioaaGreatW.PrintWords Go.Proofs.YtkjgnkmnngaioaaGreatW.PrintLast Go.Proofs.YtkjgnkmnngaioaaGreatW.PrintMore
attribute [local go_sem] max2_int min2_int max_two min_two max_three min_three max_four min_four   -- for this text's walks alone
set_option linter.unusedVariables false
set_option linter.unusedSimpArgs false
theorem eqA70 (d : Nat) (w : World) (x0 y0 : ByteArray) (x1 y1 : ByteArray) :
    (Op.equalIn (d + 2) 70 (.agg #[.string x0, .string x1]) (.agg #[.string y0, .string y1])).run Tryz.prog w = .ok (x0.toList == y0.toList && (x1.toList == y1.toList)) w := by
  refine eqA_of Tryz.underlying70 (by kernel_rfl) ?_
  refine eqf_cons (by rfl) (by go_simp; rfl) (by go_simp; rfl) (by go_simp) ?_
  exact eqf_last (by rfl) (by go_simp; rfl) (by go_simp; rfl) (by go_simp)
end Go.Proofs.YtkjgnkmnngaioaaGreat.Q
namespace Go.Proofs.YtkjgnkmnngaioaaGreat.Q
open Go.RowKit Go.Proofs.YtkjgnkmnngaioaaGreatW.PrintWords Go.Proofs.YtkjgnkmnngaioaaGreatW.PrintLast Go.Proofs.YtkjgnkmnngaioaaGreatW.PrintMore
attribute [local go_sem] max2_int min2_int max_two min_two max_three min_three max_four min_four   -- for this text's walks alone
set_option linter.unusedVariables false
set_option linter.unusedSimpArgs false
attribute [local go_sem high] eqA70
def scrimref04_SameAttrs.l0 : Nat → List (S70) → List (S70) → Int → Option (Bool)
  | 0, _, _, _ => none
  | k + 1, x0, x1, x5 => if x5 < (x0.length : Int) then (if 0 ≤ x5 then (if x5 < (x1.length : Int) then (if (!((((rd_T70 x0 x5).f0).toList) == (((rd_T70 x1 x5).f0).toList)) || (!((((rd_T70 x0 x5).f1).toList) == (((rd_T70 x1 x5).f1).toList)))) = true then (some false) else (scrimref04_SameAttrs.l0 k x0 x1 (wrap64 (x5 + 1)))) else (none)) else (none)) else (some true)
def scrimref04_SameAttrs.f (k : Nat) (l0 : List (S70)) (l1 : List (S70)) : Option (Bool) := if (l0.length : Int) = (l1.length : Int) then (scrimref04_SameAttrs.l0 k l0 l1 0) else (some false)
set_option maxHeartbeats 8000000 in
set_option maxRecDepth 100000 in
theorem scrimref04_SameAttrs.calls (k : Nat) (A0 : Option Addr) (c0 : Nat) (l0 : List (S70)) (A1 : Option Addr) (c1 : Nat) (l1 : List (S70)) (r : Bool) (w : World) (hr0 : Kd.C k70 w A0 l0.length l0) (hc0 : l0.length ≤ c0) (hr1 : Kd.C k70 w A1 l1.length l1) (hc1 : l1.length ≤ c1) (h : scrimref04_SameAttrs.f k l0 l1 = some r) :
    Calls Tryz.prog 52 #[.slice A0 l0.length c0, .slice A1 l1.length c1] w fun e w' => e = .returned (.bool r) ∧ Drawn0 w w' := by
  have hu70 := Tryz.underlying70
  have HR0 := Aside0.mk hr0
  have HC0 := Aside0.mk hc0
  clear hr0 hc0
  have HR1 := Aside0.mk hr1
  have HC1 := Aside0.mk hc1
  clear hr1 hc1
  have H : (if (l0.length : Int) = (l1.length : Int) then (scrimref04_SameAttrs.l0 k l0 l1 0) else (some false)) = some r := h
  clear h
  by_cases c3 : (l0.length : Int) = (l1.length : Int)
  · rw [if_pos c3] at H
    have c3b0 : ((l0.length : Int) == (l1.length : Int)) = true := beq_iff_eq.mpr c3
    have c3b1 : ((l0.length : Int) != (l1.length : Int)) = false := bne_eq_false_iff_eq.mpr c3
    have c3b2 : (l0.length == l1.length) = true := by first | simpa using c3 | (simp at c3 ⊢; omega)
    clear c3
    have H' := Aside0.mk H
    clear H
    go_enter Tryz.func52, Tryz.ntmps52
    go_wp2
    repeat (go_quiet (fail); try go_wp2)
    go_loopg [5] k (fun kq v5 w' => ∃ (x5_1 : Int), v5 = .int .i64 x5_1 ∧ Aside0 (scrimref04_SameAttrs.l0 kq l0 l1 x5_1 = some r) ∧ Aside0 (kq ≤ k) ∧ Drawn0 w w')
    case atStart => exact ⟨(0), (by first | rfl | (simp; done) | (simp [*]; done)), H', ⟨Nat.le_refl _⟩, by repeat (first | exact Drawn0.refl _ | apply Drawn0.step)⟩
    case round =>
      clear H'
      try clear c1
      try clear p2
      try clear c3
      try clear c3b0
      try clear c3b1
      try clear c3b2
      obtain ⟨x5_1, rfl, HA, HK1, ⟨m1, rfl⟩⟩ := hrel
      cases gk with
      | zero => exact absurd HA.out (by simp [scrimref04_SameAttrs.l0])
      | succ k1 =>
        have H := HA.out
        clear HA
        simp only [scrimref04_SameAttrs.l0] at H
        by_cases c4 : x5_1 < (l0.length : Int)
        · rw [if_pos c4] at H
          have c4b0 : decide (x5_1 < (l0.length : Int)) = true := decide_eq_true c4
          clear c4
          by_cases c5 : 0 ≤ x5_1
          · rw [if_pos c5] at H
            have c5b0 : decide (0 ≤ x5_1) = true := decide_eq_true c5
            clear c5
            by_cases c6 : x5_1 < (l1.length : Int)
            · rw [if_pos c6] at H
              have c6b0 : decide (x5_1 < (l1.length : Int)) = true := decide_eq_true c6
              clear c6
              by_cases c7 : (!((((rd_T70 l0 x5_1).f0).toList) == (((rd_T70 l1 x5_1).f0).toList)) || (!((((rd_T70 l0 x5_1).f1).toList) == (((rd_T70 l1 x5_1).f1).toList)))) = true
              · rw [if_pos c7] at H
                have c7b0 : (!((((rd_T70 l0 x5_1).f0).toList) == (((rd_T70 l1 x5_1).f0).toList)) || (!((((rd_T70 l0 x5_1).f1).toList) == (((rd_T70 l1 x5_1).f1).toList)))) = true := c7
                clear c7
                obtain rfl := Option.some.inj H
                have p121 : 0 ≤ (x5_1 : Int) := of_decide_eq_true (by first | (with_reducible assumption) | assumption)
                have q121 : x5_1 < (l0.length : Int) := of_decide_eq_true (by first | (with_reducible assumption) | assumption)
                obtain ⟨ad121, e121, hx121_0, hx121_1⟩ := at_T70 HR0.out x5_1 p121 q121
                cases e121
                replace p121 := eq_true p121
                replace q121 := eq_true q121
                have p122 : 0 ≤ (x5_1 : Int) := of_decide_eq_true (by first | (with_reducible assumption) | assumption)
                have q122 : x5_1 < (l1.length : Int) := of_decide_eq_true (by first | (with_reducible assumption) | assumption)
                obtain ⟨ad122, e122, hx122_0, hx122_1⟩ := at_T70 HR1.out x5_1 p122 q122
                cases e122
                replace p122 := eq_true p122
                replace q122 := eq_true q122
                go_wp2
                repeat (go_quiet (fail); try go_wp2)
                go_ret
                exact ⟨by first | rfl | (simp; done) | (simp [*]; done), by repeat (first | exact Drawn0.refl _ | apply Drawn0.step)⟩
              · rw [if_neg c7] at H
                have c7b0 : (!((((rd_T70 l0 x5_1).f0).toList) == (((rd_T70 l1 x5_1).f0).toList)) || (!((((rd_T70 l0 x5_1).f1).toList) == (((rd_T70 l1 x5_1).f1).toList)))) = false := by simpa using c7
                clear c7
                have H' := Aside0.mk H
                clear H
                have p121 : 0 ≤ (x5_1 : Int) := of_decide_eq_true (by first | (with_reducible assumption) | assumption)
                have q121 : x5_1 < (l0.length : Int) := of_decide_eq_true (by first | (with_reducible assumption) | assumption)
                obtain ⟨ad121, e121, hx121_0, hx121_1⟩ := at_T70 HR0.out x5_1 p121 q121
                cases e121
                replace p121 := eq_true p121
                replace q121 := eq_true q121
                have p122 : 0 ≤ (x5_1 : Int) := of_decide_eq_true (by first | (with_reducible assumption) | assumption)
                have q122 : x5_1 < (l1.length : Int) := of_decide_eq_true (by first | (with_reducible assumption) | assumption)
                obtain ⟨ad122, e122, hx122_0, hx122_1⟩ := at_T70 HR1.out x5_1 p122 q122
                cases e122
                replace p122 := eq_true p122
                replace q122 := eq_true q122
                go_wp2
                repeat (go_quiet (fail); try go_wp2)
                go_roundg k1
                case measure => have := HK1.out; omega
                case rel => exact ⟨(wrap64 (x5_1 + 1)), (by first | rfl | (simp; done) | (simp [*]; done)), H', ⟨by have := HK1.out; omega⟩, by repeat (first | exact Drawn0.refl _ | apply Drawn0.step)⟩
            · rw [if_neg c6] at H
              exact absurd H (by simp)
          · rw [if_neg c5] at H
            exact absurd H (by simp)
        · rw [if_neg c4] at H
          have c4b0 : decide (x5_1 < (l0.length : Int)) = false := decide_eq_false c4
          clear c4
          obtain rfl := Option.some.inj H
          go_wp2
          repeat (go_quiet (fail); try go_wp2)
          go_ret
          exact ⟨by first | rfl | (simp; done) | (simp [*]; done), by repeat (first | exact Drawn0.refl _ | apply Drawn0.step)⟩
  · rw [if_neg c3] at H
    have c3b0 : ((l0.length : Int) == (l1.length : Int)) = false := beq_eq_false_iff_ne.mpr c3
    have c3b1 : ((l0.length : Int) != (l1.length : Int)) = true := bne_iff_ne.mpr c3
    have c3b2 : (l0.length == l1.length) = false := by first | simpa using c3 | (simp at c3 ⊢; omega)
    obtain rfl := Option.some.inj H
    go_enter Tryz.func52, Tryz.ntmps52
    go_wp2
    repeat (go_quiet (fail); try go_wp2)
    go_ret
    exact ⟨by first | rfl | (simp; done) | (simp [*]; done), by repeat (first | exact Drawn0.refl _ | apply Drawn0.step)⟩
end Go.Proofs.YtkjgnkmnngaioaaGreat.Q
