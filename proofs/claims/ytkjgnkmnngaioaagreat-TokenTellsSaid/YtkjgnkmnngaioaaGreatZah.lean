/- What the proof of tokenTells_holds needs, of the texts that this work has written and of the words that the kit's print lends. -/
import Derived.Test.YtkjgnkmnngaioaaGreatZaf
import Derived.Test.YtkjgnkmnngaioaaGreatZag
namespace Go.Proofs.YtkjgnkmnngaioaaGreat.Q
open Go.RowKit Go.Proofs.YtkjgnkmnngaioaaGreat.Mem Go.Proofs.YtkjgnkmnngaioaaGreatW.PrintWords Go.Proofs.YtkjgnkmnngaioaaGreatW.PrintLast Go.Proofs.YtkjgnkmnngaioaaGreatW.PrintMore
set_option linter.unusedVariables false
set_option linter.unusedSimpArgs false
theorem ev_one {α : Type} {x : Option α} {r : α} (h : x = some r) : Ev (fun _ => x) r := ⟨0, fun _ _ => h⟩
theorem ev_pos {α : Type} {c : Prop} [Decidable c] {A B : Nat → Option α} {r : α} (h : c) (x : Ev A r) : Ev (fun k => if c then A k else B k) r := Ev.congr (fun k => if_pos h) x
theorem ev_neg {α : Type} {c : Prop} [Decidable c] {A B : Nat → Option α} {r : α} (h : ¬ c) (x : Ev B r) : Ev (fun k => if c then A k else B k) r := Ev.congr (fun k => if_neg h) x
theorem ev_bind1 {α β : Type} {x : Option α} {a : α} {f : Nat → α → Option β} {r : β} (h : x = some a) (k : Ev (fun n => f n a) r) : Ev (fun n => x.bind (f n)) r := Ev.bind (ev_one h) k
theorem all_byte {p : UInt8 → Bool} (h : ∀ n : Fin 256, p (UInt8.ofNat n.val) = true) (c : UInt8) : p c = true := by
  have := h ⟨c.toNat, c.toNat_lt⟩
  simpa using this
theorem w_add {x y : Nat} (h : x + y ≤ 100000000) : wrap64 ((x : Int) + (y : Int)) = ((x + y : Nat) : Int) := by unfold wrap64; omega
theorem w_one {x : Nat} (h : x ≤ 100000000) : wrap64 ((x : Int) + 1) = ((x + 1 : Nat) : Int) := by unfold wrap64; omega
theorem w_two {x : Nat} (h : x ≤ 100000000) : wrap64 ((x : Int) + 2) = ((x + 2 : Nat) : Int) := by unfold wrap64; omega
theorem len_size (s : ByteArray) : s.data.toList.length = s.size := by simp
theorem st_list (l : List UInt8) : (st l).data.toList = l := rfl
theorem st_size (l : List UInt8) : (st l).size = l.length := by unfold st; simp [ByteArray.size]
theorem ba_ext {a b : ByteArray} (h : a.data.toList = b.data.toList) : a = b := by
  cases a; cases b; congr; exact Array.toList_inj.1 h
theorem ext_st (s : ByteArray) (a b : Nat) : s.extract a b = st ((s.data.toList.drop a).take (b - a)) := ba_ext (Lib.extract_data s a b)
theorem bt_of {s : ByteArray} {i : Nat} (h : i < s.data.toList.length) : bt s (i : Int) = ((s.data.toList[i]).toNat : Int) := by
  unfold bt
  rw [dif_pos (by simpa using h)]
  rfl
theorem drop_at {s : ByteArray} {i : Nat} (h : i < s.size) : ∃ c, s.data.toList.drop i = c :: s.data.toList.drop (i + 1) ∧ bt s (i : Int) = (c.toNat : Int) := by
  have hl : i < s.data.toList.length := by rw [len_size]; exact h
  exact ⟨_, List.drop_eq_getElem_cons hl, bt_of hl⟩
theorem drop_end {s : ByteArray} {i : Nat} (h : ¬ i < s.size) : s.data.toList.drop i = [] := List.drop_of_length_le (by rw [len_size]; omega)
/-- Does a text stand at a place? -/
theorem has_f {s t : ByteArray} {i : Nat} (hs : s.size ≤ 1000000) (hi : i ≤ 1000010) (ht : t.size ≤ 100) (h0 : 0 < t.size) : scrimref04_has.f s (i : Int) t = some (t.data.toList.isPrefixOf (s.data.toList.drop i)) := by
  unfold scrimref04_has.f
  rw [w_add (by omega)]
  by_cases h : i + t.size ≤ s.size
  · rw [if_pos (by omega), if_pos (by omega), if_pos (by omega), Int.toNat_natCast, Int.toNat_natCast]
    congr 1
    rw [Bool.eq_iff_iff, beq_iff_eq, List.isPrefixOf_iff_prefix, List.prefix_iff_eq_take, ByteArray.toList_eq, ByteArray.toList_eq, Lib.extract_data, len_size, Nat.add_sub_cancel_left]
    exact eq_comm
  · rw [if_neg (by omega)]
    congr 1
    symm
    rw [Bool.eq_false_iff]
    intro h1
    rw [List.isPrefixOf_iff_prefix] at h1
    have h2 := h1.length_le
    rw [List.length_drop, len_size, len_size] at h2
    omega
theorem letter_f (c : UInt8) : scrimref04_letter.f (c.toNat : Int) = some (ltr c) := by
  have := all_byte (p := fun c => scrimref04_letter.f (c.toNat : Int) == some (ltr c)) (by decide +kernel) c
  simpa using this
theorem inN_of (c : UInt8) : inN c = (ltr c || (decide ((c.toNat : Int) ≥ 48) && decide ((c.toNat : Int) ≤ 57)) || decide ((c.toNat : Int) = 45)) := by
  have := all_byte (p := fun c => inN c == (ltr c || (decide ((c.toNat : Int) ≥ 48) && decide ((c.toNat : Int) ≤ 57)) || decide ((c.toNat : Int) = 45))) (by decide +kernel) c
  simpa using this
/-- How long the name is that stands ahead; 0: there is none. -/
def nmN (l : List UInt8) : Nat := (nmF l).getD 0
theorem nmN_some {l : List UInt8} {k : Nat} (h : nmF l = some k) : nmN l = k := by unfold nmN; rw [h]; rfl
theorem nmN_none {l : List UInt8} (h : nmF l = none) : nmN l = 0 := by unfold nmN; rw [h]; rfl
theorem name_on {s : ByteArray} (hs : s.size ≤ 1000000) {at_ : Nat} : ∀ (d n : Nat), s.size - (at_ + n) = d → 0 < n → at_ + n ≤ s.size →
    Ev (fun k => scrimref04_NameAt.l0 k s (at_ : Int) (n : Int)) (if n + nmLen (s.data.toList.drop (at_ + n)) > 20 then (0 : Int) else ((n + nmLen (s.data.toList.drop (at_ + n)) : Nat) : Int))
  | 0, n, hd, h0, hn => by
    refine Ev.step (fun k => by rw [scrimref04_NameAt.l0]) ?_
    rw [w_add (by omega)]
    refine ev_neg (by omega) ?_
    rw [drop_end (by omega)]
    show Ev (fun _ => _) (if n + 0 > 20 then (0 : Int) else ((n + 0 : Nat) : Int))
    by_cases h : n > 20
    · rw [if_pos (show n + 0 > 20 by omega)]; exact ev_pos (show (n : Int) > 20 by omega) (ev_one rfl)
    · rw [if_neg (show ¬ n + 0 > 20 by omega)]; exact ev_neg (show ¬ (n : Int) > 20 by omega) (ev_one rfl)
  | d + 1, n, hd, h0, hn => by
    refine Ev.step (fun k => by rw [scrimref04_NameAt.l0]) ?_
    rw [w_add (by omega)]
    obtain ⟨c, hc, hb⟩ := drop_at (s := s) (i := at_ + n) (by omega)
    refine ev_pos (by omega) (ev_pos (by omega) ?_)
    rw [hb]
    refine ev_bind1 (letter_f c) ?_
    have hg := name_on hs (at_ := at_) d (n + 1) (by omega) (by omega) (by omega)
    rw [w_one (by omega)]
    have go : inN c = true → Ev (fun k => scrimref04_NameAt.l0 k s (at_ : Int) ((n + 1 : Nat) : Int)) (if n + nmLen (s.data.toList.drop (at_ + n)) > 20 then (0 : Int) else ((n + nmLen (s.data.toList.drop (at_ + n)) : Nat) : Int)) := by
      intro hin
      have e : n + nmLen (s.data.toList.drop (at_ + n)) = n + 1 + nmLen (s.data.toList.drop (at_ + (n + 1))) := by
        rw [hc]
        unfold nmLen
        rw [List.takeWhile_cons, if_pos hin, List.length_cons, show at_ + n + 1 = at_ + (n + 1) by omega]
        omega
      rw [e]
      exact hg
    have stop : inN c = false → Ev (fun _ => if (n : Int) > 20 then some (0 : Int) else some (n : Int)) (if n + nmLen (s.data.toList.drop (at_ + n)) > 20 then (0 : Int) else ((n + nmLen (s.data.toList.drop (at_ + n)) : Nat) : Int)) := by
      intro hin
      have e : nmLen (s.data.toList.drop (at_ + n)) = 0 := by
        rw [hc]
        unfold nmLen
        rw [List.takeWhile_cons, if_neg (by rw [hin]; decide)]
        rfl
      rw [e, Nat.add_zero]
      by_cases h : n > 20
      · rw [if_pos h]; exact ev_pos (by omega) (ev_one rfl)
      · rw [if_neg h]; exact ev_neg (by omega) (ev_one rfl)
    have hin := inN_of c
    cases hl : ltr c with
    | true => exact ev_pos rfl (go (by rw [hin, hl]; rfl))
    | false =>
      refine ev_neg (by decide) (ev_pos (by omega) ?_)
      rw [hl] at hin
      by_cases h1 : (c.toNat : Int) ≥ 48
      · refine ev_pos h1 ?_
        by_cases h2 : (c.toNat : Int) ≤ 57
        · exact ev_pos h2 (go (by rw [hin, decide_eq_true h1, decide_eq_true h2]; rfl))
        · refine ev_neg h2 ?_
          by_cases h3 : (c.toNat : Int) = 45
          · exact ev_pos h3 (go (by rw [hin, decide_eq_true h3, Bool.or_true]))
          · exact ev_neg h3 (stop (by rw [hin, decide_eq_false h2, decide_eq_false h3]; simp))
      · refine ev_neg h1 ?_
        by_cases h3 : (c.toNat : Int) = 45
        · exact ev_pos h3 (go (by rw [hin, decide_eq_true h3, Bool.or_true]))
        · exact ev_neg h3 (stop (by rw [hin, decide_eq_false h1, decide_eq_false h3]; simp))
theorem name_at {s : ByteArray} (hs : s.size ≤ 1000000) (i : Nat) (hi : i ≤ 1000010) : Ev (fun k => scrimref04_NameAt.f k s (i : Int)) ((nmN (s.data.toList.drop i) : Nat) : Int) := by
  unfold scrimref04_NameAt.f
  refine Ev.step (fun k => by rw [scrimref04_NameAt.l0]) ?_
  rw [show (0 : Int) = ((0 : Nat) : Int) from rfl, w_add (by omega), Nat.add_zero]
  by_cases hlt : i < s.size
  · obtain ⟨c, hc, hb⟩ := drop_at (s := s) hlt
    refine ev_pos (by omega) (ev_pos (by omega) ?_)
    rw [hb]
    refine ev_bind1 (letter_f c) ?_
    cases hl : ltr c with
    | true =>
      refine ev_pos rfl ?_
      rw [w_one (by omega)]
      have hg := name_on hs (at_ := i) _ 1 rfl (by omega) (by omega)
      have e : nmLen (s.data.toList.drop i) = 1 + nmLen (s.data.toList.drop (i + 1)) := by
        rw [hc]
        unfold nmLen
        rw [List.takeWhile_cons, if_pos (by rw [inN_of, hl]; rfl), List.length_cons]
        omega
      have e2 : nmN (s.data.toList.drop i) = if 1 + nmLen (s.data.toList.drop (i + 1)) > 20 then 0 else 1 + nmLen (s.data.toList.drop (i + 1)) := by
        unfold nmN nmF
        rw [e, hc, List.headD_cons, hl]
        by_cases h : 1 + nmLen (s.data.toList.drop (i + 1)) > 20
        · rw [if_pos (by omega), if_pos h]; rfl
        · rw [if_neg (by simp; omega), if_neg h]; rfl
      rw [e2]
      have e3 : (((if 1 + nmLen (s.data.toList.drop (i + 1)) > 20 then 0 else 1 + nmLen (s.data.toList.drop (i + 1))) : Nat) : Int) = (if 1 + nmLen (s.data.toList.drop (i + 1)) > 20 then (0 : Int) else ((1 + nmLen (s.data.toList.drop (i + 1)) : Nat) : Int)) := by
        split <;> rfl
      rw [e3]
      exact hg
    | false =>
      have e : nmN (s.data.toList.drop i) = 0 := by
        apply nmN_none
        unfold nmF
        rw [hc, List.headD_cons, if_pos (.inr (.inr hl))]
      rw [e]
      exact ev_neg (by decide) (ev_neg (by omega) (ev_neg (by omega) (ev_one rfl)))
  · have e : nmN (s.data.toList.drop i) = 0 := by
      apply nmN_none
      rw [drop_end hlt]
      rfl
    rw [e]
    exact ev_neg (by omega) (ev_neg (by omega) (ev_one rfl))
/-- Small letters. -/
theorem low_of (c : UInt8) : ((low c).toNat : Int) = if (c.toNat : Int) ≥ 65 then (if (c.toNat : Int) ≤ 90 then ((c.toNat : Int) + 32) % 256 else (c.toNat : Int)) else (c.toNat : Int) := by
  have := all_byte (p := fun c => decide (((low c).toNat : Int) = if (c.toNat : Int) ≥ 65 then (if (c.toNat : Int) ≤ 90 then ((c.toNat : Int) + 32) % 256 else (c.toNat : Int)) else (c.toNat : Int))) (by decide +kernel) c
  exact of_decide_eq_true this
def nats (l : List UInt8) : List Int := l.map fun c => (c.toNat : Int)
theorem str_nats (l : List UInt8) : strOfNums (nats l) = st l := by
  apply ba_ext
  unfold strOfNums nats st
  rw [List.map_map]
  show List.map _ l = l
  conv => rhs; rw [← List.map_id l]
  apply List.map_congr_left
  intro c _
  show UInt8.ofNat (Int.toNat (c.toNat : Int)) = c
  simp
theorem nats_len (l : List UInt8) : (nats l).length = l.length := by unfold nats; simp
theorem nats_snoc (l : List UInt8) (c : UInt8) : nats l ++ [(c.toNat : Int)] = nats (l ++ [c]) := by unfold nats; simp
theorem take_more {l : List UInt8} {i : Nat} {c : UInt8} {r : List UInt8} (h : l.drop i = c :: r) : l.take (i + 1) = l.take i ++ [c] := by
  have hi : i < l.length := by
    rcases Nat.lt_or_ge i l.length with h1 | h1
    · exact h1
    · rw [List.drop_of_length_le h1] at h; cases h
  rw [List.take_succ_eq_append_getElem hi]
  rw [List.drop_eq_getElem_cons hi] at h
  injection h with h1 h2
  rw [h1]
theorem lower_on {s : ByteArray} (hs : s.size ≤ 1000000) : ∀ (d i : Nat), s.size - i = d → i ≤ s.size → Ev (fun k => scrimref04_Lower.l0 k s (nats (lows (s.data.toList.take i))) (i : Int)) (st (lows s.data.toList))
  | 0, i, hd, hi => by
    refine Ev.step (fun k => by rw [scrimref04_Lower.l0]) ?_
    refine ev_neg (by omega) (ev_one ?_)
    rw [List.take_of_length_le (by rw [len_size]; omega), str_nats]
  | d + 1, i, hd, hi => by
    refine Ev.step (fun k => by rw [scrimref04_Lower.l0]) ?_
    obtain ⟨c, hc, hb⟩ := drop_at (s := s) (i := i) (by omega)
    refine ev_pos (by omega) (ev_pos (by omega) ?_)
    have hg := lower_on hs d (i + 1) (by omega) (by omega)
    have e : nats (lows (s.data.toList.take (i + 1))) = nats (lows (s.data.toList.take i)) ++ [((low c).toNat : Int)] := by
      rw [take_more hc, nats_snoc]
      unfold lows
      rw [List.map_append]
      rfl
    rw [e, low_of] at hg
    have hlen : (nats (lows (s.data.toList.take i))).length < 140737488355328 := by
      rw [nats_len]
      unfold lows
      rw [List.length_map, List.length_take]
      omega
    rw [hb, w_one (by omega)]
    by_cases h1 : (c.toNat : Int) ≥ 65
    · rw [if_pos h1] at hg
      refine ev_pos h1 ?_
      by_cases h2 : (c.toNat : Int) ≤ 90
      · rw [if_pos h2] at hg
        exact ev_pos h2 (ev_pos hlen hg)
      · rw [if_neg h2] at hg
        exact ev_neg h2 (ev_pos hlen hg)
    · rw [if_neg h1] at hg
      exact ev_neg h1 (ev_pos hlen hg)
theorem lower_f {s : ByteArray} (hs : s.size ≤ 1000000) : Ev (fun k => scrimref04_Lower.f k s) (st (lows s.data.toList)) := lower_on hs _ 0 rfl (Nat.zero_le _)
/-- Blanks. -/
theorem bl_of (c : UInt8) : bl c = (decide ((c.toNat : Int) = 32) || decide ((c.toNat : Int) = 9) || decide ((c.toNat : Int) = 10) || decide ((c.toNat : Int) = 13)) := by
  have := all_byte (p := fun c => bl c == (decide ((c.toNat : Int) = 32) || decide ((c.toNat : Int) = 9) || decide ((c.toNat : Int) = 10) || decide ((c.toNat : Int) = 13))) (by decide +kernel) c
  simpa using this
theorem blanks_on {s : ByteArray} (hs : s.size ≤ 1000000) {at_ : Nat} (hat : at_ ≤ 1000010) : ∀ (d n : Nat), s.size - (at_ + n) = d → n ≤ 1000000 →
    Ev (fun k => scrimref04_blanks.l0 k s (at_ : Int) (n : Int)) ((n + spLen (s.data.toList.drop (at_ + n)) : Nat) : Int)
  | 0, n, hd, hn => by
    refine Ev.step (fun k => by rw [scrimref04_blanks.l0]) ?_
    rw [w_add (by omega)]
    refine ev_neg (by omega) (ev_one ?_)
    rw [drop_end (by omega)]
    rfl
  | d + 1, n, hd, hn => by
    refine Ev.step (fun k => by rw [scrimref04_blanks.l0]) ?_
    rw [w_add (by omega)]
    obtain ⟨c, hc, hb⟩ := drop_at (s := s) (i := at_ + n) (by omega)
    refine ev_pos (by omega) (ev_pos (by omega) ?_)
    rw [hb, w_one (by omega)]
    have hg := blanks_on hs hat d (n + 1) (by omega) (by omega)
    have hbl := bl_of c
    have go : bl c = true → Ev (fun k => scrimref04_blanks.l0 k s (at_ : Int) ((n + 1 : Nat) : Int)) ((n + spLen (s.data.toList.drop (at_ + n)) : Nat) : Int) := by
      intro hin
      have e : n + spLen (s.data.toList.drop (at_ + n)) = n + 1 + spLen (s.data.toList.drop (at_ + (n + 1))) := by
        rw [hc]
        unfold spLen
        rw [List.takeWhile_cons, if_pos hin, List.length_cons, show at_ + n + 1 = at_ + (n + 1) by omega]
        omega
      rw [e]
      exact hg
    by_cases h1 : (c.toNat : Int) = 32
    · exact ev_pos h1 (go (by rw [hbl, decide_eq_true h1]; simp))
    refine ev_neg h1 ?_
    by_cases h2 : (c.toNat : Int) = 9
    · exact ev_pos h2 (go (by rw [hbl, decide_eq_true h2]; simp))
    refine ev_neg h2 ?_
    by_cases h3 : (c.toNat : Int) = 10
    · exact ev_pos h3 (go (by rw [hbl, decide_eq_true h3]; simp))
    refine ev_neg h3 ?_
    by_cases h4 : (c.toNat : Int) = 13
    · exact ev_pos h4 (go (by rw [hbl, decide_eq_true h4]; simp))
    refine ev_neg h4 (ev_one ?_)
    have e : spLen (s.data.toList.drop (at_ + n)) = 0 := by
      rw [hc]
      unfold spLen
      rw [List.takeWhile_cons, if_neg (by rw [hbl, decide_eq_false h1, decide_eq_false h2, decide_eq_false h3, decide_eq_false h4]; decide)]
      rfl
    rw [e]
    rfl
theorem blanks_at {s : ByteArray} (hs : s.size ≤ 1000000) (i : Nat) (hi : i ≤ 1000010) : Ev (fun k => scrimref04_blanks.f k s (i : Int)) ((spLen (s.data.toList.drop i) : Nat) : Int) := by
  have h := blanks_on hs hi _ 0 rfl (by omega)
  rw [Nat.add_zero, Nat.zero_add] at h
  exact h
/-- Attributes of a name. -/
theorem attr_on {l : List S70} (hl : l.length ≤ 1000000) (key : ByteArray) : ∀ (d i : Nat), l.length - i = d → i ≤ l.length → ∃ v, Ev (fun k => scrimref04_Attr.l0 k l key (i : Int)) (v, (l.drop i).any fun x => eqS x.f0 key)
  | 0, i, hd, hi => by
    refine ⟨⟨#[]⟩, Ev.step (fun k => by rw [scrimref04_Attr.l0]) ?_⟩
    refine ev_neg (by omega) (ev_one ?_)
    rw [List.drop_of_length_le (by omega)]
    rfl
  | d + 1, i, hd, hi => by
    have hlt : i < l.length := by omega
    obtain ⟨v, hg⟩ := attr_on hl key d (i + 1) (by omega) (by omega)
    have e : rd_T70 l (i : Int) = l[i] := by
      unfold rd_T70
      rw [Int.toNat_natCast, List.getD_eq_getElem?_getD, List.getElem?_eq_getElem hlt]
      rfl
    have hd2 := List.drop_eq_getElem_cons hlt
    by_cases h : (l[i].f0).toList = key.toList
    · refine ⟨l[i].f1, Ev.step (fun k => by rw [scrimref04_Attr.l0]) ?_⟩
      rw [e]
      refine ev_pos (by omega) (ev_pos (by omega) (ev_pos h (ev_one ?_)))
      rw [hd2, List.any_cons]
      unfold eqS
      rw [decide_eq_true h, Bool.true_or]
    · refine ⟨v, Ev.step (fun k => by rw [scrimref04_Attr.l0]) ?_⟩
      rw [e]
      refine ev_pos (by omega) (ev_pos (by omega) (ev_neg h ?_))
      rw [w_one (by omega), hd2, List.any_cons]
      unfold eqS
      rw [decide_eq_false h, Bool.false_or]
      exact hg
theorem attr_f {l : List S70} (hl : l.length ≤ 1000000) (key : ByteArray) : ∃ v, Ev (fun k => scrimref04_Attr.f k l key) (v, l.any fun x => eqS x.f0 key) := by
  obtain ⟨v, h⟩ := attr_on hl key _ 0 rfl (Nat.zero_le _)
  exact ⟨v, h⟩
/-- What is signed. -/
theorem st_app (a : List UInt8) (b : List UInt8) : st a ++ (⟨b.toArray⟩ : ByteArray) = st (a ++ b) := by
  apply ba_ext
  simp [st]
theorem sign_on {s : ByteArray} (hs : s.size ≤ 100000) (q : Bool) : ∀ (d i : Nat), s.size - i = d → i ≤ s.size → Ev (fun k => scrimref04_Sign.l0 k s q (st (signF (sgn q) (s.data.toList.take i))) (i : Int)) (st (signF (sgn q) s.data.toList))
  | 0, i, hd, hi => by
    refine Ev.step (fun k => by rw [scrimref04_Sign.l0]) ?_
    refine ev_neg (by omega) (ev_one ?_)
    rw [List.take_of_length_le (by rw [len_size]; omega)]
  | d + 1, i, hd, hi => by
    refine Ev.step (fun k => by rw [scrimref04_Sign.l0]) ?_
    obtain ⟨c, hc, hb⟩ := drop_at (s := s) (i := i) (by omega)
    refine ev_pos (by omega) (ev_pos (by omega) ?_)
    have hg := sign_on hs q d (i + 1) (by omega) (by omega)
    have e : signF (sgn q) (s.data.toList.take (i + 1)) = signF (sgn q) (s.data.toList.take i) ++ sg (sgn q) c := by
      rw [take_more hc]
      unfold signF
      rw [List.flatMap_append]
      simp
    rw [e] at hg
    have hlen : (st (signF (sgn q) (s.data.toList.take i))).size ≤ 6000000 := by
      have h := sign_len (np := sgn q) (by cases q <;> simp [sgn]) (s.data.toList.take i)
      rw [st_size]
      rw [List.length_take, len_size] at h
      omega
    have hnp : sgn q ≤ 4 := by cases q <;> simp [sgn]
    have hnp3 : 3 ≤ sgn q := by cases q <;> simp [sgn]
    have x1 : s.extract i (i + 1) = (⟨[c].toArray⟩ : ByteArray) := by
      rw [ext_st, hc, Nat.add_sub_cancel_left]
      rfl
    have rest : ∀ (hc0 : ∀ a, a < sgn q → c.toNat ≠ oby a), Ev (fun k => if (i : Int) ≤ ((i + 1 : Nat) : Int) then (if ((i + 1 : Nat) : Int) ≤ (s.size : Int) then (if (st (signF (sgn q) (s.data.toList.take i))).size + (s.extract ((i : Int)).toNat (((i + 1 : Nat) : Int)).toNat).size ≤ 9223372036854775807 then (scrimref04_Sign.l0 k s q ((st (signF (sgn q) (s.data.toList.take i))) ++ (s.extract ((i : Int)).toNat (((i + 1 : Nat) : Int)).toNat)) ((i + 1 : Nat) : Int)) else (none)) else (none)) else (none)) (st (signF (sgn q) s.data.toList)) := by
      intro hc0
      rw [sg_none hc0] at hg
      refine ev_pos (by omega) (ev_pos (by omega) ?_)
      rw [Int.toNat_natCast, Int.toNat_natCast, x1, st_app]
      refine ev_pos ?_ hg
      have : (⟨[c].toArray⟩ : ByteArray).size = 1 := rfl
      rw [this]
      omega
    have sgi : ∀ (a : Nat), a < sgn q → (c.toNat : Int) = (oby a : Int) → sg (sgn q) c = (ns a).data.toList := fun a ha h => sg_some hnp ha (by omega)
    rw [hb, w_one (by omega)]
    by_cases h0 : (c.toNat : Int) = 38
    · refine ev_pos h0 (ev_pos (by omega) ?_)
      rw [sgi 0 (by omega) h0] at hg
      rw [show (⟨#[38, 97, 109, 112, 59]⟩ : ByteArray) = ⟨(ns 0).data.toList.toArray⟩ from rfl, st_app]
      exact hg
    refine ev_neg h0 ?_
    by_cases h1 : (c.toNat : Int) = 60
    · refine ev_pos h1 (ev_pos (by omega) ?_)
      rw [sgi 1 (by omega) h1] at hg
      rw [show (⟨#[38, 108, 116, 59]⟩ : ByteArray) = ⟨(ns 1).data.toList.toArray⟩ from rfl, st_app]
      exact hg
    refine ev_neg h1 ?_
    by_cases h2 : (c.toNat : Int) = 62
    · refine ev_pos h2 (ev_pos (by omega) ?_)
      rw [sgi 2 (by omega) h2] at hg
      rw [show (⟨#[38, 103, 116, 59]⟩ : ByteArray) = ⟨(ns 2).data.toList.toArray⟩ from rfl, st_app]
      exact hg
    refine ev_neg h2 ?_
    by_cases h3 : (c.toNat : Int) = 34
    · refine ev_pos h3 ?_
      cases q with
      | true =>
        refine ev_pos rfl (ev_pos (by omega) ?_)
        rw [sgi 3 (by decide) h3] at hg
        rw [show (⟨#[38, 113, 117, 111, 116, 59]⟩ : ByteArray) = ⟨(ns 3).data.toList.toArray⟩ from rfl, st_app]
        exact hg
      | false =>
        refine ev_neg (by decide) (rest fun a ha => ?_)
        have ha3 : a = 0 ∨ a = 1 ∨ a = 2 := by simp [sgn] at ha; omega
        rcases ha3 with rfl | rfl | rfl
        · show _ ≠ 38; omega
        · show _ ≠ 60; omega
        · show _ ≠ 62; omega
    · refine ev_neg h3 (rest fun a ha => ?_)
      have ha4 : a = 0 ∨ a = 1 ∨ a = 2 ∨ a = 3 := by omega
      rcases ha4 with rfl | rfl | rfl | rfl
      · show _ ≠ 38; omega
      · show _ ≠ 60; omega
      · show _ ≠ 62; omega
      · show _ ≠ 34; omega
theorem sign_f {s : ByteArray} (hs : s.size ≤ 100000) (q : Bool) : Ev (fun k => scrimref04_Sign.f k s q) (st (signF (sgn q) s.data.toList)) := by
  have h := sign_on hs q _ 0 rfl (Nat.zero_le _)
  exact h
end Go.Proofs.YtkjgnkmnngaioaaGreat.Q
