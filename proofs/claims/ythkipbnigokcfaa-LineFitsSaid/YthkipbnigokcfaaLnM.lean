/- LineMoves, plainly: lines that are moved are the same lines; in the middle each is moved by half as much as to the right, and to the left by nothing. -/
import Derived.Test.YthkipbnigokcfaaLnG
import Derived.Test.YthkipbnigokcfaaQxMvA
namespace Go.Proofs.Ythkipbnigokcfaa.Q
open Go.RowKit Go.IntWalk Go.Proofs.Ythkipbnigokcfaa.Mem Go.Proofs.YthkipbnigokcfaaW.PrintWords Go.Proofs.YthkipbnigokcfaaW.PrintLast Go.Proofs.YthkipbnigokcfaaW.PrintMore
set_option linter.unusedVariables false
set_option linter.unusedSimpArgs false

/-- A run to the left: `wd k` is how wide the line is that piece `k` stands in. -/
structure Sm (n : Nat) (s : St) (wd : Nat → Int) : Prop where
  len : s.out.length = n
  op : s.op ≤ n
  wide : In s.wide
  ln1 : ∀ k, k < n → s.op ≤ k → (gt s k).f1 = s.many
  ln2 : ∀ k, k < n → k < s.op → (gt s k).f1 < s.many
  none_ : s.op = n → s.wide = 0
  last : s.op < n → s.wide = (gt s (n - 1)).f2.f0 + (gt s (n - 1)).f2.f2
  inx : ∀ k, k < n → In (gt s k).f2.f0
  first : ∀ k, k < n → (k = 0 ∨ (gt s (k - 1)).f1 ≠ (gt s k).f1) → (gt s k).f2.f0 = 0
  lastw : ∀ k, k < s.op → (k + 1 = s.op ∨ (gt s (k + 1)).f1 ≠ (gt s k).f1) → wd k = (gt s k).f2.f0 + (gt s k).f2.f2
  samew : ∀ k, k + 1 < s.op → (gt s (k + 1)).f1 = (gt s k).f1 → wd (k + 1) = wd k
/-- Another run, whose lines are moved. -/
structure Mv (room A : Int) (n : Nat) (s t : St) (wd : Nat → Int) : Prop where
  len : t.out.length = n
  op : t.op = s.op
  many : t.many = s.many
  wide : t.wide = s.wide
  high : t.high = s.high
  top : t.top = s.top
  same : ∀ k, k < n → (gt t k).f1 = (gt s k).f1 ∧ (gt t k).f2.f1 = (gt s k).f2.f1 ∧ (gt t k).f2.f2 = (gt s k).f2.f2 ∧ (gt t k).f2.f3 = (gt s k).f2.f3
  opened : ∀ k, k < n → s.op ≤ k → (gt t k).f2.f0 = (gt s k).f2.f0
  moved : ∀ k, k < s.op → (gt t k).f2.f0 = (gt s k).f2.f0 + byOf room A (wd k)

theorem one_sm {n : Nat} {s : St} {wd : Nat → Int} {i : Int} {p : Pc} (h : Sm n s wd) (hp : okP p) (hs : (s.one i p).rough = false) : Sm (n + 1) (s.one i p) wd := by
  obtain ⟨s1, s2, s3⟩ := one_smooth hs
  have hlen := h.len
  have hop := h.op
  have w1 : In (s.w1 p) ∧ (s.op = n → s.w1 p = 0) := by
    unfold St.w1
    split
    · rename_i g
      refine ⟨addV_ok h.wide hp.2.2, fun e => ?_⟩
      unfold St.gap at g
      rw [hlen, decide_eq_true_eq] at g
      omega
    · exact ⟨h.wide, h.none_⟩
  have hw : (s.one i p).wide = s.w1 p + p.f1 := addV_exact w1.1 hp.1 s2
  have go : ∀ k, k < n → gt (s.one i p) k = gt s k := fun k hk => one_gt_old (by omega)
  have gn : gt (s.one i p) n = ⟨i, s.many, ⟨s.w1 p, 0, p.f1, p.f2⟩⟩ := one_gt_new (by omega)
  have ho : (s.one i p).op = s.op := rfl
  have hm : (s.one i p).many = s.many := rfl
  refine { len := by simp [St.one, hlen], op := by rw [ho]; omega, wide := addV_ok w1.1 hp.1, ln1 := fun k hk hk' => ?_, ln2 := fun k hk hk' => ?_, none_ := fun e => by rw [ho] at e; omega, last := fun _ => ?_, inx := fun k hk => ?_, first := fun k hk hf => ?_, lastw := fun k hk hf => ?_, samew := fun k hk he => ?_ }
  · rw [hm]
    rcases Nat.lt_or_ge k n with h1 | h1
    · rw [go k h1]; exact h.ln1 k h1 (by rw [ho] at hk'; exact hk')
    · obtain rfl : k = n := by omega
      rw [gn]
  · rw [ho] at hk'
    rw [hm, go k (by omega)]
    exact h.ln2 k (by omega) hk'
  · rw [Nat.add_sub_cancel, gn]; exact hw
  · rcases Nat.lt_or_ge k n with h1 | h1
    · rw [go k h1]; exact h.inx k h1
    · obtain rfl : k = n := by omega
      rw [gn]; exact w1.1
  · rcases Nat.lt_or_ge k n with h1 | h1
    · rw [go k h1]
      refine h.first k h1 ?_
      rcases hf with hf | hf
      · exact .inl hf
      · rw [go k h1, go (k - 1) (by omega)] at hf; exact .inr hf
    · obtain rfl : k = n := by omega
      rw [gn]
      show s.w1 p = 0
      rcases Nat.lt_or_ge s.op k with h2 | h2
      · rcases hf with hf | hf
        · omega
        · rw [gn, go (k - 1) (by omega), h.ln1 (k - 1) (by omega) (by omega)] at hf
          exact (hf rfl).elim
      · exact w1.2 (by omega)
  · rw [ho] at hk hf
    rw [go k (by omega)]
    refine h.lastw k hk ?_
    rcases hf with hf | hf
    · exact .inl hf
    · rcases Nat.lt_or_ge (k + 1) s.op with h1 | h1
      · rw [go k (by omega), go (k + 1) (by omega)] at hf; exact .inr hf
      · exact .inl (by omega)
  · rw [ho] at hk
    rw [go k (by omega), go (k + 1) (by omega)] at he
    exact h.samew k hk he
theorem one_mv {room A : Int} {n : Nat} {s t : St} {wd : Nat → Int} {i : Int} {p : Pc} (hs : Sm n s wd) (h : Mv room A n s t wd) : Mv room A (n + 1) (s.one i p) (t.one i p) wd := by
  have hlen := hs.len
  have hlt := h.len
  have hop := hs.op
  have hg : t.gap = s.gap := by unfold St.gap; rw [h.op, hlt, hlen]
  have hw1 : t.w1 p = s.w1 p := by unfold St.w1; rw [hg, h.wide]
  have go : ∀ k, k < n → gt (s.one i p) k = gt s k := fun k hk => one_gt_old (by omega)
  have gn : gt (s.one i p) n = ⟨i, s.many, ⟨s.w1 p, 0, p.f1, p.f2⟩⟩ := one_gt_new (by omega)
  have go' : ∀ k, k < n → gt (t.one i p) k = gt t k := fun k hk => one_gt_old (by omega)
  have gn' : gt (t.one i p) n = ⟨i, t.many, ⟨t.w1 p, 0, p.f1, p.f2⟩⟩ := one_gt_new (by omega)
  rw [hw1, h.many] at gn'
  have ho : (s.one i p).op = s.op := rfl
  refine { len := by simp [St.one, hlt], op := h.op, many := h.many, wide := ?_, high := ?_, top := h.top, same := fun k hk => ?_, opened := fun k hk hk' => ?_, moved := fun k hk => ?_ }
  · show addV (t.w1 p) p.f1 = addV (s.w1 p) p.f1; rw [hw1]
  · show mxI t.high p.f2 = mxI s.high p.f2; rw [h.high]
  · rcases Nat.lt_or_ge k n with h1 | h1
    · rw [go k h1, go' k h1]; exact h.same k h1
    · obtain rfl : k = n := by omega
      rw [gn, gn']; exact ⟨rfl, rfl, rfl, rfl⟩
  · rw [ho] at hk'
    rcases Nat.lt_or_ge k n with h1 | h1
    · rw [go k h1, go' k h1]; exact h.opened k h1 hk'
    · obtain rfl : k = n := by omega
      rw [gn, gn']
  · rw [ho] at hk
    rw [go k (by omega), go' k (by omega)]; exact h.moved k hk
theorem put_sm {room : Int} {wd : Nat → Int} : ∀ (r : List Pc) (n : Nat) (s : St) (i : Int), Sm n s wd → (∀ p ∈ r, okP p) → (s.put i r).rough = false →
    Sm (n + r.length) (s.put i r) wd ∧ ∀ A t, Mv room A n s t wd → Mv room A (n + r.length) (s.put i r) (t.put i r) wd
  | [], n, s, i, h, _, _ => ⟨h, fun _ _ h => h⟩
  | p :: r, n, s, i, h, hp, hs => by
    have h1 := one_sm (i := i) h (hp p (by simp)) (put_smooth r _ _ hs)
    have h2 := put_sm (room := room) r (n + 1) (s.one i p) (i + 1) h1 (fun q hq => hp q (by simp [hq])) hs
    have e : n + (p :: r).length = n + 1 + r.length := by simp; omega
    rw [e]
    exact ⟨h2.1, fun A t ht => h2.2 A _ (one_mv h ht)⟩
theorem addV_zero {a : Int} (h : In a) : addV a 0 = a := by
  rw [(addV_in h in0).1]; unfold In at h; omega
theorem by_left (room wide : Int) : byOf room 0 wide = 0 := by unfold byOf; rw [if_neg (by omega), if_neg (by omega)]
theorem fin_sm {room : Int} {n : Nat} {s : St} {wd : Nat → Int} (hr : In room) (h : Sm n s wd) (ho : s.op < n) :
    ∃ wd', Sm n (s.fin room 0) wd' ∧ ∀ A t, Mv room A n s t wd → (t.fin room A).rough = false → Mv room A n (s.fin room 0) (t.fin room A) wd' := by
  have hlen := h.len
  obtain ⟨e1, e2, e3, e4, e5, go, gn⟩ := fin_eq (s := s) (room := room) (align := 0) (by omega)
  rw [hlen] at e1 gn
  rw [by_left] at gn
  have gX : ∀ k, k < n → (gt (s.fin room 0) k).f1 = (gt s k).f1 ∧ (gt (s.fin room 0) k).f2.f0 = (gt s k).f2.f0 ∧ (gt (s.fin room 0) k).f2.f2 = (gt s k).f2.f2 := fun k hk => by
    rcases Nat.lt_or_ge k s.op with h1 | h1
    · rw [go k h1]; exact ⟨rfl, rfl, rfl⟩
    · rw [gn k h1 hk]; exact ⟨rfl, addV_zero (h.inx k hk), rfl⟩
  have hm : ∀ k, k < n → (gt s k).f1 < s.many + 1 := fun k hk => by
    rcases Nat.lt_or_ge k s.op with h1 | h1
    · have := h.ln2 k hk h1; omega
    · have := h.ln1 k hk h1; omega
  refine ⟨fun k => if k < s.op then wd k else s.wide, ?_, fun A t ht hts => ?_⟩
  · refine { len := by rw [fin_len _ _ _ (by omega)]; exact hlen, op := by rw [e1]; omega, wide := by rw [e3]; exact in0, ln1 := fun k hk hk' => by rw [e1] at hk'; omega, ln2 := fun k hk _ => by rw [(gX k hk).1, e2]; exact hm k hk,
             none_ := fun _ => e3, last := fun hl => by rw [e1] at hl; omega, inx := fun k hk => by rw [(gX k hk).2.1]; exact h.inx k hk, first := fun k hk hf => ?_, lastw := fun k hk hf => ?_, samew := fun k hk he => ?_ }
    · rw [(gX k hk).2.1]
      refine h.first k hk ?_
      rcases hf with hf | hf
      · exact .inl hf
      · rw [(gX k hk).1, (gX (k - 1) (by omega)).1] at hf; exact .inr hf
    · rw [e1] at hk hf
      rw [(gX k hk).2.1, (gX k hk).2.2]
      show (if k < s.op then wd k else s.wide) = _
      rcases Nat.lt_or_ge k s.op with h1 | h1
      · rw [if_pos h1]
        refine h.lastw k h1 ?_
        rcases Nat.lt_or_ge (k + 1) s.op with h2 | h2
        · rcases hf with hf | hf
          · omega
          · rw [(gX k hk).1, (gX (k + 1) (by omega)).1] at hf; exact .inr hf
        · exact .inl (by omega)
      · rw [if_neg (by omega)]
        have h3 : k = n - 1 := by
          rcases hf with hf | hf
          · omega
          · rcases Nat.lt_or_ge (k + 1) n with h2 | h2
            · rw [(gX k hk).1, (gX (k + 1) h2).1, h.ln1 k hk h1, h.ln1 (k + 1) h2 (by omega)] at hf
              exact (hf rfl).elim
            · omega
        rw [h3]; exact h.last ho
    · rw [e1] at hk
      rw [(gX k (by omega)).1, (gX (k + 1) hk).1] at he
      show (if k + 1 < s.op then wd (k + 1) else s.wide) = if k < s.op then wd k else s.wide
      rcases Nat.lt_or_ge k s.op with h1 | h1
      · rcases Nat.lt_or_ge (k + 1) s.op with h2 | h2
        · rw [if_pos h1, if_pos h2]; exact h.samew k h2 he
        · have a := h.ln2 k (by omega) h1
          have b := h.ln1 (k + 1) hk h2
          omega
      · rw [if_neg (by omega), if_neg (by omega)]
  · have hlt := ht.len
    have hop' := ht.op
    obtain ⟨f1, f2, f3, f4, f5, go', gn'⟩ := fin_eq (s := t) (room := room) (align := A) (by omega)
    obtain ⟨-, sm, -⟩ := fin_smooth (by omega) hts
    rw [hlt] at f1 gn' sm
    have hw := ht.wide
    have hb := by_in (align := A) hr h.wide
    rw [hw] at gn' sm
    refine { len := by rw [fin_len _ _ _ (by omega)]; exact hlt, op := by rw [f1, e1], many := by rw [f2, e2, ht.many], wide := by rw [f3, e3], high := by rw [f4, e4], top := by rw [f5, e5, ht.top, ht.high], same := fun k hk => ?_, opened := fun k hk hk' => by rw [e1] at hk'; omega, moved := fun k hk => ?_ }
    · obtain ⟨q1, q2, q3, q4⟩ := ht.same k hk
      rcases Nat.lt_or_ge k s.op with h1 | h1
      · rw [go k h1, go' k (by omega)]; exact ht.same k hk
      · rw [gn k h1 hk, gn' k (by omega) hk]
        refine ⟨q1, ?_, q3, q4⟩
        show addV t.top (t.high - _) = addV s.top (s.high - _)
        rw [ht.top, ht.high, q4]
    · rw [e1] at hk
      rw [(gX k hk).2.1]
      show _ = _ + byOf room A (if k < s.op then wd k else s.wide)
      rcases Nat.lt_or_ge k s.op with h1 | h1
      · rw [if_pos h1, go' k (by omega)]; exact ht.moved k h1
      · rw [if_neg (by omega), gn' k (by omega) hk]
        have h2 := sm k (by omega) hk
        unfold mvR at h2
        simp only [Bool.or_eq_false_iff, Bool.not_eq_false'] at h2
        have hx : In (gt t k).f2.f0 := by rw [ht.opened k hk h1]; exact h.inx k hk
        show addV (gt t k).f2.f0 _ = _
        rw [addV_exact hx hb h2.1, ht.opened k hk h1]
theorem row_sm {room : Int} {n : Nat} {s : St} {wd : Nat → Int} {i : Int} {r : List Pc} (hr : In room) (h : Sm n s wd) (hp : ∀ p ∈ r, okP p) (hs : (s.row room 0 i r).rough = false) :
    ∃ wd', Sm (n + r.length) (s.row room 0 i r) wd' ∧ ∀ A t, Mv room A n s t wd → (t.row room A i r).rough = false → Mv room A (n + r.length) (s.row room 0 i r) (t.row room A i r) wd' := by
  have hlen := h.len
  have key : ∀ A t, Mv room A n s t wd → ((t.after r > room ∧ t.op < t.out.length) ↔ (s.after r > room ∧ s.op < s.out.length)) := fun A t ht => by
    have hlt := ht.len
    have hg : t.gap = s.gap := by unfold St.gap; rw [ht.op, hlt, hlen]
    unfold St.after
    rw [hg, ht.wide, ht.op, hlt, hlen]
  unfold St.row at hs ⊢
  by_cases hc : s.after r > room ∧ s.op < s.out.length
  · rw [if_pos hc] at hs ⊢
    obtain ⟨wd', h1, h2⟩ := fin_sm hr h (by omega)
    obtain ⟨h3, h4⟩ := put_sm (room := room) r n _ i h1 hp hs
    refine ⟨wd', h3, fun A t ht hts => ?_⟩
    rw [if_pos ((key A t ht).2 hc)] at hts ⊢
    exact h4 A _ (h2 A t ht (put_smooth _ _ _ hts))
  · rw [if_neg hc] at hs ⊢
    obtain ⟨h3, h4⟩ := put_sm (room := room) r n _ i h hp hs
    refine ⟨wd, h3, fun A t ht hts => ?_⟩
    rw [if_neg (fun h => hc ((key A t ht).1 h))] at hts ⊢
    exact h4 A _ ht
theorem rows_sm {room : Int} (hr : In room) : ∀ (N n : Nat) (s : St) (i : Int) (q : List Pc) (wd : Nat → Int), q.length ≤ N → Sm n s wd → (∀ p ∈ q, okP p) → (St.rows room 0 N s i q).rough = false →
    ∃ wd', Sm (n + q.length) (St.rows room 0 N s i q) wd' ∧ ∀ A t, Mv room A n s t wd → (St.rows room A N t i q).rough = false → Mv room A (n + q.length) (St.rows room 0 N s i q) (St.rows room A N t i q) wd'
  | 0, n, s, i, q, wd, hq, h, _, _ => by
    obtain rfl : q = [] := List.length_eq_zero_iff.1 (by omega)
    exact ⟨wd, h, fun A t ht _ => ht⟩
  | N + 1, n, s, i, [], wd, _, h, _, _ => ⟨wd, h, fun A t ht _ => ht⟩
  | N + 1, n, s, i, p :: r, wd, hq, h, hp, hs => by
    have hrl := rest_le r
    have hq' : r.length ≤ N := by simpa using hq
    have hpr : ∀ x ∈ p :: r.take (rest r), okP x := fun x hx => hp x (by
      rcases List.mem_cons.1 hx with rfl | hx
      · simp
      · exact List.mem_cons_of_mem _ (List.mem_of_mem_take hx))
    obtain ⟨wd1, h1, k1⟩ := row_sm (i := i) hr h hpr (rows_smooth room 0 N _ _ _ hs)
    obtain ⟨wd2, h2, k2⟩ := rows_sm hr N _ _ (i + 1 + rest r) (r.drop (rest r)) wd1 (by simp; omega) h1 (fun x hx => hp x (List.mem_cons_of_mem _ (List.mem_of_mem_drop hx))) hs
    have e : n + (p :: r.take (rest r)).length + (r.drop (rest r)).length = n + (p :: r).length := by simp; omega
    rw [e] at h2 k2
    exact ⟨wd2, h2, fun A t ht hts => k2 A _ (k1 A t ht (rows_smooth room A N _ _ _ hts)) hts⟩
theorem fill_sm {l : List Pc} {room : Int} (hr : In room) (hp : ∀ p ∈ l, okP p) (hs : (fillS l room 0).rough = false) :
    ∃ wd, Sm l.length (fillS l room 0) wd ∧ ∀ A, (fillS l room A).rough = false → Mv room A l.length (fillS l room 0) (fillS l room A) wd := by
  have h0 : Sm 0 st0 (fun _ => 0) := { len := rfl, op := Nat.le_refl _, wide := in0, ln1 := fun k h => absurd h (Nat.not_lt_zero _), ln2 := fun k h => absurd h (Nat.not_lt_zero _), none_ := fun _ => rfl, last := fun h => absurd h (Nat.lt_irrefl 0), inx := fun k h => absurd h (Nat.not_lt_zero _), first := fun k h => absurd h (Nat.not_lt_zero _), lastw := fun k h => absurd h (Nat.not_lt_zero _), samew := fun k h => absurd h (Nat.not_lt_zero _) }
  obtain ⟨wd, h1, k1⟩ := rows_sm hr l.length 0 st0 0 l _ (Nat.le_refl _) h0 hp (fin_rough (show ((St.rows room 0 l.length st0 0 l).fin room 0).rough = false from hs))
  rw [Nat.zero_add] at h1 k1
  have m0 : ∀ A, Mv room A 0 st0 st0 (fun _ => 0) := fun A => { len := rfl, op := rfl, many := rfl, wide := rfl, high := rfl, top := rfl, same := fun k h => absurd h (Nat.not_lt_zero _), opened := fun k h => absurd h (Nat.not_lt_zero _), moved := fun k h => absurd h (Nat.not_lt_zero _) }
  have k2 : ∀ A, (fillS l room A).rough = false → Mv room A l.length (St.rows room 0 l.length st0 0 l) (St.rows room A l.length st0 0 l) wd := fun A hA => k1 A st0 (m0 A) (fin_rough (show ((St.rows room A l.length st0 0 l).fin room A).rough = false from hA))
  have hlen := h1.len
  have hop := h1.op
  by_cases ho : (St.rows room 0 l.length st0 0 l).op < l.length
  · obtain ⟨wd', h2, k3⟩ := fin_sm hr h1 ho
    exact ⟨wd', h2, fun A hA => k3 A _ (k2 A hA) hA⟩
  · have e0 : fillS l room 0 = St.rows room 0 l.length st0 0 l := by unfold fillS St.fin; rw [if_pos (by omega)]
    refine ⟨wd, by rw [e0]; exact h1, fun A hA => ?_⟩
    have hm := k2 A hA
    have hl' := hm.len
    have ho' := hm.op
    have eA : fillS l room A = St.rows room A l.length st0 0 l := by unfold fillS St.fin; rw [if_pos (by omega)]
    rw [e0, eA]; exact hm

/-! ### The law -/
theorem tdiv2 {a : Int} (h0 : 0 ≤ a) : Int.tdiv a 2 = a / 2 := Int.tdiv_eq_ediv_of_nonneg h0
set_option maxHeartbeats 2000000 in
theorem mv_l0 {room : Int} {n : Nat} {s t u : St} {wd : Nat → Int} (hn : n ≤ 200) (hr : In room) (hw : ∀ k, k < n → In (gt s k).f2.f2) (h : Sm n s wd) (hop : s.op = n) (ht : Mv room 1 n s t wd) (hu : Mv room 2 n s u wd) (htx : ∀ k, k < n → In (gt t k).f2.f0) (hux : ∀ k, k < n → In (gt u k).f2.f0) :
    ∀ (d j f : Nat), n - j ≤ d → j ≤ n → (j < n → f ≤ j ∧ (f = 0 ∨ (gt s (f - 1)).f1 ≠ (gt s f).f1) ∧ (∀ k, f ≤ k → k < j → (gt s k).f1 = (gt s f).f1)) →
    Ev (fun k => scrimlaw16_LineMoves.l0 k room s.out t.out u.out (f : Int) (n : Int) (j : Int)) true
  | d, j, f, hd, hj, hf => by
    by_cases hlt : j < n
    · rcases d with _ | d
      · omega
      obtain ⟨f1, f2, f3⟩ := hf hlt
      -- the line's first piece
      have key : ∀ g : Nat, g ≤ j → (g = 0 ∨ (gt s (g - 1)).f1 ≠ (gt s g).f1) → (∀ k, g ≤ k → k < j + 1 → (gt s k).f1 = (gt s g).f1) →
          Ev (fun k => scrimlaw16_LineMoves.j3 k room s.out t.out u.out (g : Int) (j : Int) (n : Int) (j : Int)) true := fun g g1 g2 g3 => by
        have i1 : (0 : Int) ≤ (j : Int) := by omega
        have i2 : (j : Int) < (n : Int) := by omega
        have i3 : (0 : Int) ≤ (g : Int) := by omega
        have i4 : (g : Int) < (n : Int) := by omega
        have i5 : g < n := by omega
        have i6 : (0 : Int) ≤ ((j + 1 : Nat) : Int) := by omega
        have hX := h.inx j hlt
        have hT := htx j hlt
        have hU := hux j hlt
        have hW := hw j hlt
        have mt := ht.moved j (by omega)
        have mu := hu.moved j (by omega)
        obtain ⟨a1, a2, a3, -⟩ := ht.same j hlt
        obtain ⟨b1, b2, b3, -⟩ := hu.same j hlt
        have hby : byOf room 2 (wd j) = mxI (room - wd j) 0 := by unfold byOf; rw [if_neg (by omega), if_pos rfl]
        have hby1 : byOf room 1 (wd j) = mxI (room - wd j) 0 / 2 := by unfold byOf; rw [if_pos rfl]
        have hm0 : 0 ≤ mxI (room - wd j) 0 := by unfold mxI; omega
        rw [hby] at mu
        rw [hby1] at mt
        have hlw := h.lastw j (by omega)
        obtain ⟨B, hB⟩ : ∃ B, B = mxI (room - wd j) 0 := ⟨_, rfl⟩
        have hBm : B = max (room - wd j) 0 := hB
        rw [← hB] at mt mu hm0
        clear hB hby hby1
        have hm1 : ¬ B < 0 := by omega
        have nx : Ev (fun k => scrimlaw16_LineMoves.l0 k room s.out t.out u.out (g : Int) (n : Int) ((j + 1 : Nat) : Int)) true :=
          mv_l0 hn hr hw h hop ht hu htx hux d (j + 1) g (by omega) (by omega) (fun _ => ⟨by omega, g2, g3⟩)
        unfold In at hX hT hU hW hr
        have w1 : wrap64 ((gt u j).f2.f0 - (gt s j).f2.f0) = B := by rw [wrap64_in _ (by omega)]; omega
        have w2 : wrap64 ((gt t j).f2.f0 - (gt s j).f2.f0) = B / 2 := by rw [wrap64_in _ (by omega)]; omega
        have w3 : wrap64 (Int.tdiv B 2) = B / 2 := by rw [tdiv2 hm0]; exact wrap64_in _ (by omega)
        have w4 : wrap64 ((j : Int) + 1) = ((j + 1 : Nat) : Int) := by rw [wrap64_in _ (by omega)]; omega
        have w5 : wrap64 ((gt u j).f2.f0 + (gt u j).f2.f2) = (gt s j).f2.f0 + B + (gt s j).f2.f2 := by rw [b3, wrap64_in _ (by omega)]; omega
        refine Ev.step (f := fun k => scrimlaw16_LineMoves.j4 k room s.out t.out u.out (g : Int) (j : Int) B (n : Int) (j : Int) false) (fun k => ?_) ?_
        · rw [scrimlaw16_LineMoves.j3, if_pos i1, if_pos (by rw [hu.len]; exact i2), if_pos (by rw [h.len]; exact i2), if_pos i3, if_pos (by rw [h.len]; exact i4)]
          rw [rd_gt, if_pos (h.first g i5 g2), rd_gt, rd_gt, w1, if_neg hm1, if_pos (by rw [ht.len]; exact i2), rd_gt, w2, w3, if_pos rfl, if_pos a2.symm, if_pos b2.symm, if_pos a1.symm, b1, bne_self_eq_false]
        · have fin : ∀ b : Bool, (b = true → j + 1 = n ∨ (gt s (j + 1)).f1 ≠ (gt s j).f1) → Ev (fun k => scrimlaw16_LineMoves.j5 k room s.out t.out u.out (g : Int) (j : Int) B (n : Int) (j : Int) b) true := fun b hb => by
            refine Ev.step (fun k => ?_) nx
            rw [scrimlaw16_LineMoves.j5, w4, rd_gt, w5]
            cases b with
            | false => rw [if_neg (by simp)]
            | true =>
              have hl := hlw (by rw [hop]; exact hb rfl)
              rw [if_pos rfl, if_pos i1, if_pos (by rw [hu.len]; exact i2)]
              clear w1 w2 w3 w4 w5 mt mu hT hU hd hj hm1
              by_cases hB : B > 0
              · rw [if_pos hB, if_pos (by omega), if_neg (by omega)]
              · rw [if_neg hB, if_pos (by omega), if_neg (by omega)]
          by_cases hl : j + 1 = n
          · refine Ev.step (fun k => ?_) (fin true (fun _ => .inl hl))
            rw [scrimlaw16_LineMoves.j4, if_neg (by simp), w4, if_pos (by rw [h.len, ← hl])]
          · have i7 : ((j + 1 : Nat) : Int) < (n : Int) := by clear w1 w2 w3 w4 w5 mt mu hBm; omega
            refine Ev.step (fun k => ?_) (fin ((gt s (j + 1)).f1 != (gt s j).f1) (fun hb => .inr (by simpa using hb)))
            rw [scrimlaw16_LineMoves.j4, if_neg (by simp), w4, if_neg (by rw [h.len]; exact fun e => hl (by exact_mod_cast e)), if_pos i6, if_pos (by rw [h.len]; exact i7), if_pos i1, if_pos (by rw [h.len]; exact i2), rd_gt, rd_gt]
      by_cases he : (gt s j).f1 = (gt s f).f1
      · refine Ev.step (fun k => ?_) (key f f1 f2 (fun k k1 k2 => by
          rcases Nat.lt_or_ge k j with h1 | h1
          · exact f3 k k1 h1
          · obtain rfl : k = j := by omega
            exact he))
        rw [scrimlaw16_LineMoves.l0, if_pos (by omega), if_pos (by omega), if_pos (by rw [h.len]; omega), if_pos (by omega), if_pos (by rw [h.len]; omega), rd_gt, rd_gt, if_pos he]
      · refine Ev.step (fun k => ?_) (key j (Nat.le_refl _) (by
          rcases Nat.eq_zero_or_pos j with h0 | h0
          · exact .inl h0
          · refine .inr ?_
            have hfj : f < j := by
              rcases Nat.lt_or_ge f j with h1 | h1
              · exact h1
              · obtain rfl : f = j := by omega
                exact (he rfl).elim
            rw [f3 (j - 1) (by omega) (by omega)]
            exact fun e => he e.symm) (fun k k1 k2 => by obtain rfl : k = j := by omega
                                                         rfl))
        rw [scrimlaw16_LineMoves.l0, if_pos (by omega), if_pos (by omega), if_pos (by rw [h.len]; omega), if_pos (by omega), if_pos (by rw [h.len]; omega), rd_gt, rd_gt, if_neg he]
    · refine Ev.step (f := fun _ => some true) (fun k => ?_) (Ev.now _)
      rw [scrimlaw16_LineMoves.l0, if_neg (by omega)]
theorem moves_true (l : List Pc) (a : Int) : Ev (fun k => scrimlaw16_LineMoves.f k l a) true := by
  unfold scrimlaw16_LineMoves.f scrimlaw16_awake.f
  simp only [Option.bind_some, if_true]
  by_cases h1 : (l.length : Int) > 200
  · simp only [if_pos h1]; exact Ev.now _
  · simp only [if_neg h1, fill_some l a _ h1, Option.bind_some]
    have jt : ∀ (p q r : List Pl × Int × Bool), Ev (fun k => scrimlaw16_LineMoves.j0 k a p.1 p.2.1 q.1 q.2.1 r.1 r.2.1 true) true := fun p q r => Ev.step (f := fun _ => some true) (fun k => by rw [scrimlaw16_LineMoves.j0, if_pos rfl]) (Ev.now _)
    cases hex0 : (fillR l a 0).2.2 with
    | false => simp only [if_neg (show ¬ (false = true) by simp)]; exact jt _ _ _
    | true =>
      cases hex1 : (fillR l a 1).2.2 with
      | false => simp only [if_true, if_neg (show ¬ (false = true) by simp)]; exact jt _ _ _
      | true =>
        cases hex2 : (fillR l a 2).2.2 with
        | false => simp only [if_true, Bool.not_false]; exact jt _ _ _
        | true =>
          obtain ⟨s0, e0, i0, o0, hr, hp, z0⟩ := exact_inv hex0
          obtain ⟨s1, e1, i1, o1, -, -, z1⟩ := exact_inv hex1
          obtain ⟨s2, e2, i2, o2, -, -, z2⟩ := exact_inv hex2
          obtain ⟨wd, h, km⟩ := fill_sm hr (ok_of hp) (by rw [← z0]; exact i0.smooth)
          have m1 := km 1 (by rw [← z1]; exact i1.smooth)
          have m2 := km 2 (by rw [← z2]; exact i2.smooth)
          rw [← z0] at h m1 m2
          rw [← z1] at m1
          rw [← z2] at m2
          simp only [if_true, e0, e1, e2, Bool.not_true]
          refine Ev.step (f := fun k => scrimlaw16_LineMoves.j1 k a s0.out s1.out s2.out false) (fun k => ?_) ?_
          · rw [scrimlaw16_LineMoves.j0, if_neg (by simp), if_pos m1.top.symm, if_pos m2.top.symm, if_pos (by rw [m1.len, h.len]), m2.len, h.len, bne_self_eq_false]
          · refine Ev.step (fun k => ?_) (mv_l0 (n := l.length) (by omega) hr (fun k hk => by rw [(i0.isk k hk).2.1]; exact (hp k hk).1) h o0 m1 m2 (fun k hk => ⟨(i1.isk k hk).2.2.2.1, (i1.isk k hk).2.2.2.2.1⟩) (fun k hk => ⟨(i2.isk k hk).2.2.2.1, (i2.isk k hk).2.2.2.2.1⟩) l.length 0 0 (by omega) (Nat.zero_le _) (fun _ => ⟨Nat.le_refl _, .inl rfl, fun k h1 h2 => by omega⟩))
            rw [scrimlaw16_LineMoves.j1, if_neg (by simp), h.len]
            rfl
end Go.Proofs.Ythkipbnigokcfaa.Q
