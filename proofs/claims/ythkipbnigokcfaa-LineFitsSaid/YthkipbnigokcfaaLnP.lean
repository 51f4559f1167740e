/- Lines of pieces, plainly: what Fill computes (sums as they count, a filler, rows), and what stands when all is exact. -/
import Derived.Test.YthkipbnigokcfaaQx0
import Derived.Test.YthkipbnigokcfaaFx
namespace Go.Proofs.Ythkipbnigokcfaa.Q
open Go.RowKit Go.Proofs.YthkipbnigokcfaaW.PrintWords Go.Proofs.YthkipbnigokcfaaW.PrintLast Go.Proofs.YthkipbnigokcfaaW.PrintMore
set_option linter.unusedVariables false
set_option linter.unusedSimpArgs false

/-! ### Sums as they count -/
abbrev Pc := S32
abbrev Pl := S30
def mxI (a b : Int) : Int := max a b
def addV (a b : Int) : Int := cl (cl a + cl b)
def addB (a b : Int) : Bool := clB a && clB b && clB (cl a + cl b)
def In (n : Int) : Prop := 0 ≤ n ∧ n ≤ 1099511627776
theorem cl_id {a : Int} (h : In a) : cl a = a ∧ clB a = true := by
  obtain ⟨h1, h2⟩ := h
  have e1 : ¬ a < -1099511627776 := by omega
  have e2 : ¬ 1099511627776 < a := by omega
  simp [cl, clB, e1, e2]
theorem addV_in {a b : Int} (ha : In a) (hb : In b) : addV a b = min (a + b) 1099511627776 ∧ addB a b = decide (a + b ≤ 1099511627776) := by
  unfold addV addB
  rw [(cl_id ha).1, (cl_id ha).2, (cl_id hb).1, (cl_id hb).2]
  obtain ⟨h1, h2⟩ := ha
  obtain ⟨h3, h4⟩ := hb
  have e1 : ¬ a + b < -1099511627776 := by omega
  by_cases e2 : 1099511627776 < a + b
  · simp [cl, clB, e1, e2]; omega
  · simp [cl, clB, e1, e2]; omega
theorem addV_ok {a b : Int} (ha : In a) (hb : In b) : In (addV a b) := by
  rw [(addV_in ha hb).1]
  obtain ⟨h1, h2⟩ := ha
  obtain ⟨h3, h4⟩ := hb
  unfold In; omega
theorem addV_exact {a b : Int} (ha : In a) (hb : In b) (h : addB a b = true) : addV a b = a + b := by
  rw [(addV_in ha hb).2, decide_eq_true_eq] at h
  rw [(addV_in ha hb).1]; omega
theorem addV_le {a b : Int} (ha : In a) (hb : In b) : addV a b ≤ a + b := by rw [(addV_in ha hb).1]; omega
theorem addV_ge {a b : Int} (ha : In a) (hb : In b) : a ≤ addV a b ∧ b ≤ addV a b := by
  rw [(addV_in ha hb).1]; obtain ⟨h1, h2⟩ := ha; obtain ⟨h3, h4⟩ := hb; omega
theorem addV_mono {a b a' b' : Int} (ha : In a) (hb : In b) (ha' : In a') (hb' : In b') (h : a ≤ a') (h' : b ≤ b') : addV a b ≤ addV a' b' := by
  rw [(addV_in ha hb).1, (addV_in ha' hb').1]; omega

/-! ### The filler -/
structure St where
  out : List Pl
  op : Nat
  many : Int
  wide : Int
  high : Int
  top : Int
  rough : Bool
def St.gap (s : St) : Bool := decide (s.op < s.out.length)
/-- How wide the line is with these pieces more. -/
def aft (g : Bool) (n : Int) : List Pc → Int
  | [] => n
  | p :: r => aft true (addV (if g = true then addV n p.f3 else n) p.f1) r
def St.after (s : St) (row : List Pc) : Int := aft s.gap s.wide row
def St.w1 (s : St) (p : Pc) : Int := if s.gap = true then addV s.wide p.f3 else s.wide
def St.r1 (s : St) (p : Pc) : Bool := if s.gap = true then (s.rough || !addB s.wide p.f3) else s.rough
/-- One piece more. -/
def St.one (s : St) (i : Int) (p : Pc) : St :=
  { s with out := s.out ++ [⟨i, s.many, ⟨s.w1 p, 0, p.f1, p.f2⟩⟩], wide := addV (s.w1 p) p.f1, high := mxI s.high p.f2, rough := s.r1 p || !addB (s.w1 p) p.f1 }
def St.put (s : St) (i : Int) : List Pc → St
  | [] => s
  | p :: r => St.put (s.one i p) (i + 1) r
/-- By how much a line is moved. -/
def byOf (room align wide : Int) : Int := if align = 1 then mxI (room - wide) 0 / 2 else if align = 2 then mxI (room - wide) 0 else 0
def mvd (by' top high : Int) (x : Pl) : Pl := ⟨x.f0, x.f1, ⟨addV x.f2.f0 by', addV top (high - x.f2.f3), x.f2.f2, x.f2.f3⟩⟩
def mvR (by' top high : Int) (x : Pl) : Bool := !addB x.f2.f0 by' || !addB top (high - x.f2.f3)
def St.fin (s : St) (room align : Int) : St :=
  if s.out.length = s.op then s else
  { out := s.out.take s.op ++ (s.out.drop s.op).map (mvd (byOf room align s.wide) s.top s.high), op := s.out.length, many := s.many + 1, wide := 0, high := 0, top := addV s.top s.high,
    rough := (s.rough || (s.out.drop s.op).any (mvR (byOf room align s.wide) s.top s.high)) || !addB s.top s.high }
/-- One row more. -/
def St.row (s : St) (room align : Int) (i : Int) (row : List Pc) : St := (if s.after row > room ∧ s.op < s.out.length then s.fin room align else s).put i row
/-- How many pieces stand in the first row. -/
def rest (l : List Pc) : Nat := (l.takeWhile fun p => !p.f5).length
def st0 : St := ⟨[], 0, 0, 0, 0, 0, false⟩
def St.rows (room align : Int) : Nat → St → Int → List Pc → St
  | 0, s, _, _ => s
  | _ + 1, s, _, [] => s
  | n + 1, s, i, p :: r => St.rows room align n (s.row room align i (p :: r.take (rest r))) (i + 1 + rest r) (r.drop (rest r))
def okP (p : Pc) : Prop := In p.f1 ∧ In p.f2 ∧ In p.f3
def fillS (l : List Pc) (room align : Int) : St := (St.rows room align l.length st0 0 l).fin room align

/-! ### What stands -/
def gt (s : St) (k : Nat) : Pl := s.out.getD k z30
def pc (l : List Pc) (k : Nat) : Pc := l.getD k z32
def sumR : List Pc → Int
  | [] => 0
  | p :: r => p.f3 + p.f1 + sumR r
def rowSum (l : List Pc) (k : Nat) : Int := match l.drop k with | [] => 0 | p :: r => sumR (p :: r.take (rest r))
theorem gt_old {s : St} {x : Pl} {k : Nat} (h : k < s.out.length) : (s.out ++ [x]).getD k z30 = gt s k := by
  unfold gt; rw [List.getD_eq_getElem?_getD, List.getD_eq_getElem?_getD, List.getElem?_append_left h]
theorem gt_new {s : St} {x : Pl} : (s.out ++ [x]).getD s.out.length z30 = x := by
  rw [List.getD_eq_getElem?_getD, List.getElem?_append_right (Nat.le_refl _)]; simp
theorem gt_finl {s : St} {f : Pl → Pl} {k : Nat} (h : k < s.op) (ho : s.op ≤ s.out.length) : (s.out.take s.op ++ (s.out.drop s.op).map f).getD k z30 = gt s k := by
  unfold gt; rw [List.getD_eq_getElem?_getD, List.getD_eq_getElem?_getD, List.getElem?_append_left (by simp; omega), List.getElem?_take, if_pos h]
theorem gt_finr {s : St} {f : Pl → Pl} {k : Nat} (h : s.op ≤ k) (hk : k < s.out.length) : (s.out.take s.op ++ (s.out.drop s.op).map f).getD k z30 = f (gt s k) := by
  unfold gt
  have hl : (s.out.take s.op).length = s.op := by simp; omega
  rw [List.getD_eq_getElem?_getD, List.getD_eq_getElem?_getD, List.getElem?_append_right (by omega), hl, List.getElem?_map, List.getElem?_drop, show s.op + (k - s.op) = k from by omega, List.getElem?_eq_getElem hk]
  rfl
theorem fin_len (s : St) (room align : Int) (ho : s.op ≤ s.out.length) : (s.fin room align).out.length = s.out.length := by
  unfold St.fin; split
  · rfl
  · simp; omega

theorem one_gt_old {s : St} {i : Int} {p : Pc} {k : Nat} (h : k < s.out.length) : gt (s.one i p) k = gt s k := gt_old h
theorem one_gt_new {s : St} {i : Int} {p : Pc} {k : Nat} (h : k = s.out.length) : gt (s.one i p) k = ⟨i, s.many, ⟨s.w1 p, 0, p.f1, p.f2⟩⟩ := by subst h; exact gt_new

/-- So it stands when `n` pieces are laid, all exactly. -/
structure Inv (l : List Pc) (room : Int) (n : Nat) (s : St) : Prop where
  smooth : s.rough = false
  len : s.out.length = n
  le : n ≤ l.length
  op : s.op ≤ n
  wide : In s.wide
  high : In s.high
  top : In s.top
  many0 : 0 ≤ s.many
  manyN : s.many ≤ s.op
  isk : ∀ k, k < n → (gt s k).f0 = (k : Int) ∧ (gt s k).f2.f2 = (pc l k).f1 ∧ (gt s k).f2.f3 = (pc l k).f2 ∧ 0 ≤ (gt s k).f2.f0 ∧ (gt s k).f2.f0 ≤ 1099511627776 ∧ 0 ≤ (gt s k).f2.f1
  ln : ∀ k, k < n → 0 ≤ (gt s k).f1 ∧ (s.op ≤ k → (gt s k).f1 = s.many) ∧ (k < s.op → (gt s k).f1 < s.many)
  ln0 : 0 < n → (gt s 0).f1 = 0
  step : ∀ k, k + 1 < n → (gt s (k + 1)).f1 = (gt s k).f1 ∨ (gt s (k + 1)).f1 = (gt s k).f1 + 1 ∧ (pc l (k + 1)).f5 = true
  prev : s.op = n → 0 < n → (gt s (n - 1)).f1 + 1 = s.many
  none_ : s.op = n → s.wide = 0 ∧ s.high = 0
  next : ∀ k, k + 1 < n → (gt s (k + 1)).f1 = (gt s k).f1 → (gt s (k + 1)).f2.f0 = (gt s k).f2.f0 + (pc l k).f1 + (pc l (k + 1)).f3
  last : s.op < n → s.wide = (gt s (n - 1)).f2.f0 + (pc l (n - 1)).f1
  open0 : s.op < n → (gt s s.op).f2.f0 = 0
  opn : ∀ k, k < n → s.op ≤ k → (gt s k).f2.f1 = 0 ∧ (pc l k).f2 ≤ s.high
  fit : ∀ j k, j < k → k < n → (gt s j).f1 = (gt s k).f1 → (∃ i, j < i ∧ i ≤ k ∧ (pc l i).f5 = true) → (gt s k).f2.f0 + (pc l k).f1 - (gt s j).f2.f0 ≤ room
  greedy : ∀ j k, j ≤ k → k + 1 < n → (gt s (k + 1)).f1 = (gt s k).f1 + 1 → (gt s j).f1 = (gt s k).f1 → (j = 0 ∨ (gt s (j - 1)).f1 ≠ (gt s j).f1) → room < (gt s k).f2.f0 + (pc l k).f1 - (gt s j).f2.f0 + rowSum l (k + 1)
  pend : s.op = n → 0 < n → n < l.length → (pc l n).f5 = true ∧ ∀ j, j < n → (gt s j).f1 = (gt s (n - 1)).f1 → (j = 0 ∨ (gt s (j - 1)).f1 ≠ (gt s j).f1) → room < (gt s (n - 1)).f2.f0 + (pc l (n - 1)).f1 - (gt s j).f2.f0 + rowSum l n
  bot : ∀ j k, j < s.op → k < s.op → (gt s j).f1 = (gt s k).f1 → (gt s j).f2.f1 + (pc l j).f2 = (gt s k).f2.f1 + (pc l k).f2
  above : ∀ j k, j < s.op → k < s.op → (gt s k).f1 = (gt s j).f1 + 1 → (gt s j).f2.f1 + (pc l j).f2 ≤ (gt s k).f2.f1
  topE : ∀ k, k < s.op → (gt s k).f1 + 1 = s.many → (gt s k).f2.f1 + (pc l k).f2 = s.top
  top0 : s.op = 0 → s.top = 0 ∧ s.many = 0

theorem st0_inv (l : List Pc) (room : Int) : Inv l room 0 st0 where
  smooth := rfl
  len := rfl
  le := Nat.zero_le _
  op := Nat.le_refl _
  wide := by simp [st0, In]
  high := by simp [st0, In]
  top := by simp [st0, In]
  many0 := by simp [st0]
  manyN := by simp [st0]
  isk := fun k h => absurd h (Nat.not_lt_zero k)
  ln := fun k h => absurd h (Nat.not_lt_zero k)
  ln0 := fun h => absurd h (Nat.lt_irrefl 0)
  step := fun k h => absurd h (Nat.not_lt_zero _)
  prev := fun _ h => absurd h (Nat.lt_irrefl 0)
  none_ := fun _ => ⟨rfl, rfl⟩
  next := fun k h => absurd h (Nat.not_lt_zero _)
  last := fun h => absurd h (Nat.lt_irrefl 0)
  open0 := fun h => absurd h (Nat.lt_irrefl 0)
  opn := fun k h => absurd h (Nat.not_lt_zero _)
  fit := fun j k _ h => absurd h (Nat.not_lt_zero _)
  greedy := fun j k _ h => absurd h (Nat.not_lt_zero _)
  pend := fun _ h => absurd h (Nat.lt_irrefl 0)
  bot := fun j k h => absurd h (Nat.not_lt_zero _)
  above := fun j k h => absurd h (Nat.not_lt_zero _)
  topE := fun k h => absurd h (Nat.not_lt_zero _)
  top0 := fun _ => ⟨rfl, rfl⟩

theorem one_smooth {s : St} {i : Int} {p : Pc} (h : (s.one i p).rough = false) : s.rough = false ∧ addB (s.w1 p) p.f1 = true ∧ (s.gap = true → addB s.wide p.f3 = true) := by
  unfold St.one at h
  simp only [Bool.or_eq_false_iff, Bool.not_eq_false'] at h
  obtain ⟨h1, h2⟩ := h
  unfold St.r1 at h1
  by_cases g : s.gap = true
  · rw [if_pos g] at h1
    simp only [Bool.or_eq_false_iff, Bool.not_eq_false'] at h1
    exact ⟨h1.1, h2, fun _ => h1.2⟩
  · rw [if_neg g] at h1
    exact ⟨h1, h2, fun h => absurd h g⟩

theorem one_inv {l : List Pc} {room : Int} {n : Nat} {s : St} (h : Inv l room n s) (hn : n < l.length) (hp : okP (pc l n)) (hs : (s.one n (pc l n)).rough = false)
    (hb : (∀ i, s.op < i → i ≤ n → (pc l i).f5 = false) ∨ (s.one n (pc l n)).wide ≤ room) : Inv l room (n + 1) (s.one n (pc l n)) := by
  obtain ⟨s1, s2, s3⟩ := one_smooth hs
  have hlen := h.len
  have w1 : s.w1 (pc l n) = (if s.op < n then s.wide + (pc l n).f3 else 0) ∧ In (s.w1 (pc l n)) := by
    unfold St.w1 St.gap
    rw [hlen]
    by_cases g : s.op < n
    · rw [if_pos (by simpa using g), if_pos g, addV_exact h.wide hp.2.2 (s3 (by unfold St.gap; rw [hlen]; simpa using g))]
      refine ⟨rfl, ?_⟩
      rw [← addV_exact h.wide hp.2.2 (s3 (by unfold St.gap; rw [hlen]; simpa using g))]
      exact addV_ok h.wide hp.2.2
    · have := h.op
      rw [if_neg (by simpa using g), if_neg g, (h.none_ (by omega)).1]
      exact ⟨rfl, by simp [In]⟩
  obtain ⟨w1, w1i⟩ := w1
  have hw : (s.one n (pc l n)).wide = s.w1 (pc l n) + (pc l n).f1 := addV_exact w1i hp.1 s2
  have hwi : In (s.one n (pc l n)).wide := addV_ok w1i hp.1
  have go : ∀ k, k < n → gt (s.one n (pc l n)) k = gt s k := fun k hk => one_gt_old (by omega)
  have gn : gt (s.one n (pc l n)) n = ⟨n, s.many, ⟨s.w1 (pc l n), 0, (pc l n).f1, (pc l n).f2⟩⟩ := one_gt_new (by omega)
  have hm := h.many0
  have hop := h.op
  have hwide := h.wide
  obtain ⟨p1, p2, p3⟩ := hp
  have ho : (s.one n (pc l n)).op = s.op := rfl
  have hmm : (s.one n (pc l n)).many = s.many := rfl
  have hh : (s.one n (pc l n)).high = max s.high (pc l n).f2 := rfl
  have ht : (s.one n (pc l n)).top = s.top := rfl
  refine { smooth := hs, len := ?_, le := hn, op := by rw [ho]; omega, wide := hwi, high := ?_, top := h.top, many0 := h.many0, manyN := h.manyN, isk := ?_, ln := ?_, ln0 := ?_, step := ?_, prev := ?_, none_ := ?_,
           next := ?_, last := ?_, open0 := ?_, opn := ?_, fit := ?_, greedy := ?_, pend := ?_, bot := ?_, above := ?_, topE := ?_, top0 := h.top0 }
  · simp [St.one, hlen]
  · rw [hh]; have := h.high; unfold In at *; omega
  · intro k hk
    rcases Nat.lt_or_ge k n with h1 | h1
    · rw [go k h1]; exact h.isk k h1
    · obtain rfl : k = n := by omega
      rw [gn]; exact ⟨rfl, rfl, rfl, w1i.1, w1i.2, Int.le_refl 0⟩
  · intro k hk
    rw [ho, hmm]
    rcases Nat.lt_or_ge k n with h1 | h1
    · rw [go k h1]; exact h.ln k h1
    · obtain rfl : k = n := by omega
      rw [gn]; exact ⟨hm, fun _ => rfl, fun hlt => absurd hlt (by omega)⟩
  · intro _
    rcases Nat.eq_zero_or_pos n with h1 | h1
    · subst h1; rw [gn]; exact (h.top0 (by omega)).2
    · rw [go 0 h1]; exact h.ln0 h1
  · intro k hk
    rcases Nat.lt_or_ge (k + 1) n with h1 | h1
    · rw [go _ h1, go _ (by omega)]; exact h.step k h1
    · obtain rfl : k + 1 = n := by omega
      rw [gn, go _ (by omega)]
      rcases Nat.lt_or_ge s.op (k + 1) with h2 | h2
      · left; exact ((h.ln k (by omega)).2.1 (by omega)).symm
      · right
        have e : s.op = k + 1 := by omega
        exact ⟨((h.prev e (by omega)).symm), (h.pend e (by omega) hn).1⟩
  · intro e _; rw [ho] at e; omega
  · intro e; rw [ho] at e; omega
  · intro k hk he
    rcases Nat.lt_or_ge (k + 1) n with h1 | h1
    · rw [go _ h1, go _ (by omega)] at he ⊢; exact h.next k h1 he
    · obtain rfl : k + 1 = n := by omega
      rw [gn, go _ (by omega)] at he ⊢
      have h2 : s.op < k + 1 := by
        rcases Nat.lt_or_ge s.op (k + 1) with h2 | h2
        · exact h2
        · have e : s.op = k + 1 := by omega
          have := h.prev e (by omega)
          simp at this he; omega
      have hl := h.last h2
      simp only [Nat.add_sub_cancel] at hl
      rw [w1, if_pos h2, hl]
  · intro _
    rw [Nat.add_sub_cancel, gn]; exact hw
  · intro _
    rw [ho]
    rcases Nat.lt_or_ge s.op n with h2 | h2
    · rw [go _ h2]; exact h.open0 h2
    · have e : s.op = n := by omega
      rw [e, gn]; show s.w1 _ = 0; rw [w1, if_neg (by omega)]
  · intro k hk hk'
    rw [ho] at hk'
    rcases Nat.lt_or_ge k n with h1 | h1
    · rw [go k h1, hh]; have := h.opn k h1 hk'; exact ⟨this.1, by omega⟩
    · obtain rfl : k = n := by omega
      rw [gn, hh]; exact ⟨rfl, by omega⟩
  · intro j k hjk hk he hbr
    rcases Nat.lt_or_ge k n with h1 | h1
    · rw [go j (by omega), go k h1] at he ⊢; exact h.fit j k hjk h1 he hbr
    · obtain rfl : k = n := by omega
      rw [gn, go j hjk] at he ⊢
      have hj : s.op ≤ j := by
        rcases Nat.lt_or_ge j s.op with h2 | h2
        · have := (h.ln j hjk).2.2 h2; simp at he; omega
        · exact h2
      obtain ⟨i, hi1, hi2, hi3⟩ := hbr
      rcases hb with hb | hb
      · rw [hb i (by omega) hi2] at hi3; cases hi3
      · have := (h.isk j hjk).2.2.2.1
        rw [hw] at hb
        show s.w1 _ + _ - _ ≤ room
        omega
  · intro j k hjk hk he hj hf
    rcases Nat.lt_or_ge (k + 1) n with h1 | h1
    · have e1 : (j = 0 ∨ (gt s (j - 1)).f1 ≠ (gt s j).f1) := by
        rcases hf with hf | hf
        · exact .inl hf
        · rw [go _ (by omega), go _ (by omega)] at hf; exact .inr hf
      rw [go _ (by omega), go _ (by omega)] at he
      rw [go _ (by omega), go _ (by omega)] at hj ⊢
      exact h.greedy j k hjk h1 he hj e1
    · obtain rfl : k + 1 = n := by omega
      have e1 : (j = 0 ∨ (gt s (j - 1)).f1 ≠ (gt s j).f1) := by
        rcases hf with hf | hf
        · exact .inl hf
        · rw [go _ (by omega), go _ (by omega)] at hf; exact .inr hf
      rw [gn, go _ (by omega)] at he
      rw [go _ (by omega), go _ (by omega)] at hj
      rw [go _ (by omega), go _ (by omega)]
      have e : s.op = k + 1 := by
        rcases Nat.lt_or_ge s.op (k + 1) with h2 | h2
        · have := (h.ln k (by omega)).2.1 (by omega)
          simp at he; omega
        · omega
      have := (h.pend e (by omega) hn).2 j (by omega) (by simpa using hj) e1
      simpa using this
  · intro e; rw [ho] at e; omega
  · intro j k hj hk he
    rw [ho] at hj hk
    rw [go _ (by omega), go _ (by omega)] at he ⊢
    exact h.bot j k hj hk he
  · intro j k hj hk he
    rw [ho] at hj hk
    rw [go _ (by omega), go _ (by omega)] at he ⊢
    exact h.above j k hj hk he
  · intro k hk he
    rw [ho] at hk
    rw [go _ (by omega)] at he ⊢
    rw [hmm] at he
    exact h.topE k hk he
theorem aft_le : ∀ (r : List Pc) (n : Int), In n → (∀ p ∈ r, okP p) → aft true n r ≤ n + sumR r
  | [], n, _, _ => by simp [aft, sumR]
  | p :: r, n, hn, hr => by
    obtain ⟨h1, h2, h3⟩ := hr p (by simp)
    have h4 := addV_ok hn h3
    have h5 := aft_le r (addV (addV n p.f3) p.f1) (addV_ok h4 h1) (fun q hq => hr q (by simp [hq]))
    have h6 := addV_le hn h3
    have h7 := addV_le h4 h1
    simp only [aft, sumR, if_true]
    omega
theorem aft_in : ∀ (r : List Pc) (g : Bool) (n : Int), In n → (∀ p ∈ r, okP p) → In (aft g n r)
  | [], g, n, hn, _ => hn
  | p :: r, g, n, hn, hr => by
    obtain ⟨h1, h2, h3⟩ := hr p (by simp)
    refine aft_in r true _ (addV_ok ?_ h1) (fun q hq => hr q (by simp [hq]))
    cases g
    · exact hn
    · exact addV_ok hn h3
theorem aft_ge : ∀ (r : List Pc) (g : Bool) (n : Int), In n → (∀ p ∈ r, okP p) → n ≤ aft g n r
  | [], g, n, hn, _ => Int.le_refl _
  | p :: r, g, n, hn, hr => by
    obtain ⟨h1, h2, h3⟩ := hr p (by simp)
    have key : ∀ m : Int, In m → n ≤ m → n ≤ aft true (addV m p.f1) r := fun m hm hnm => by
      have h4 := (addV_ge hm h1).1
      have h5 := aft_ge r true (addV m p.f1) (addV_ok hm h1) (fun q hq => hr q (by simp [hq]))
      omega
    cases g
    · exact key n hn (Int.le_refl _)
    · exact key (addV n p.f3) (addV_ok hn h3) (addV_ge hn h3).1
theorem by_in {room align wide : Int} (hr : In room) (hw : In wide) : In (byOf room align wide) := by
  obtain ⟨h1, h2⟩ := hr; obtain ⟨h3, h4⟩ := hw
  unfold byOf In mxI
  split
  · omega
  · split <;> omega
theorem fin_smooth {s : St} {room align : Int} (ho : s.op < s.out.length) (h : (s.fin room align).rough = false) :
    s.rough = false ∧ (∀ k, s.op ≤ k → k < s.out.length → mvR (byOf room align s.wide) s.top s.high (gt s k) = false) ∧ addB s.top s.high = true := by
  unfold St.fin at h
  rw [if_neg (by omega)] at h
  simp only [Bool.or_eq_false_iff, Bool.not_eq_false'] at h
  obtain ⟨⟨h1, h2⟩, h3⟩ := h
  refine ⟨h1, fun k hk hk' => ?_, h3⟩
  rw [List.any_eq_false] at h2
  have := h2 (gt s k) (by
    unfold gt
    rw [List.mem_iff_getElem?]
    refine ⟨k - s.op, ?_⟩
    rw [List.getElem?_drop, show s.op + (k - s.op) = k from by omega, List.getD_eq_getElem?_getD, List.getElem?_eq_getElem hk']
    rfl)
  simpa using this
theorem fin_eq {s : St} {room align : Int} (ho : s.op < s.out.length) : (s.fin room align).op = s.out.length ∧ (s.fin room align).many = s.many + 1 ∧ (s.fin room align).wide = 0 ∧ (s.fin room align).high = 0 ∧ (s.fin room align).top = addV s.top s.high ∧
    (∀ k, k < s.op → gt (s.fin room align) k = gt s k) ∧ ∀ k, s.op ≤ k → k < s.out.length → gt (s.fin room align) k = mvd (byOf room align s.wide) s.top s.high (gt s k) := by
  unfold St.fin
  rw [if_neg (by omega)]
  exact ⟨rfl, rfl, rfl, rfl, rfl, fun k hk => gt_finl hk (by omega), fun k hk hk' => gt_finr hk hk'⟩

theorem fin_inv {l : List Pc} {room align : Int} {n : Nat} {s : St} (h : Inv l room n s) (hr : In room) (ho : s.op < n) (hp : ∀ k, k < l.length → okP (pc l k)) (hs : (s.fin room align).rough = false)
    (hb : n < l.length → (pc l n).f5 = true ∧ room < s.wide + rowSum l n) : Inv l room n (s.fin room align) := by
  have hlen := h.len
  obtain ⟨s1, s2, s3⟩ := fin_smooth (by omega) hs
  obtain ⟨e1, e2, e3, e4, e5, go, gn⟩ := fin_eq (s := s) (room := room) (align := align) (by omega)
  rw [hlen] at e1 s2 gn
  have hby := by_in (align := align) hr h.wide
  generalize byOf room align s.wide = b at *
  have hle := h.le
  have hm := h.many0
  have hmN := h.manyN
  have htop := h.top
  have hhigh := h.high
  rw [addV_exact h.top h.high s3] at e5
  have htop' : In (s.top + s.high) := by rw [← addV_exact h.top h.high s3]; exact addV_ok h.top h.high
  have g2 : ∀ k, s.op ≤ k → k < n → gt (s.fin room align) k = ⟨(gt s k).f0, (gt s k).f1, ⟨(gt s k).f2.f0 + b, s.top + (s.high - (pc l k).f2), (gt s k).f2.f2, (gt s k).f2.f3⟩⟩ ∧ In ((gt s k).f2.f0 + b) := fun k hk hk' => by
    rw [gn k hk hk']
    have hi := h.isk k hk'
    have hq := (hp k (by omega)).2.1
    have hoo := h.opn k hk' hk
    have hx : In (gt s k).f2.f0 := ⟨hi.2.2.2.1, hi.2.2.2.2.1⟩
    have hy : In (s.high - (gt s k).f2.f3) := by rw [hi.2.2.1]; unfold In at *; omega
    have := s2 k hk hk'
    unfold mvR at this
    simp only [Bool.or_eq_false_iff, Bool.not_eq_false'] at this
    unfold mvd
    have hin := addV_ok hx hby
    rw [addV_exact hx hby this.1, addV_exact htop hy this.2, hi.2.2.1]
    rw [addV_exact hx hby this.1] at hin
    exact ⟨rfl, hin⟩
  have line : ∀ k, k < n → (gt (s.fin room align) k).f1 = (gt s k).f1 := fun k hk => by
    rcases Nat.lt_or_ge k s.op with h1 | h1
    · rw [go k h1]
    · rw [(g2 k h1 hk).1]
  have xs : ∀ k, k < n → (gt (s.fin room align) k).f2.f0 = (gt s k).f2.f0 + if s.op ≤ k then b else 0 := fun k hk => by
    rcases Nat.lt_or_ge k s.op with h1 | h1
    · rw [go k h1, if_neg (by omega)]; omega
    · rw [(g2 k h1 hk).1, if_pos h1]
  have same : ∀ j k, j < n → k < n → (gt s j).f1 = (gt s k).f1 → (s.op ≤ j ↔ s.op ≤ k) := fun j k hj hk he => by
    have a1 := h.ln j hj
    have a2 := h.ln k hk
    constructor
    · intro h1
      rcases Nat.lt_or_ge k s.op with h2 | h2
      · have := a1.2.1 h1; have := a2.2.2 h2; omega
      · exact h2
    · intro h1
      rcases Nat.lt_or_ge j s.op with h2 | h2
      · have := a2.2.1 h1; have := a1.2.2 h2; omega
      · exact h2
  have diff : ∀ j k, j < n → k < n → (gt s j).f1 = (gt s k).f1 → (gt (s.fin room align) k).f2.f0 - (gt (s.fin room align) j).f2.f0 = (gt s k).f2.f0 - (gt s j).f2.f0 := fun j k hj hk he => by
    rw [xs j hj, xs k hk]
    have := same j k hj hk he
    split <;> split <;> omega
  have prev1 : (gt s (n - 1)).f1 = s.many := (h.ln (n - 1) (by omega)).2.1 (by omega)
  refine { smooth := hs, len := by rw [fin_len _ _ _ (by omega)]; exact hlen, le := h.le, op := by rw [e1]; omega, wide := by rw [e3]; simp [In], high := by rw [e4]; simp [In], top := by rw [e5]; exact htop', many0 := by rw [e2]; omega,
           manyN := by rw [e1, e2]; omega, isk := ?_, ln := ?_, ln0 := ?_, step := ?_, prev := ?_, none_ := fun _ => ⟨e3, e4⟩,
           next := ?_, last := fun hlt => by omega, open0 := fun hlt => by omega, opn := fun k hk hk' => by omega, fit := ?_, greedy := ?_, pend := ?_, bot := ?_, above := ?_, topE := ?_, top0 := fun he => by omega }
  · intro k hk
    have hi := h.isk k hk
    rcases Nat.lt_or_ge k s.op with h1 | h1
    · rw [go k h1]; exact hi
    · obtain ⟨q1, q2⟩ := g2 k h1 hk
      rw [q1]
      have hoo := h.opn k hk h1
      refine ⟨hi.1, hi.2.1, hi.2.2.1, q2.1, q2.2, ?_⟩
      show 0 ≤ s.top + (s.high - _)
      unfold In at *; omega
  · intro k hk
    rw [line k hk, e1, e2]
    have a := h.ln k hk
    refine ⟨a.1, fun hlt => by omega, fun _ => ?_⟩
    rcases Nat.lt_or_ge k s.op with h1 | h1
    · have := a.2.2 h1; omega
    · have := a.2.1 h1; omega
  · intro h0; rw [line 0 h0]; exact h.ln0 h0
  · intro k hk; rw [line _ hk, line k (by omega)]; exact h.step k hk
  · intro _ h0; rw [line _ (by omega), e2, prev1]
  · intro k hk he
    rw [line _ hk, line k (by omega)] at he
    have := h.next k hk he
    have d := diff k (k + 1) (by omega) hk he.symm
    omega
  · intro j k hjk hk he hbr
    rw [line j (by omega), line k hk] at he
    have := h.fit j k hjk hk he hbr
    have d := diff j k (by omega) hk he
    omega
  · intro j k hjk hk he hj hf
    rw [line _ hk, line k (by omega)] at he
    rw [line j (by omega), line k (by omega)] at hj
    have hf' : j = 0 ∨ (gt s (j - 1)).f1 ≠ (gt s j).f1 := by
      rcases hf with hf | hf
      · exact .inl hf
      · rw [line _ (by omega), line j (by omega)] at hf; exact .inr hf
    have := h.greedy j k hjk hk he hj hf'
    have d := diff j k (by omega) (by omega) hj
    omega
  · intro _ h0 hnl
    obtain ⟨b1, b2⟩ := hb hnl
    refine ⟨b1, fun j hj hl hf => ?_⟩
    rw [line j hj, line (n - 1) (by omega)] at hl
    have hf' : j = 0 ∨ (gt s (j - 1)).f1 ≠ (gt s j).f1 := by
      rcases hf with hf | hf
      · exact .inl hf
      · rw [line _ (by omega), line j (by omega)] at hf; exact .inr hf
    have d := diff j (n - 1) (by omega) (by omega) hl
    have hop : s.op ≤ j := (same j (n - 1) (by omega) (by omega) hl).2 (by omega)
    have hj0 : j = s.op := by
      rcases Nat.lt_or_ge s.op j with h1 | h1
      · rcases hf' with hf' | hf'
        · omega
        · have c1 := (h.ln (j - 1) (by omega)).2.1 (by omega)
          have c2 := (h.ln j (by omega)).2.1 (by omega)
          omega
      · omega
    subst hj0
    have o0 := h.open0 ho
    have la := h.last ho
    omega
  · intro j k hj hk he
    rw [e1] at hj hk
    rw [line j hj, line k hk] at he
    have sm := same j k hj hk he
    rcases Nat.lt_or_ge j s.op with h1 | h1
    · have h2 : k < s.op := by omega
      rw [go j h1, go k h2]; exact h.bot j k h1 h2 he
    · rw [(g2 j h1 hj).1, (g2 k (sm.1 h1) hk).1]
      show s.top + (s.high - _) + _ = s.top + (s.high - _) + _
      omega
  · intro j k hj hk he
    rw [e1] at hj hk
    rw [line j hj, line k hk] at he
    rcases Nat.lt_or_ge k s.op with h1 | h1
    · have h2 : j < s.op := by
        rcases Nat.lt_or_ge j s.op with h2 | h2
        · exact h2
        · have c1 := (h.ln j hj).2.1 h2
          have c2 := (h.ln k hk).2.2 h1
          omega
      rw [go j h2, go k h1]; exact h.above j k h2 h1 he
    · have c1 := (h.ln k hk).2.1 h1
      have h2 : j < s.op := by
        rcases Nat.lt_or_ge j s.op with h2 | h2
        · exact h2
        · have c2 := (h.ln j hj).2.1 h2; omega
      rw [go j h2, (g2 k h1 hk).1, h.topE j h2 (by omega)]
      show s.top ≤ s.top + (s.high - _)
      have := (h.opn k hk h1).2
      omega
  · intro k hk he
    rw [e1] at hk
    rw [line k hk, e2] at he
    rw [e5]
    rcases Nat.lt_or_ge k s.op with h1 | h1
    · have := (h.ln k hk).2.2 h1; omega
    · rw [(g2 k h1 hk).1]
      show s.top + (s.high - _) + _ = _
      omega

/-! ### Rows -/
theorem one_rough {s : St} {i : Int} {p : Pc} (h : (s.one i p).rough = false) : s.rough = false := (one_smooth h).1
theorem put_smooth : ∀ (r : List Pc) (s : St) (i : Int), (s.put i r).rough = false → s.rough = false
  | [], _, _, h => h
  | _ :: r, s, i, h => one_rough (put_smooth r _ _ h)
theorem one_gap {s : St} {i : Int} {p : Pc} (ho : s.op ≤ s.out.length) : (s.one i p).gap = true := by
  unfold St.gap St.one; simp; omega
theorem drop_pc {l : List Pc} {n : Nat} {p : Pc} {q : List Pc} (h : l.drop n = p :: q) : n < l.length ∧ pc l n = p ∧ l.drop (n + 1) = q := by
  have hl : n < l.length := by
    rcases Nat.lt_or_ge n l.length with h1 | h1
    · exact h1
    · rw [List.drop_of_length_le h1] at h; cases h
  rw [List.drop_eq_getElem_cons hl] at h
  injection h with h1 h2
  refine ⟨hl, ?_, h2⟩
  unfold pc; rw [List.getD_eq_getElem?_getD, List.getElem?_eq_getElem hl, ← h1]; rfl
theorem put_inv {l : List Pc} {room : Int} (hp : ∀ k, k < l.length → okP (pc l k)) (t : List Pc) : ∀ (r : List Pc) (n : Nat) (s : St), Inv l room n s → l.drop n = r ++ t → (s.put n r).rough = false →
    ((∀ i, s.op < i → i < n + r.length → (pc l i).f5 = false) ∨ aft s.gap s.wide r ≤ room) → Inv l room (n + r.length) (s.put n r) ∧ (s.put n r).op = s.op
  | [], n, s, h, _, _, _ => ⟨h, rfl⟩
  | p :: r, n, s, h, hd, hs, hb => by
    obtain ⟨d1, d2, d3⟩ := drop_pc (q := r ++ t) hd
    have hs1 : (s.one n p).rough = false := put_smooth r _ _ hs
    have hop := h.op
    have hlen := h.len
    have hpn := hp n d1
    rw [d2] at hpn
    have hw1 : In (s.w1 p) := by
      unfold St.w1; split
      · exact addV_ok h.wide hpn.2.2
      · exact h.wide
    have hwi : In (s.one n p).wide := addV_ok hw1 hpn.1
    have e : aft s.gap s.wide (p :: r) = aft true (s.one n p).wide r := rfl
    have hok : ∀ q ∈ r, okP q := fun q hq => by
      obtain ⟨i, hi⟩ := List.mem_iff_getElem?.1 hq
      have hi' := (List.getElem?_eq_some_iff.1 hi).1
      have h1 : (l.drop (n + 1))[i]? = some q := by rw [d3, List.getElem?_append_left hi', hi]
      rw [List.getElem?_drop] at h1
      have hl := (List.getElem?_eq_some_iff.1 h1).1
      have := hp (n + 1 + i) hl
      unfold pc at this
      rwa [List.getD_eq_getElem?_getD, h1] at this
    have h1 := one_inv (room := room) h d1 (by rw [d2]; exact hpn) (by rw [d2]; exact hs1) (by
      rcases hb with hb | hb
      · exact .inl fun i hi hi' => hb i hi (by simp; omega)
      · refine .inr ?_
        rw [d2]
        have := aft_ge r true _ hwi hok
        omega)
    rw [d2] at h1
    have h2 := put_inv hp t r (n + 1) (s.one n p) h1 d3 (by simpa [St.put] using hs) (by
      rcases hb with hb | hb
      · exact .inl fun i hi hi' => hb i hi (by simp; omega)
      · refine .inr ?_
        rw [one_gap (by omega), ← e]; exact hb)
    have e2 : n + (p :: r).length = n + 1 + r.length := by simp; omega
    rw [e2]
    exact h2
theorem rest_le (q : List Pc) : rest q ≤ q.length := by unfold rest; exact (List.takeWhile_sublist _).length_le
theorem rest_brk : ∀ (q : List Pc) (i : Nat), i < rest q → (pc q i).f5 = false
  | [], i, h => by simp [rest] at h
  | p :: q, i, h => by
    unfold rest at h
    rw [List.takeWhile_cons] at h
    by_cases hp : p.f5 = true
    · simp [hp] at h
    · rw [if_pos (by simpa using hp)] at h
      rcases i with _ | i
      · simp [pc, hp]
      · have := rest_brk q i (by simpa [rest] using h)
        simpa [pc] using this
theorem rest_next : ∀ (q : List Pc), rest q < q.length → (pc q (rest q)).f5 = true
  | [], h => by simp [rest] at h
  | p :: q, h => by
    unfold rest at h ⊢
    rw [List.takeWhile_cons] at h ⊢
    by_cases hp : p.f5 = true
    · simp [hp, pc]
    · rw [if_pos (by simpa using hp)] at h ⊢
      have := rest_next q (by unfold rest; simpa using h)
      simpa [pc, rest] using this
theorem pc_drop (l : List Pc) (n i : Nat) : pc (l.drop n) i = pc l (n + i) := by
  unfold pc; rw [List.getD_eq_getElem?_getD, List.getD_eq_getElem?_getD, List.getElem?_drop]
theorem pc_take (l : List Pc) (n i : Nat) (h : i < n) : pc (l.take n) i = pc l i := by
  unfold pc; rw [List.getD_eq_getElem?_getD, List.getD_eq_getElem?_getD, List.getElem?_take, if_pos h]
theorem ok_of {l : List Pc} (hp : ∀ k, k < l.length → okP (pc l k)) : ∀ p ∈ l, okP p := fun p hm => by
  obtain ⟨i, hi⟩ := List.mem_iff_getElem?.1 hm
  have := hp i (List.getElem?_eq_some_iff.1 hi).1
  unfold pc at this
  rwa [List.getD_eq_getElem?_getD, hi] at this
theorem fin_rough {s : St} {room align : Int} (h : (s.fin room align).rough = false) : s.rough = false := by
  unfold St.fin at h
  split at h
  · exact h
  · simp only [Bool.or_eq_false_iff] at h; exact h.1.1
theorem row_smooth {s : St} {room align i : Int} {r : List Pc} (h : (s.row room align i r).rough = false) : s.rough = false := by
  unfold St.row at h
  have := put_smooth _ _ _ h
  split at this
  · exact fin_rough this
  · exact this
theorem row_inv {l : List Pc} {room align : Int} {n : Nat} {s : St} {p : Pc} {q : List Pc} (hr : In room) (hp : ∀ k, k < l.length → okP (pc l k)) (h : Inv l room n s) (hd : l.drop n = p :: q) (hb : 0 < n → p.f5 = true)
    (hs : (s.row room align n (p :: q.take (rest q))).rough = false) : Inv l room (n + (1 + rest q)) (s.row room align n (p :: q.take (rest q))) ∧ (s.row room align n (p :: q.take (rest q))).op < n + (1 + rest q) := by
  obtain ⟨d1, d2, d3⟩ := drop_pc hd
  have hlen := h.len
  have hop := h.op
  have hR : (p :: q.take (rest q)).length = 1 + rest q := by have := rest_le q; simp; omega
  have hd' : l.drop n = (p :: q.take (rest q)) ++ q.drop (rest q) := by rw [hd, List.cons_append, List.take_append_drop]
  have hnb : ∀ i, n < i → i < n + (p :: q.take (rest q)).length → (pc l i).f5 = false := fun i hi hi' => by
    rw [hR] at hi'
    have e : pc l i = pc q (i - (n + 1)) := by rw [← d3, pc_drop, show n + 1 + (i - (n + 1)) = i from by omega]
    rw [e]; exact rest_brk q _ (by omega)
  have hall := ok_of hp
  have hok : ∀ x ∈ p :: q.take (rest q), okP x := fun x hx => hall x (List.mem_of_mem_drop (i := n) (by rw [hd']; exact List.mem_append_left _ hx))
  unfold St.row at hs ⊢
  by_cases hc : s.after (p :: q.take (rest q)) > room ∧ s.op < s.out.length
  · rw [if_pos hc] at hs ⊢
    have hf := put_smooth _ _ _ hs
    have ho : s.op < n := by omega
    have hg : s.gap = true := by unfold St.gap; simpa using hc.2
    have h1 := fin_inv h hr ho hp hf (fun _ => by
      refine ⟨by rw [d2]; exact hb (by omega), ?_⟩
      have h2 := hc.1
      unfold St.after at h2
      rw [hg] at h2
      have h3 := aft_le (p :: q.take (rest q)) s.wide h.wide hok
      unfold rowSum
      rw [hd]
      show room < s.wide + sumR (p :: q.take (rest q))
      omega)
    have e1 := (fin_eq (room := room) (align := align) hc.2).1
    have h2 := put_inv hp _ _ n _ h1 hd' hs (.inl fun i hi hi' => hnb i (by rw [e1, hlen] at hi; exact hi) hi')
    rw [hR] at h2
    exact ⟨h2.1, by rw [h2.2, e1]; omega⟩
  · rw [if_neg hc] at hs ⊢
    have h2 := put_inv hp _ _ n _ h hd' hs (by
      rcases Nat.lt_or_ge s.op n with h1 | h1
      · refine .inr ?_
        have : ¬ s.after (p :: q.take (rest q)) > room := fun h2 => hc ⟨h2, by omega⟩
        unfold St.after at this
        omega
      · exact .inl fun i hi hi' => hnb i (by omega) hi')
    rw [hR] at h2
    exact ⟨h2.1, by rw [h2.2]; omega⟩
theorem rows_smooth (room align : Int) : ∀ (N : Nat) (s : St) (i : Int) (l : List Pc), (St.rows room align N s i l).rough = false → s.rough = false
  | 0, _, _, _, h => h
  | _ + 1, _, _, [], h => h
  | N + 1, s, i, p :: r, h => row_smooth (rows_smooth room align N _ _ _ h)
theorem rows_inv {l : List Pc} {room align : Int} (hr : In room) (hp : ∀ k, k < l.length → okP (pc l k)) : ∀ (N n : Nat) (s : St), l.length - n ≤ N → n ≤ l.length → Inv l room n s → (0 < n → n < l.length → (pc l n).f5 = true) →
    (St.rows room align N s n (l.drop n)).rough = false → Inv l room l.length (St.rows room align N s n (l.drop n))
  | 0, n, s, hN, hn, h, _, _ => by
    obtain rfl : n = l.length := by omega
    exact h
  | N + 1, n, s, hN, hn, h, hb, hs => by
    rcases hd : l.drop n with _ | ⟨p, q⟩
    · obtain rfl : n = l.length := by have := List.drop_eq_nil_iff.1 hd; omega
      exact h
    · rw [hd] at hs
      obtain ⟨d1, d2, d3⟩ := drop_pc hd
      have hs1 : (s.row room align n (p :: q.take (rest q))).rough = false := rows_smooth room align N _ _ _ hs
      have h1 := (row_inv hr hp h hd (fun h0 => by rw [← d2]; exact hb h0 d1) hs1).1
      have hrl := rest_le q
      have hql : q.length = l.length - (n + 1) := by rw [← d3, List.length_drop]
      have e1 : l.drop (n + (1 + rest q)) = q.drop (rest q) := by rw [← d3, List.drop_drop]; congr 1; omega
      have e2 : ((n + (1 + rest q) : Nat) : Int) = (n : Int) + 1 + rest q := by omega
      have h2 := rows_inv hr hp N (n + (1 + rest q)) _ (by omega) (by omega) h1 (fun _ hlt => by
        have := rest_next q (by omega)
        rw [← d3, pc_drop, show n + 1 + rest (l.drop (n + 1)) = n + (1 + rest q) from by rw [d3]; omega] at this
        exact this) (by rw [e1, e2]; exact hs)
      rw [e1, e2] at h2
      exact h2
theorem fill_inv {l : List Pc} {room align : Int} (hr : In room) (hp : ∀ k, k < l.length → okP (pc l k)) (hs : (fillS l room align).rough = false) : Inv l room l.length (fillS l room align) ∧ (fillS l room align).op = l.length := by
  unfold fillS at hs ⊢
  have h1 := rows_inv (align := align) hr hp l.length 0 st0 (by omega) (Nat.zero_le _) (st0_inv l room) (fun h => absurd h (Nat.lt_irrefl 0)) (fin_rough hs)
  rw [List.drop_zero] at h1
  have hlen := h1.len
  have hop := h1.op
  change Inv l room l.length (St.rows room align l.length st0 0 l) at h1
  generalize St.rows room align l.length st0 0 l = s at *
  by_cases ho : s.op = s.out.length
  · have e : s.fin room align = s := by unfold St.fin; rw [if_pos ho.symm]
    rw [e]; exact ⟨h1, by omega⟩
  · have e := (fin_eq (s := s) (room := room) (align := align) (by omega)).1
    exact ⟨fin_inv h1 hr (by omega) hp hs (fun h => absurd h (Nat.lt_irrefl _)), by omega⟩
end Go.Proofs.Ythkipbnigokcfaa.Q
