/- What a law of lines knows of pieces that are laid exactly: rooms. -/
import Derived.Test.YthkipbnigokcfaaLnA
import Derived.Test.YthkipbnigokcfaaLnN
namespace Go.Proofs.Ythkipbnigokcfaa.Q
open Go.RowKit Go.IntWalk Go.Proofs.Ythkipbnigokcfaa.Mem Go.Proofs.YthkipbnigokcfaaW.PrintWords Go.Proofs.YthkipbnigokcfaaW.PrintLast Go.Proofs.YthkipbnigokcfaaW.PrintMore
set_option linter.unusedVariables false
set_option linter.unusedSimpArgs false

/-- Laid exactly. -/
theorem exact_inv {l : List Pc} {room align : Int} (h : (fillR l room align).2.2 = true) :
    ∃ s : St, fillR l room align = (s.out, s.top, true) ∧ Inv l room l.length s ∧ s.op = l.length ∧ In room ∧ (∀ k, k < l.length → okP (pc l k)) ∧ s = fillS l room align := by
  by_cases hg : inB room = true ∧ l.any badP = false
  · have hr := inB_in hg.1
    have hp : ∀ k, k < l.length → okP (pc l k) := fun k hk => by
      have : pc l k ∈ l := by unfold pc; rw [List.getD_eq_getElem?_getD, List.getElem?_eq_getElem hk]; exact List.getElem_mem hk
      exact ok_of_any hg.2 _ this
    have hs : (fillS l room align).rough = false := by
      unfold fillR at h
      rw [if_pos hg] at h
      simpa using h
    have hi := fill_inv (align := align) hr hp hs
    exact ⟨fillS l room align, by unfold fillR; rw [if_pos hg, hs]; rfl, hi.1, hi.2, hr, hp, rfl⟩
  · unfold fillR at h
    rw [if_neg hg] at h
    cases h
/-- A line, so far: pieces from `f` to `t`. -/
structure LineTo (s : St) (n f t : Nat) : Prop where
  lt : f < t
  fle : f ≤ n
  tle : t ≤ n + 1
  fin : t ≤ n → f < n
  same : ∀ k, f ≤ k → k < t → k < n → (gt s k).f1 = (gt s f).f1
  first : f = 0 ∨ f < n → (f = 0 ∨ (gt s (f - 1)).f1 ≠ (gt s f).f1)
theorem LineTo.start (s : St) (n : Nat) : LineTo s n 0 1 := ⟨by omega, by omega, by omega, fun h => by omega, fun k h1 h2 _ => by obtain rfl : k = 0 := (by omega); rfl, fun _ => .inl rfl⟩
theorem LineTo.go {s : St} {n f t : Nat} (h : LineTo s n f t) (ht : t < n) (he : (gt s t).f1 = (gt s f).f1) : LineTo s n f (t + 1) :=
  ⟨by have := h.lt; omega, h.fle, by omega, fun _ => h.fin (by omega), fun k h1 h2 h3 => by
    rcases Nat.lt_or_ge k t with hk | hk
    · exact h.same k h1 hk h3
    · obtain rfl : k = t := (by omega)
      exact he, fun _ => h.first (.inr (h.fin (by omega)))⟩
theorem LineTo.stop {s : St} {n f t : Nat} (h : LineTo s n f t) (ht : t ≤ n) (he : ¬ (t < n ∧ (gt s t).f1 = (gt s f).f1)) : LineTo s n t (t + 1) :=
  ⟨by omega, ht, by omega, fun _ => by omega, fun k h1 h2 h3 => by obtain rfl : k = t := (by omega); rfl, fun hh => .inr (by
    have hl := h.lt
    have hlt : t < n := by rcases hh with hh | hh <;> omega
    rw [h.same (t - 1) (by omega) (by omega) (by omega)]
    exact fun e => he ⟨hlt, e.symm⟩)⟩
/-- How wide it is. -/
def wideT (s : St) (f t : Nat) : Int := (gt s (t - 1)).f2.f0 + (gt s (t - 1)).f2.f2 - (gt s f).f2.f0
theorem room_no {l : List Pc} {room : Int} {n f t : Nat} {s : St} (hi : Inv l room n s) (h : LineTo s n f t) (ht : t ≤ n) (hw : room < wideT s f t) : ∀ i, f < i → i < t → (pc l i).f5 = false := fun i h1 h2 => by
  cases hb : (pc l i).f5 with
  | false => rfl
  | true =>
    have h3 := hi.fit f (t - 1) (by omega) (by omega) (h.same (t - 1) (by omega) (by omega) (by omega)).symm ⟨i, h1, by omega, hb⟩
    have h4 := (hi.isk (t - 1) (by omega)).2.1
    unfold wideT at hw
    omega
theorem room_first {l : List Pc} {room : Int} {n f t : Nat} {s : St} (hi : Inv l room n s) (h : LineTo s n f t) (h0 : 0 < f) (hf : f < n) : (pc l f).f5 = true := by
  have h1 := h.first (.inr hf)
  rcases hi.step (f - 1) (by omega) with h2 | h2
  · rw [show f - 1 + 1 = f from by omega] at h2
    rcases h1 with h1 | h1
    · omega
    · exact (h1 h2.symm).elim
  · rw [show f - 1 + 1 = f from by omega] at h2
    exact h2.2
theorem room_next {l : List Pc} {room : Int} {n f t : Nat} {s : St} (hi : Inv l room n s) (h : LineTo s n f t) (ht : t < n) (he : (gt s t).f1 ≠ (gt s f).f1) :
    (gt s t).f1 = (gt s f).f1 + 1 ∧ room < wideT s f t + rowSum l t := by
  have hlt := h.lt
  have hs := h.same (t - 1) (by omega) (by omega) (by omega)
  have h1 : (gt s t).f1 = (gt s (t - 1)).f1 + 1 := by
    rcases hi.step (t - 1) (by omega) with h2 | h2
    · rw [show t - 1 + 1 = t from by omega] at h2
      exact (he (h2.trans hs)).elim
    · rw [show t - 1 + 1 = t from by omega] at h2
      exact h2.1
  refine ⟨by omega, ?_⟩
  have h2 := hi.greedy f (t - 1) (by omega) (by omega) (by rw [show t - 1 + 1 = t from by omega]; exact h1) hs.symm (h.first (.inr (by omega)))
  rw [show t - 1 + 1 = t from by omega] at h2
  have h3 := (hi.isk (t - 1) (by omega)).2.1
  unfold wideT
  omega
theorem wide_in {l : List Pc} {room : Int} {n f t : Nat} {s : St} (hi : Inv l room n s) (hp : ∀ k, k < n → okP (pc l k)) (h : LineTo s n f t) (ht : t ≤ n) :
    In (gt s (t - 1)).f2.f0 ∧ In (gt s (t - 1)).f2.f2 ∧ In (gt s f).f2.f0 := by
  have hlt := h.lt
  have h1 := hi.isk (t - 1) (by omega)
  have h2 := hi.isk f (by omega)
  exact ⟨⟨h1.2.2.2.1, h1.2.2.2.2.1⟩, by rw [h1.2.1]; exact (hp _ (by omega)).1, ⟨h2.2.2.2.1, h2.2.2.2.2.1⟩⟩
/-- How wide the next pieces are, each with its gap. -/
def nxt (l : List Pc) (t j : Nat) : Int := sumR ((l.drop t).take j)
theorem sumR_app : ∀ (a b : List Pc), sumR (a ++ b) = sumR a + sumR b
  | [], b => by simp [sumR]
  | p :: a, b => by show p.f3 + p.f1 + sumR (a ++ b) = p.f3 + p.f1 + sumR a + sumR b; rw [sumR_app a b]; omega
theorem nxt_succ {l : List Pc} {t j : Nat} (h : t + j < l.length) : nxt l t (j + 1) = nxt l t j + ((pc l (t + j)).f3 + (pc l (t + j)).f1) := by
  unfold nxt
  rw [List.take_succ_eq_append_getElem (by simp; omega), sumR_app]
  congr 1
  rw [List.getElem_drop]
  unfold pc
  rw [List.getD_eq_getElem?_getD, List.getElem?_eq_getElem h]
  simp [sumR]
theorem nxt_in {l : List Pc} {t : Nat} (hp : ∀ k, k < l.length → okP (pc l k)) : ∀ j, t + j ≤ l.length → 0 ≤ nxt l t j ∧ nxt l t j ≤ j * 2199023255552
  | 0, _ => by simp [nxt, sumR]
  | j + 1, h => by
    have ih := nxt_in (t := t) hp j (by omega)
    rw [nxt_succ (l := l) (t := t) (j := j) (by omega)]
    have := hp (t + j) (by omega)
    unfold okP In at this
    omega
/-- How many pieces the next row holds. -/
def nx1 (l : List Pc) (t : Nat) : Nat := 1 + rest (l.drop (t + 1))
theorem nx1_le {l : List Pc} {t : Nat} (h : t < l.length) : t + nx1 l t ≤ l.length := by
  have := rest_le (l.drop (t + 1))
  rw [List.length_drop] at this
  unfold nx1; omega
theorem nx1_sum {l : List Pc} {t : Nat} (h : t < l.length) : nxt l t (nx1 l t) = rowSum l t := by
  unfold nxt nx1 rowSum
  rw [List.drop_eq_getElem_cons h, Nat.add_comm 1]
  rfl
theorem nx1_on {l : List Pc} {t j : Nat} (h0 : 0 < j) (h : j < nx1 l t) : (pc l (t + j)).f5 = false := by
  have := rest_brk (l.drop (t + 1)) (j - 1) (by unfold nx1 at h; omega)
  rw [pc_drop, show t + 1 + (j - 1) = t + j from by omega] at this
  exact this
theorem nx1_end {l : List Pc} {t : Nat} (h : t + nx1 l t < l.length) : (pc l (t + nx1 l t)).f5 = true := by
  have := rest_next (l.drop (t + 1)) (by rw [List.length_drop]; unfold nx1 at h; omega)
  rw [pc_drop, show t + 1 + rest (l.drop (t + 1)) = t + nx1 l t from by unfold nx1; omega] at this
  exact this
end Go.Proofs.Ythkipbnigokcfaa.Q
