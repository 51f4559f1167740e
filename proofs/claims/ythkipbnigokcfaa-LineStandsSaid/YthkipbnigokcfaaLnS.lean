/- LineStands: pieces of a line stand one behind the other, on its lower end, none above the next line's; and all lines are together as high as is told. -/
import Derived.Test.YthkipbnigokcfaaLnG
namespace Go.Proofs.Ythkipbnigokcfaa.Q
open Go.RowKit Go.IntWalk Go.Proofs.Ythkipbnigokcfaa.Mem Go.Proofs.YthkipbnigokcfaaW.PrintWords Go.Proofs.YthkipbnigokcfaaW.PrintLast Go.Proofs.YthkipbnigokcfaaW.PrintMore
set_option linter.unusedVariables false
set_option linter.unusedSimpArgs false

/-- No piece stands below all that are laid. -/
theorem low_in {l : List Pc} {room : Int} {n : Nat} {s : St} (hi : Inv l room n s) (hop : s.op = n) (hp : ∀ k, k < l.length → okP (pc l k)) : ∀ (d k : Nat), n - k ≤ d → k < n → (gt s k).f2.f1 + (pc l k).f2 ≤ s.top
  | 0, k, hd, hk => by omega
  | d + 1, k, hd, hk => by
    by_cases hl : k + 1 < n
    · have ih := low_in hi hop hp d (k + 1) (by omega) hl
      have hle := hi.le
      have hq := (hp (k + 1) (by omega)).2.1
      unfold In at hq
      rcases hi.step k hl with h1 | h1
      · have := hi.bot k (k + 1) (by omega) (by omega) h1.symm; omega
      · have := hi.above k (k + 1) (by omega) (by omega) h1.1; omega
    · obtain rfl : k = n - 1 := by omega
      have := hi.topE (n - 1) (by omega) (hi.prev hop (by omega))
      omega
theorem y_in {l : List Pc} {room : Int} {n : Nat} {s : St} (hi : Inv l room n s) (hop : s.op = n) (hp : ∀ k, k < l.length → okP (pc l k)) {k : Nat} (hk : k < n) : 0 ≤ (gt s k).f2.f1 ∧ (gt s k).f2.f1 + (pc l k).f2 ≤ 1099511627776 ∧ 0 ≤ (pc l k).f2 := by
  have h1 := low_in hi hop hp n k (by omega) hk
  have h2 := hi.top
  have h3 := hi.le
  have h4 := (hp k (by omega)).2.1
  have h5 := (hi.isk k hk).2.2.2.2.2
  unfold In at h2 h4
  omega
theorem st_facts {l : List Pc} {room : Int} {n : Nat} {s : St} (hi : Inv l room n s) (hop : s.op = n) (hp : ∀ k, k < l.length → okP (pc l k)) {t : Nat} (ht : t < n) :
    ¬ (gt s t).f2.f0 < 0 ∧ ¬ (gt s t).f2.f1 < 0 ∧ (gt s t).f2.f0 ≤ 1099511627776 ∧ (gt s t).f2.f1 + (pc l t).f2 ≤ 1099511627776 ∧ 0 ≤ (pc l t).f1 ∧ (pc l t).f1 ≤ 1099511627776 ∧ 0 ≤ (pc l t).f2 ∧ 0 ≤ (pc l t).f3 ∧ (pc l t).f3 ≤ 1099511627776 := by
  have h1 := hi.isk t ht
  have h2 := y_in hi hop hp ht
  have h3 := hp t (by have := hi.le; omega)
  unfold okP In at h3
  omega
/-- The lower end of the line ahead. -/
def Eok (l : List Pc) (s : St) (j : Nat) (e : Int) : Prop := e = 0 ∨ ∃ i, i < j ∧ e = (gt s i).f2.f1 + (pc l i).f2 ∧ (gt s i).f1 + 1 = (gt s (j - 1)).f1

theorem st_last {l : List Pc} {room : Int} {s : St} (hi : Inv l room l.length s) (hop : s.op = l.length) {t : Nat} (hl : t + 1 = l.length) : (gt s t).f2.f1 + (pc l t).f2 = s.top :=
  hi.topE t (by omega) (by have := hi.prev hop (by omega); rw [show l.length - 1 = t from by omega] at this; exact this)
theorem st_step {l : List Pc} {room : Int} {s : St} (hi : Inv l room l.length s) (hop : s.op = l.length) {j : Nat} (h0 : 0 < j) (hj : j < l.length) :
    ((gt s j).f1 = (gt s (j - 1)).f1 ∧ (gt s j).f2.f0 = (gt s (j - 1)).f2.f0 + (pc l (j - 1)).f1 + (pc l j).f3 ∧ (gt s j).f2.f1 + (pc l j).f2 = (gt s (j - 1)).f2.f1 + (pc l (j - 1)).f2) ∨
    ((gt s j).f1 = (gt s (j - 1)).f1 + 1 ∧ (gt s (j - 1)).f2.f1 + (pc l (j - 1)).f2 ≤ (gt s j).f2.f1) := by
  obtain ⟨i, rfl⟩ : ∃ i, j = i + 1 := ⟨j - 1, by omega⟩
  rw [Nat.add_sub_cancel]
  rcases hi.step i hj with hs | hs
  · exact .inl ⟨hs, hi.next i hj hs, (hi.bot i (i + 1) (by omega) (by omega) hs.symm).symm⟩
  · exact .inr ⟨hs.1, hi.above i (i + 1) (by omega) (by omega) hs.1⟩
theorem st_same {l : List Pc} {room : Int} {s : St} (hi : Inv l room l.length s) (hop : s.op = l.length) {j : Nat} (h0 : 0 < j) (hj : j < l.length) {e : Int} (he : Eok l s j e) (hl : (gt s j).f1 = (gt s (j - 1)).f1) :
    e ≤ (gt s j).f2.f1 ∧ (j + 1 ≤ l.length ∧ Eok l s (j + 1) e) := by
  have hk := (hi.isk j hj).2.2.2.2.2
  rcases he with he | ⟨m, h1, h2, h3⟩
  · exact ⟨by omega, hj, .inl he⟩
  · have := hi.above m j (by omega) (by omega) (by omega)
    exact ⟨by omega, hj, .inr ⟨m, by omega, h2, by rw [Nat.add_sub_cancel]; omega⟩⟩
theorem st_other {l : List Pc} {s : St} {j : Nat} (h0 : 0 < j) (hj : j < l.length) (hl : (gt s j).f1 = (gt s (j - 1)).f1 + 1) : j + 1 ≤ l.length ∧ Eok l s (j + 1) ((gt s (j - 1)).f2.f1 + (pc l (j - 1)).f2) :=
  ⟨hj, .inr ⟨j - 1, by omega, rfl, by rw [Nat.add_sub_cancel]; omega⟩⟩

end Go.Proofs.Ythkipbnigokcfaa.Q
