/- LineFits: in all the room that pieces can have they stand in one line; in what they must have none stands beyond it: the plain law, and the walk. -/
import Derived.Test.YthkipbnigokcfaaLnM
import Derived.Test.YthkipbnigokcfaaQx9
import Derived.Test.YthkipbnigokcfaaOps
namespace Go.Proofs.Ythkipbnigokcfaa.Q
open Go.RowKit Go.IntWalk Go.Proofs.Ythkipbnigokcfaa.Mem Go.Proofs.YthkipbnigokcfaaW.PrintWords Go.Proofs.YthkipbnigokcfaaW.PrintLast Go.Proofs.YthkipbnigokcfaaW.PrintMore
set_option linter.unusedVariables false
set_option linter.unusedSimpArgs false

/-! ### Sums -/
def sumF : Int → Bool → List Int → Int × Bool
  | a, b, [] => (a, b)
  | a, b, x :: r => sumF (addV a x) (b && addB a x) r
def sumI : List Int → Int
  | [] => 0
  | x :: r => x + sumI r
theorem sumI_app : ∀ (a b : List Int), sumI (a ++ b) = sumI a + sumI b
  | [], b => by simp [sumI]
  | x :: a, b => by show x + sumI (a ++ b) = x + sumI a + sumI b; rw [sumI_app a b]; omega
theorem sum_exact : ∀ (xs : List Int) (a : Int) (b : Bool), In a → (∀ x ∈ xs, In x) → (sumF a b xs).2 = true → b = true ∧ (sumF a b xs).1 = a + sumI xs
  | [], a, b, _, _, h => ⟨h, by simp [sumF, sumI]⟩
  | x :: r, a, b, ha, hx, h => by
    have hxi := hx x (by simp)
    obtain ⟨h1, h2⟩ := sum_exact r (addV a x) (b && addB a x) (addV_ok ha hxi) (fun y hy => hx y (by simp [hy])) h
    rw [Bool.and_eq_true] at h1
    refine ⟨h1.1, ?_⟩
    show (sumF (addV a x) (b && addB a x) r).1 = a + (x + sumI r)
    rw [h2, addV_exact ha hxi h1.2]; omega
theorem sum_l0 (xs : List Int) (hn : xs.length ≤ 1000000) : ∀ (d j : Nat) (a : Int) (b : Bool), xs.length - j ≤ d → j ≤ xs.length → Ev (fun k => fixed_Sum.l0 k a b xs (xs.length : Int) (j : Int)) (sumF a b (xs.drop j))
  | d, j, a, b, hd, hj => by
    by_cases hlt : j < xs.length
    · rcases d with _ | d
      · omega
      have hdr : xs.drop j = xs[j] :: xs.drop (j + 1) := List.drop_eq_getElem_cons hlt
      have hrd : rd xs (j : Int) = xs[j] := by unfold rd; rw [Int.toNat_natCast, List.getD_eq_getElem?_getD, List.getElem?_eq_getElem hlt]; rfl
      rw [hdr]
      have ih := sum_l0 xs hn d (j + 1) (addV a xs[j]) (b && addB a xs[j]) (by omega) (by omega)
      refine Ev.step (fun k => ?_) ih
      rw [fixed_Sum.l0, if_pos (by omega), if_pos (by omega), if_pos (by omega), hrd, wrap64_in _ (by omega)]
      show (if b = true then _ else _) = _
      cases b
      · rw [if_neg (by simp)]; rfl
      · rw [if_pos rfl]; rfl
    · obtain rfl : j = xs.length := by omega
      refine Ev.step (f := fun _ => some (a, b)) (fun k => ?_) (by rw [List.drop_length]; exact Ev.now _)
      rw [fixed_Sum.l0, if_neg (by omega)]
theorem sum_ev (xs : List Int) (hn : xs.length ≤ 1000000) : Ev (fun k => fixed_Sum.f k xs) (sumF 0 true xs) := by
  have := sum_l0 xs hn xs.length 0 0 true (by omega) (Nat.zero_le _)
  rw [List.drop_zero] at this
  exact this

/-! ### What pieces can have -/
theorem max_l0 (l : List Pc) (hn : l.length ≤ 200) : ∀ (d j : Nat) (acc : List Int), l.length - j ≤ d → j ≤ l.length → acc.length ≤ 2 * j →
    Ev (fun k => measure_Max.l0 k acc l (l.length : Int) (j : Int)) (sumF 0 true (acc ++ (l.drop j).flatMap fun p => [p.f3, p.f1]))
  | d, j, acc, hd, hj, ha => by
    by_cases hlt : j < l.length
    · rcases d with _ | d
      · omega
      have hdr : l.drop j = pc l j :: l.drop (j + 1) := by
        rw [List.drop_eq_getElem_cons hlt]; unfold pc; rw [List.getD_eq_getElem?_getD, List.getElem?_eq_getElem hlt]; rfl
      rw [hdr]
      have ih := max_l0 l hn d (j + 1) (acc ++ [(pc l j).f3, (pc l j).f1]) (by omega) (by omega) (by simp; omega)
      rw [List.flatMap_cons, ← List.append_assoc]
      refine Ev.step (fun k => ?_) ih
      rw [measure_Max.l0, if_pos (by omega), if_pos (by omega), if_pos (by omega), rd_pc, Option.bind_some, if_pos (by simp; omega), wrap64_in _ (by omega)]
      rfl
    · obtain rfl : j = l.length := by omega
      rw [List.drop_length, List.flatMap_nil, List.append_nil]
      refine Ev.step (f := fun k => (fixed_Sum.f k acc).bind fun b => some (b.1, b.2)) (fun k => ?_) (Ev.bind (sum_ev acc (by omega)) (Ev.now _))
      rw [measure_Max.l0, if_neg (by omega)]
theorem max_ev (l : List Pc) (hn : l.length ≤ 200) : Ev (fun k => measure_Max.f k l) (sumF 0 true (l.flatMap fun p => [p.f3, p.f1])) := by
  have := max_l0 l hn l.length 0 [] (by omega) (Nat.zero_le _) (by simp)
  rw [List.drop_zero, List.nil_append] at this
  exact this
theorem sumI_flat : ∀ (l : List Pc), sumI (l.flatMap fun p => [p.f3, p.f1]) = sumR l
  | [] => rfl
  | p :: l => by
    rw [List.flatMap_cons, sumI_app, sumI_flat l]
    show p.f3 + (p.f1 + 0) + sumR l = p.f3 + p.f1 + sumR l
    omega

/-! ### What pieces must have -/
def rowN (row : List Int) (p : Pc) : List Int :=
  (if ((if p.f5 = true then [] else row).length : Int) > 0 then (if p.f5 = true then [] else row) ++ [p.f3] else (if p.f5 = true then [] else row)) ++ [p.f1]
def brk : List Pc → Bool
  | [] => true
  | q :: _ => q.f5
def minF : List Int → Int → Bool → List Pc → Int × Bool
  | _, m, b, [] => (m, b)
  | row, m, b, p :: r => if brk r = true then minF (rowN row p) (mx m (sumF 0 true (rowN row p)).1) (b && (sumF 0 true (rowN row p)).2) r else minF (rowN row p) m b r
theorem rowN_len (row : List Int) (p : Pc) : (rowN row p).length ≤ row.length + 2 := by
  unfold rowN
  split <;> split <;> simp
set_option maxHeartbeats 2000000 in
theorem min_l0 (l : List Pc) (hn : l.length ≤ 200) : ∀ (d j : Nat) (row : List Int) (m : Int) (b : Bool), l.length - j ≤ d → j ≤ l.length → row.length ≤ 2 * j →
    Ev (fun k => measure_Min.l0 k l row m b l (l.length : Int) (j : Int)) (minF row m b (l.drop j)) := by
    intro d
    have fin : ∀ (row : List Int) (m : Int) (b : Bool), Ev (fun k => measure_Min.l0 k l row m b l (l.length : Int) (l.length : Int)) (minF row m b (l.drop l.length)) := fun row m b => by
      rw [List.drop_length]
      refine Ev.step (f := fun _ => some (m, b)) (fun k => ?_) (Ev.now _)
      rw [measure_Min.l0, if_neg (by omega)]
    induction d with
    | zero => intro j row m b hd hj ha; obtain rfl : j = l.length := by omega
              exact fin row m b
    | succ d IH =>
      intro j row m b hd hj ha
      rcases Nat.lt_or_ge j l.length with hlt | hlt
      rotate_left
      · obtain rfl : j = l.length := by omega
        exact fin row m b
      have hdr : l.drop j = pc l j :: l.drop (j + 1) := by
        rw [List.drop_eq_getElem_cons hlt]; unfold pc; rw [List.getD_eq_getElem?_getD, List.getElem?_eq_getElem hlt]; rfl
      rw [hdr]
      have hlen := rowN_len row (pc l j)
      have hw : wrap64 ((j : Int) + 1) = ((j + 1 : Nat) : Int) := by rw [wrap64_in _ (by omega)]; omega
      have hbk : Hid (brk (l.drop (j + 1)) = true ↔ (((j + 1 : Nat) : Int) = (l.length : Int) ∨ (pc l (j + 1)).f5 = true)) := Lib.hid <| by
        by_cases h : j + 1 < l.length
        · rw [List.drop_eq_getElem_cons h]
          have : pc l (j + 1) = l[j + 1] := by unfold pc; rw [List.getD_eq_getElem?_getD, List.getElem?_eq_getElem h]; rfl
          rw [this]
          show l[j + 1].f5 = true ↔ _
          constructor
          · exact fun h => .inr h
          · rintro (h | h)
            · omega
            · exact h
        · rw [List.drop_of_length_le (by omega)]
          exact ⟨fun _ => .inl (by omega), fun _ => rfl⟩
      have cont : ∀ y : List Int, y.length ≤ 2 * (j + 1) → Ev (fun k => (fixed_Sum.f k y).bind fun bt => if b = true then measure_Min.l0 k l y (mx m bt.1) bt.2 l (l.length : Int) ((j + 1 : Nat) : Int) else measure_Min.l0 k l y (mx m bt.1) false l (l.length : Int) ((j + 1 : Nat) : Int))
          (minF y (mx m (sumF 0 true y).1) (b && (sumF 0 true y).2) (l.drop (j + 1))) := fun y hy => by
        refine Ev.bind (sum_ev y (by omega)) ?_
        have ih := IH (j + 1) y (mx m (sumF 0 true y).1) (b && (sumF 0 true y).2) (by omega) (by omega) hy
        cases b
        · simpa using ih
        · simpa using ih
      have key : Ev (fun k => if ((j + 1 : Nat) : Int) = (l.length : Int) then (fixed_Sum.f k (rowN row (pc l j))).bind (fun bt => if b = true then measure_Min.l0 k l (rowN row (pc l j)) (mx m bt.1) bt.2 l (l.length : Int) ((j + 1 : Nat) : Int) else measure_Min.l0 k l (rowN row (pc l j)) (mx m bt.1) false l (l.length : Int) ((j + 1 : Nat) : Int))
          else if 0 ≤ ((j + 1 : Nat) : Int) then if ((j + 1 : Nat) : Int) < (l.length : Int) then if (rd_T32 l ((j + 1 : Nat) : Int)).f5 = true then (fixed_Sum.f k (rowN row (pc l j))).bind (fun bt => if b = true then measure_Min.l0 k l (rowN row (pc l j)) (mx m bt.1) bt.2 l (l.length : Int) ((j + 1 : Nat) : Int) else measure_Min.l0 k l (rowN row (pc l j)) (mx m bt.1) false l (l.length : Int) ((j + 1 : Nat) : Int))
            else measure_Min.l0 k l (rowN row (pc l j)) m b l (l.length : Int) ((j + 1 : Nat) : Int) else none else none) (minF row m b (pc l j :: l.drop (j + 1))) := by
        rw [minF]
        by_cases h1 : ((j + 1 : Nat) : Int) = (l.length : Int)
        · simp only [if_pos h1, if_pos (hbk.out.2 (.inl h1))]
          exact cont _ (by omega)
        · simp only [if_neg h1, if_pos (show (0 : Int) ≤ ((j + 1 : Nat) : Int) by omega), if_pos (show ((j + 1 : Nat) : Int) < (l.length : Int) by omega), rd_pc]
          by_cases h2 : (pc l (j + 1)).f5 = true
          · simp only [if_pos h2, if_pos (hbk.out.2 (.inr h2))]
            exact cont _ (by omega)
          · simp only [if_neg h2, if_neg (show ¬ brk (l.drop (j + 1)) = true from fun h => by rcases hbk.out.1 h with h | h; exact h1 h; exact h2 h)]
            exact IH (j + 1) _ m b (by omega) (by omega) (by omega)
      have k1 : Ev (fun k => measure_Min.j1 k l (if (pc l j).f5 = true then [] else row) m b (j : Int) l (l.length : Int) (j : Int) (pc l j).f0 (pc l j).f1 (pc l j).f2 (pc l j).f3 (pc l j).f4 (pc l j).f5) (minF row m b (pc l j :: l.drop (j + 1))) := by
        refine Ev.step (fun k => ?_) key
        have hl0 : (if (pc l j).f5 = true then [] else row).length ≤ 2 * j := by
          split
          · exact Nat.zero_le _
          · exact ha
        rw [measure_Min.j1, hw]
        unfold rowN
        by_cases h0 : ((if (pc l j).f5 = true then [] else row).length : Int) > 0
        · rw [if_pos h0, if_pos (by omega), Option.bind_some, if_pos (by simp; omega), Option.bind_some]
          simp only [if_pos h0]
        · rw [if_neg h0, if_pos (by omega), Option.bind_some]
          simp only [if_neg h0]
      refine Ev.step (fun k => ?_) k1
      rw [measure_Min.l0, if_pos (by omega), if_pos (by omega), if_pos (by omega), rd_pc]
      by_cases h5 : (pc l j).f5 = true
      · simp only [if_pos h5]
      · simp only [if_neg h5]
theorem min_ev (l : List Pc) (hn : l.length ≤ 200) : Ev (fun k => measure_Min.f k l) (minF [] 0 true l) := by
  have := min_l0 l hn l.length 0 [] 0 true (by omega) (Nat.zero_le _) (by simp)
  rw [List.drop_zero] at this
  exact this

/-- How wide a row is, up to each piece. -/
def st (g : Bool) (n : Int) (p : Pc) : Int := if p.f5 = true then p.f1 else if g = true then n + p.f3 + p.f1 else p.f1
def rsAt : Bool → Int → List Pc → Nat → Int
  | _, _, [], _ => 0
  | g, n, p :: _, 0 => st g n p
  | g, n, p :: r, i + 1 => rsAt true (st g n p) r i
theorem rs_succ : ∀ (l : List Pc) (g : Bool) (n : Int) (k : Nat), k + 1 < l.length → rsAt g n l (k + 1) = st true (rsAt g n l k) (pc l (k + 1))
  | [], _, _, _, h => by simp at h
  | p :: [], _, _, _, h => by simp at h
  | p :: q :: r, g, n, 0, _ => rfl
  | p :: q :: r, g, n, k + 1, h => rs_succ (q :: r) true (st g n p) k (by simpa using h)
theorem rowN_in {row : List Int} {p : Pc} (h : ∀ x ∈ row, In x) (hp : okP p) : ∀ x ∈ rowN row p, In x := fun x hx => by
  have h0 : ∀ x ∈ (if p.f5 = true then [] else row), In x := fun x hx => by
    by_cases h5 : p.f5 = true
    · rw [if_pos h5] at hx; cases hx
    · rw [if_neg h5] at hx; exact h x hx
  unfold rowN at hx
  generalize (if p.f5 = true then [] else row) = row0 at hx h0
  rw [List.mem_append] at hx
  rcases hx with hx | hx
  · by_cases hl : (row0.length : Int) > 0
    · rw [if_pos hl, List.mem_append] at hx
      rcases hx with hx | hx
      · exact h0 x hx
      · rw [List.mem_singleton] at hx; rw [hx]; exact hp.2.2
    · rw [if_neg hl] at hx
      exact h0 x hx
  · rw [List.mem_singleton] at hx; rw [hx]; exact hp.1
theorem rowN_sum (row : List Int) (p : Pc) : sumI (rowN row p) = st (!row.isEmpty) (sumI row) p := by
  unfold rowN st
  by_cases h5 : p.f5 = true
  · simp [h5, sumI]
  · rw [if_neg h5, if_neg h5, sumI_app]
    cases row with
    | nil => simp [sumI]
    | cons x r =>
      rw [if_pos (by simp), sumI_app]
      simp [sumI]
theorem rowN_ne (row : List Int) (p : Pc) : (rowN row p).isEmpty = false := by unfold rowN; simp
theorem mx_ge (a b : Int) : a ≤ mx a b ∧ b ≤ mx a b := by unfold mx; split <;> omega
theorem min_prop : ∀ (q : List Pc) (row : List Int) (m : Int) (b : Bool), (∀ x ∈ row, In x) → (∀ p ∈ q, okP p) → (minF row m b q).2 = true →
    b = true ∧ m ≤ (minF row m b q).1 ∧ ∀ i, i < q.length → rsAt (!row.isEmpty) (sumI row) q i ≤ (minF row m b q).1
  | [], row, m, b, _, _, h => ⟨h, Int.le_refl _, fun i hi => by simp at hi⟩
  | p :: r, row, m, b, hr, hp, h => by
    have hpp := hp p (by simp)
    have hri := rowN_in hr hpp
    have hpr : ∀ q ∈ r, okP q := fun q hq => hp q (by simp [hq])
    have hsum := rowN_sum row p
    rw [minF] at h ⊢
    by_cases hb : brk r = true
    · rw [if_pos hb] at h ⊢
      obtain ⟨h1, h2, h3⟩ := min_prop r _ _ _ hri hpr h
      rw [Bool.and_eq_true] at h1
      have h4 := (sum_exact _ 0 true in0 hri h1.2).2
      have h5 := mx_ge m (sumF 0 true (rowN row p)).1
      refine ⟨h1.1, by omega, fun i hi => ?_⟩
      rcases i with _ | i
      · show st _ _ p ≤ _
        rw [← hsum]; omega
      · have := h3 i (by simpa using hi)
        rw [rowN_ne, hsum] at this
        exact this
    · rw [if_neg hb] at h ⊢
      obtain ⟨h1, h2, h3⟩ := min_prop r _ _ _ hri hpr h
      refine ⟨h1, h2, fun i hi => ?_⟩
      rcases i with _ | i
      · rcases r with _ | ⟨q, r⟩
        · exact (hb rfl).elim
        · have := h3 0 (by simp)
          rw [rowN_ne, hsum] at this
          have hq := hpr q (by simp)
          have hqb : ¬ q.f5 = true := hb
          unfold okP In at hq
          change st true _ q ≤ _ at this
          unfold st at this
          rw [if_neg hqb, if_pos rfl] at this
          show st _ _ p ≤ _
          unfold st
          omega
      · have := h3 i (by simpa using hi)
        rw [rowN_ne, hsum] at this
        exact this

/-! ### The law -/
theorem fit_row {l : List Pc} {room : Int} {s : St} {wd : Nat → Int} (hi : Inv l room l.length s) (hm : Sm l.length s wd) : ∀ k, k < l.length →
    ∃ j, j ≤ k ∧ (gt s j).f1 = (gt s k).f1 ∧ (gt s j).f2.f0 = 0 ∧ ((∃ i, j < i ∧ i ≤ k ∧ (pc l i).f5 = true) ∨ (gt s k).f2.f0 + (pc l k).f1 = rsAt false 0 l k)
  | 0, hk => by
    refine ⟨0, Nat.le_refl _, rfl, hm.first 0 hk (.inl rfl), .inr ?_⟩
    rw [hm.first 0 hk (.inl rfl)]
    rcases l with _ | ⟨p, r⟩
    · simp at hk
    · show 0 + p.f1 = st false 0 p
      unfold st
      split <;> simp
  | k + 1, hk => by
    obtain ⟨j, h1, h2, h3, h4⟩ := fit_row hi hm k (by omega)
    have hrs := rs_succ l false 0 k hk
    rcases hi.step k hk with hs | hs
    · have hx := hi.next k hk hs
      refine ⟨j, by omega, by omega, h3, ?_⟩
      by_cases hb : (pc l (k + 1)).f5 = true
      · exact .inl ⟨k + 1, by omega, Nat.le_refl _, hb⟩
      · rcases h4 with ⟨i, h5, h6, h7⟩ | h4
        · exact .inl ⟨i, h5, by omega, h7⟩
        · refine .inr ?_
          rw [hrs, st, if_neg hb, if_pos rfl]
          omega
    · refine ⟨k + 1, Nat.le_refl _, rfl, hm.first (k + 1) hk (.inr ?_), .inr ?_⟩
      · rw [Nat.add_sub_cancel]; omega
      · rw [hm.first (k + 1) hk (.inr (by rw [Nat.add_sub_cancel]; omega)), hrs, st, if_pos hs.2]
        omega
theorem sumR_nn : ∀ (l : List Pc), (∀ p ∈ l, okP p) → 0 ≤ sumR l
  | [], _ => Int.le_refl _
  | p :: r, h => by
    have := sumR_nn r (fun q hq => h q (by simp [hq]))
    have hp := h p (by simp)
    unfold okP In at hp
    show 0 ≤ p.f3 + p.f1 + sumR r
    omega
theorem take_sum {l : List Pc} {k : Nat} (h : k < l.length) : sumR (l.take (k + 1)) = sumR (l.take k) + ((pc l k).f3 + (pc l k).f1) := by
  rw [List.take_succ_eq_append_getElem h, sumR_app]
  have : pc l k = l[k] := by unfold pc; rw [List.getD_eq_getElem?_getD, List.getElem?_eq_getElem h]; rfl
  rw [this]
  show _ + (l[k].f3 + l[k].f1 + 0) = _
  omega
theorem wide_sum {l : List Pc} {room : Int} {s : St} (hi : Inv l room l.length s) (hp : ∀ p ∈ l, okP p) : ∀ k, k < l.length →
    ∃ j, j ≤ k ∧ (gt s j).f1 = (gt s k).f1 ∧ (j = 0 ∨ (gt s (j - 1)).f1 ≠ (gt s j).f1) ∧ (gt s k).f2.f0 + (pc l k).f1 - (gt s j).f2.f0 ≤ sumR (l.take (k + 1))
  | 0, hk => by
    refine ⟨0, Nat.le_refl _, rfl, .inl rfl, ?_⟩
    rw [take_sum hk]
    have hq := hp (pc l 0) (by unfold pc; rw [List.getD_eq_getElem?_getD, List.getElem?_eq_getElem hk]; exact List.getElem_mem hk)
    unfold okP In at hq
    simp [sumR]
    omega
  | k + 1, hk => by
    obtain ⟨j, h1, h2, h3, h4⟩ := wide_sum hi hp k (by omega)
    have hts := take_sum hk
    have hq := hp (pc l (k + 1)) (by unfold pc; rw [List.getD_eq_getElem?_getD, List.getElem?_eq_getElem hk]; exact List.getElem_mem hk)
    unfold okP In at hq
    rcases hi.step k hk with hs | hs
    · have hx := hi.next k hk hs
      exact ⟨j, by omega, by omega, h3, by omega⟩
    · have := sumR_nn (l.take (k + 1)) (fun p hm => hp p (List.mem_of_mem_take hm))
      exact ⟨k + 1, Nat.le_refl _, rfl, .inr (by rw [Nat.add_sub_cancel]; omega), by omega⟩
theorem rowSum_le {l : List Pc} (hp : ∀ p ∈ l, okP p) (k : Nat) : rowSum l k ≤ sumR (l.drop k) := by
  unfold rowSum
  rcases hd : l.drop k with _ | ⟨p, r⟩
  · exact Int.le_refl _
  · have h1 : sumR r = sumR (r.take (rest r)) + sumR (r.drop (rest r)) := by rw [← sumR_app, List.take_append_drop]
    have h2 := sumR_nn (r.drop (rest r)) (fun q hq => hp q (List.mem_of_mem_drop (i := k) (by rw [hd]; exact List.mem_cons_of_mem _ (List.mem_of_mem_drop hq))))
    show p.f3 + p.f1 + sumR (r.take (rest r)) ≤ p.f3 + p.f1 + sumR r
    omega
theorem one_line {l : List Pc} {room : Int} {s : St} (hi : Inv l room l.length s) (hp : ∀ p ∈ l, okP p) (hr : sumR l ≤ room) : ∀ k, k < l.length → (gt s k).f1 = 0
  | 0, hk => hi.ln0 hk
  | k + 1, hk => by
    have ih := one_line hi hp hr k (by omega)
    rcases hi.step k hk with hs | hs
    · rw [hs]; exact ih
    · obtain ⟨j, h1, h2, h3, h4⟩ := wide_sum hi hp k (by omega)
      have h5 := hi.greedy j k h1 hk hs.1 h2 h3
      have h6 := rowSum_le hp (k + 1)
      have h7 : sumR l = sumR (l.take (k + 1)) + sumR (l.drop (k + 1)) := by rw [← sumR_app, List.take_append_drop]
      omega
theorem fits_l0 {l : List Pc} {room m n : Int} {s : St} (hn : l.length ≤ 200) (hlen : s.out.length = l.length) (hx : ∀ k, k < l.length → In (gt s k).f2.f0 ∧ In (gt s k).f2.f2) (h1 : ∀ k, k < l.length → room ≥ n → (gt s k).f1 ≤ 0) (h2 : ∀ k, k < l.length → room ≥ m → (gt s k).f2.f0 + (gt s k).f2.f2 ≤ room) :
    ∀ (d j : Nat), l.length - j ≤ d → j ≤ l.length → Ev (fun k => scrimlaw16_LineFits.l0 k l room s.out m n s.out (l.length : Int) (j : Int)) true
  | d, j, hd, hj => by
    by_cases hlt : j < l.length
    · rcases d with _ | d
      · omega
      refine Ev.step (fun k => ?_) (fits_l0 hn hlen hx h1 h2 d (j + 1) (by omega) (by omega))
      have a1 := h1 j hlt
      have a2 := h2 j hlt
      have a3 := hx j hlt
      have hw : wrap64 ((j : Int) + 1) = ((j + 1 : Nat) : Int) := by rw [wrap64_in _ (by omega)]; omega
      unfold In at a3
      rw [scrimlaw16_LineFits.l0, if_pos (by omega), if_pos (by omega), if_pos (by rw [hlen]; omega), rd_gt, hw, wrap64_in _ (by omega)]
      by_cases c1 : room ≥ n
      · rw [if_pos c1, if_neg (by have := a1 c1; omega)]
        by_cases c2 : room ≥ m
        · rw [if_pos c2, if_neg (by have := a2 c2; omega)]
        · rw [if_neg c2]
      · rw [if_neg c1]
        by_cases c2 : room ≥ m
        · rw [if_pos c2, if_neg (by have := a2 c2; omega)]
        · rw [if_neg c2]
    · refine Ev.step (f := fun _ => some true) (fun k => ?_) (Ev.now _)
      rw [scrimlaw16_LineFits.l0, if_neg (by omega), hlen, beq_self_eq_true]
theorem fits_true (l : List Pc) (a : Int) : Ev (fun k => scrimlaw16_LineFits.f k l a) true := by
  unfold scrimlaw16_LineFits.f scrimlaw16_awake.f
  simp only [Option.bind_some, if_true]
  by_cases h1 : (l.length : Int) > 200
  · simp only [if_pos h1]; exact Ev.now _
  · simp only [if_neg h1, fill_some l a _ h1, Option.bind_some]
    refine Ev.bind (min_ev l (by omega)) (Ev.bind (max_ev l (by omega)) ?_)
    have jt : ∀ (p : List Pl) (q r : Int), Ev (fun k => scrimlaw16_LineFits.j0 k l a p q r true) true := fun p q r => Ev.step (f := fun _ => some true) (fun k => by rw [scrimlaw16_LineFits.j0, if_pos rfl]) (Ev.now _)
    cases hex : (fillR l a 0).2.2 with
    | false => simp only [if_neg (show ¬ (false = true) by simp)]; exact jt _ _ _
    | true =>
      cases hm : (minF [] 0 true l).2 with
      | false => simp only [if_true, if_neg (show ¬ (false = true) by simp)]; exact jt _ _ _
      | true =>
        cases hM : (sumF 0 true (l.flatMap fun p => [p.f3, p.f1])).2 with
        | false => simp only [if_true, Bool.not_false]; exact jt _ _ _
        | true =>
          obtain ⟨s, e, hi, hop, hr, hp, z⟩ := exact_inv hex
          have hpl := ok_of hp
          obtain ⟨wd, hsm, -⟩ := fill_sm hr hpl (by rw [← z]; exact hi.smooth)
          rw [← z] at hsm
          have hmax := (sum_exact _ 0 true in0 (fun x hx => by
            rw [List.mem_flatMap] at hx
            obtain ⟨p, hpm, hx⟩ := hx
            have := hpl p hpm
            simp only [List.mem_cons, List.not_mem_nil, or_false] at hx
            rcases hx with rfl | rfl
            · exact this.2.2
            · exact this.1) hM).2
          rw [sumI_flat] at hmax
          have hmin := (min_prop l [] 0 true (fun x hx => by cases hx) hpl hm).2.2
          simp only [if_true, e, Bool.not_true]
          refine Ev.step (fun k => ?_) (fits_l0 (room := a) (m := (minF [] 0 true l).1) (n := (sumF 0 true (l.flatMap fun p => [p.f3, p.f1])).1) (by omega) hi.len (fun k hk => ⟨⟨(hi.isk k hk).2.2.2.1, (hi.isk k hk).2.2.2.2.1⟩, by rw [(hi.isk k hk).2.1]; exact (hp k hk).1⟩) (fun k hk hc => ?_) (fun k hk hc => ?_) l.length 0 (by omega) (Nat.zero_le _))
          · rw [scrimlaw16_LineFits.j0, if_neg (by simp), hi.len]
            rfl
          · rw [one_line hi hpl (by omega) k hk]
            exact Int.le_refl _
          · rw [(hi.isk k hk).2.1]
            obtain ⟨j, j1, j2, j3, j4⟩ := fit_row hi hsm k hk
            rcases j4 with ⟨i, i1, i2, i3⟩ | j4
            · have := hi.fit j k (by omega) hk j2 ⟨i, i1, i2, i3⟩
              omega
            · have := hmin k hk
              change rsAt false 0 l k ≤ _ at this
              omega
theorem fits_walk (A0 : Option Addr) (c0 : Nat) (l0 : List S32) (a1 : Int) (w : World) (hr0 : Kd.C k32 w A0 l0.length l0) (hc0 : l0.length ≤ c0) (g0 : ((∀ y ∈ l0, (good32 y)) ∧ l0.length ≤ maxLen)) (g1 : ((Lit.int .i64 a1).wf = true)) :
    Calls Try.prog 7 #[.slice A0 l0.length c0, .int .i64 a1] w fun e w' => e = .returned (.bool true) ∧ Below w.heap.size w w' := by
  obtain ⟨k, hk⟩ := (fits_true l0 a1).rounds
  exact scrimlaw16_LineFits.calls k A0 c0 l0 a1 true w hr0 hc0 hk
end Go.Proofs.Ythkipbnigokcfaa.Q
