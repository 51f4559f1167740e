/- The rows of pieces as a contract for a range over them; and that the filler over them is the plain one. -/
import Derived.Test.YthkipbnigokcfaaLnR
import Derived.Test.YthkipbnigokcfaaLnC
namespace Go.Proofs.Ythkipbnigokcfaa.Q
open Go.RowKit Go.Shelf Go.IntWalk Go.Proofs.Ythkipbnigokcfaa.Mem Go.Proofs.YthkipbnigokcfaaW.PrintWords Go.Proofs.YthkipbnigokcfaaW.PrintLast Go.Proofs.YthkipbnigokcfaaW.PrintMore
set_option linter.unusedVariables false
set_option linter.unusedSimpArgs false

set_option maxRecDepth 100000 in
set_option maxHeartbeats 4000000 in
theorem rows_nil (F : Fence) (n : Nat) (h24 : F.fn 24) (hro : F.round = none) (r Bs : Nat) (A : Option Addr) (c : Nat) (J : World → Prop) (W : World) (hBs : Blk W Bs #[.slice A 0 c] 22) (h0 : J W) :
    CallsIn F n Try.prog 24 #[.func (.yield r) #[] #[], .pointer (some ⟨Bs, 0, none⟩)] W fun e W' => (∃ v, e = .returned v) ∧ J W' := by
  have HBS := Lib.hid hBs
  clear hBs
  refine callsIn_of_wp Try.func24 rfl h24 ?_ hro
  simp only [Try.ntmps24, List.size_toArray, List.length_cons, List.length_nil, Nat.reduceAdd, Nat.reduceSub, Array.replicate_succ, Array.replicate_zero, List.push_toArray, List.append_toArray, List.nil_append, List.cons_append]
  gi_wp2
  gi_loopw [3, 4] (fun f i wr => i = .int .i64 1 ∧ f = .int .i64 0 ∧ J wr ∧ Hid (Blk wr Bs #[.slice A 0 c] 22)) (fun _ _ _ => 0)
  case atStart => exact ⟨rfl, rfl, h0, HBS⟩
  case round =>
    obtain ⟨rfl, rfl, hJs, HX⟩ := hrel
    have y0 := HX.out.cell 0
    simp only [List.getElem?_toArray, List.getElem?_cons_zero] at y0
    gi_wp2
    go_end0
    exact ⟨⟨_, rfl⟩, hJs⟩

/-- Rows hands back a value that this law's loops may range over. -/
theorem rows_stops (F : Fence) (n : Nat) (h24 : F.fn 24) (hro : F.round = none) (hn : 1 ≤ n) (Bs : Nat) (A : Option Addr) (c : Nat) (l : List Pc) (w0 w1 : World) (hC : Kd.C k32 w0 A l.length l) (hL : l.length ≤ 1000000) (hc : l.length ≤ c)
    (h1 : Below w0.heap.size w0 w1) (hBs : Blk w1 Bs #[.slice A l.length c] 22) :
    SeqStopsK F n Try.prog 24 #[.pointer (some ⟨Bs, 0, none⟩)] (fun x : Rw l.length => encR A x) (KpB w0.heap.size Bs) (fun ys => ys = (itr l l.length).1) (fun _ => True) l.length w1 := by
  intro r J Jx W hW _ _ hY h0
  have hW0 : Below w0.heap.size w0 W := h1.trans (hW.mono h1.size)
  have hBW := hBs.below hW hBs.lt
  by_cases hl : l = []
  · subst hl
    refine (rows_nil F n h24 hro r Bs A c (fun W' => J [] W') W hBW h0).mono ?_
    rintro e W' ⟨he, hj⟩
    exact ⟨he, .inl ⟨[], rfl, hj⟩⟩
  · have hlp : 0 < l.length := List.length_pos_iff.2 hl
    obtain ⟨ad, rfl, -⟩ := at_T32 hC 0 (by omega) (by omega)
    refine (rows_in F n h24 hro hn r Bs ad c l w0 hC hL hc J Jx hY W hW0 hBW h0).mono ?_
    rintro e W' ⟨he, hj⟩
    refine ⟨he, ?_⟩
    rcases hj with ⟨k, ys, rfl, rfl, hj⟩ | hj
    · exact .inl ⟨_, rfl, hj⟩
    · exact .inr hj

/-! ### The filler over the rows -/
def stepR (l : List Pc) (room align : Int) (s : St) (x : Rw l.length) : St := s.row room align (x.1.1 : Int) ((l.drop x.1.1).take x.1.2)
def stepAll (l : List Pc) (room align : Int) (xs : List (Rw l.length)) : St := xs.foldl (stepR l room align) st0
theorem stepAll_snoc (l : List Pc) (room align : Int) (xs : List (Rw l.length)) (x : Rw l.length) : stepAll l room align (xs ++ [x]) = stepR l room align (stepAll l room align xs) x := by simp [stepAll]
theorem row_fine {s : St} {n : Nat} {room align i : Int} {r : List Pc} (h : Fine s n) (hr : In room) (hp : ∀ p ∈ r, okP p) : Fine (s.row room align i r) (n + r.length) := by
  unfold St.row
  split
  · exact put_fine r (fin_fine h hr) hp
  · exact put_fine r h hp
theorem st0_fine : Fine st0 0 := ⟨rfl, Nat.zero_le _, by decide, by decide, by unfold In st0; decide, by unfold In st0; decide, by unfold In st0; decide, fun x hx => by cases hx⟩
theorem all_fine {l : List Pc} {room align : Int} (hr : In room) (hp : ∀ p ∈ l, okP p) (xs : List (Rw l.length)) : ∃ n, n ≤ xs.length * l.length ∧ Fine (stepAll l room align xs) n := by
  suffices h : ∀ (s : St) (m : Nat), Fine s m → ∃ n, n ≤ m + xs.length * l.length ∧ Fine (xs.foldl (stepR l room align) s) n by
    obtain ⟨n, h1, h2⟩ := h st0 0 st0_fine
    exact ⟨n, by omega, h2⟩
  induction xs with
  | nil => intro s m h; exact ⟨m, by omega, h⟩
  | cons x xs ih =>
    intro s m h
    have hx := x.2
    have hlen : ((l.drop x.1.1).take x.1.2).length ≤ l.length := by simp; omega
    obtain ⟨n, h1, h2⟩ := ih (stepR l room align s x) (m + ((l.drop x.1.1).take x.1.2).length) (row_fine h hr (fun p hm => hp p (List.mem_of_mem_drop (List.mem_of_mem_take hm))))
    refine ⟨n, ?_, h2⟩
    have : (x :: xs).length * l.length = xs.length * l.length + l.length := by simp [Nat.add_mul]
    omega
theorem itr_run {l : List Pc} {n : Nat} {ys : List (Rw l.length)} (h : itr l n = (ys, n)) (hn : n < l.length) : ∀ j, j ≤ rest (l.drop (n + 1)) → itr l (n + j) = (ys, n)
  | 0, _ => h
  | j + 1, hj => by
    have hq := rest_le (l.drop (n + 1))
    rw [List.length_drop] at hq
    have hb := rest_brk (l.drop (n + 1)) j (by omega)
    rw [pc_drop] at hb
    show itr l (n + j + 1) = _
    rw [itr_skip (by omega) (by rw [← hb]; congr 2; omega)]
    exact itr_run h hn j (by omega)
theorem rows_step {l : List Pc} {room align : Int} : ∀ (N n : Nat) (ys : List (Rw l.length)), l.length - n ≤ N → n ≤ l.length → itr l n = (ys, n) →
    stepAll l room align (itr l l.length).1 = St.rows room align N (stepAll l room align ys) n (l.drop n)
  | 0, n, ys, hN, hn, h => by
    obtain rfl : n = l.length := by omega
    rw [h]; rfl
  | N + 1, n, ys, hN, hn, h => by
    rcases hd : l.drop n with _ | ⟨p, q⟩
    · obtain rfl : n = l.length := by have := List.drop_eq_nil_iff.1 hd; omega
      rw [h]; rfl
    · obtain ⟨d1, d2, d3⟩ := drop_pc hd
      have hrl := rest_le q
      have hql : q.length = l.length - (n + 1) := by rw [← d3, List.length_drop]
      have h1 := itr_run h d1 (rest q) (by rw [d3]; exact Nat.le_refl _)
      have h2 := itr_take (l := l) (k := n + rest q) (by omega) (fun ⟨h3, h4⟩ => by
        have := rest_next q (by omega)
        rw [← d3, pc_drop, d3] at this
        rw [show n + rest q + 1 = n + 1 + rest q from by omega] at h4
        rw [h4] at this; cases this)
      simp only [h1] at h2
      have h3 := rows_step (room := room) (align := align) N (n + rest q + 1) _ (by omega) (by omega) h2
      rw [h3, stepAll_snoc]
      have e1 : l.drop (n + rest q + 1) = q.drop (rest q) := by rw [← d3, List.drop_drop]; congr 1; omega
      have e2 : ((n + rest q + 1 : Nat) : Int) = (n : Int) + 1 + rest q := by omega
      have e3 : (l.drop n).take (n + rest q + 1 - n) = p :: q.take (rest q) := by rw [hd, show n + rest q + 1 - n = rest q + 1 from by omega]; rfl
      rw [e1, e2]
      show St.rows room align N (St.row (stepAll l room align ys) room align n ((l.drop n).take (n + rest q + 1 - n))) _ _ = _
      rw [e3]
      rfl
theorem fill_step (l : List Pc) (room align : Int) : (stepAll l room align (itr l l.length).1).fin room align = fillS l room align := by
  have h := rows_step (l := l) (room := room) (align := align) l.length 0 [] (by omega) (Nat.zero_le _) rfl
  rw [List.drop_zero] at h
  rw [h]; rfl
theorem inB_in {n : Int} (h : inB n = true) : In n := by
  unfold inB at h
  rw [Bool.and_eq_true] at h
  exact ⟨of_decide_eq_true h.1, of_decide_eq_true h.2⟩
theorem ok_of_any {l : List Pc} (h : l.any badP = false) : ∀ p ∈ l, okP p := fun p hp => by
  have h1 := List.any_eq_false.1 h p hp
  unfold badP at h1
  simp only [Bool.or_eq_true, Bool.not_eq_true', not_or, Bool.not_eq_false] at h1
  exact ⟨inB_in h1.1.1, inB_in h1.1.2, inB_in h1.2⟩
end Go.Proofs.Ythkipbnigokcfaa.Q
