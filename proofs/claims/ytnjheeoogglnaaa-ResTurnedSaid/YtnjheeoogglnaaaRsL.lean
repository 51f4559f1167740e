/- What the functions of package res, and the document's, compute, told plainly; and that both tell the same. -/
import Derived.Test.YtnjheeoogglnaaaRx6
import Derived.Test.YtnjheeoogglnaaaRx8
import Derived.IntWalk
namespace Go.Proofs.Ytnjheeoogglnaaa.R
open Go.RowKit Go.IntWalk Go.Proofs.Ytnjheeoogglnaaa.Mem Go.Proofs.YtnjheeoogglnaaaW.PrintWords Go.Proofs.YtnjheeoogglnaaaW.PrintLast Go.Proofs.YtnjheeoogglnaaaW.PrintMore
set_option linter.unusedVariables false
set_option linter.unusedSimpArgs false

/-! ### The first image of a name -/
def lk (l : List S47) (s : ByteArray) : Option S47 := l.find? fun x => eqS x.f0 s
theorem lk_pos {x : S47} {l : List S47} {s : ByteArray} (h : eqS x.f0 s = true) : lk (x :: l) s = some x := by unfold lk; simp [List.find?_cons, h]
theorem lk_neg {x : S47} {l : List S47} {s : ByteArray} (h : ¬ eqS x.f0 s = true) : lk (x :: l) s = lk l s := by unfold lk; simp [List.find?_cons, h]
theorem idx_spec (s : ByteArray) : ∀ (l : List S47) (k : Nat), (idxFrom s l k = -1 ∧ lk l s = none) ∨ ∃ i x, idxFrom s l k = ((k + i : Nat) : Int) ∧ l[i]? = some x ∧ lk l s = some x
  | [], _ => .inl ⟨rfl, rfl⟩
  | y :: l, k => by
    by_cases h : eqS y.f0 s = true
    · exact .inr ⟨0, y, by simp [idxFrom, h], rfl, lk_pos h⟩
    · rcases idx_spec s l (k + 1) with ⟨h1, h2⟩ | ⟨i, x, h1, h2, h3⟩
      · exact .inl ⟨by simp [idxFrom, h, h1], by rw [lk_neg h]; exact h2⟩
      · exact .inr ⟨i + 1, x, by simp only [idxFrom, if_neg h, h1]; congr 1; omega, h2, by rw [lk_neg h]; exact h3⟩
def sizeV (l : List S47) (s : ByteArray) : Int × Int × Bool := match lk l s with | none => (0, 0, false) | some x => if x.f3 = true then (x.f1, x.f2, true) else (1024, 1024, true)
def trueV (l : List S47) (s : ByteArray) : Int × Int × Bool := match lk l s with | none => (0, 0, false) | some x => (x.f1, x.f2, true)
theorem rd_at {l : List S47} {i : Nat} {x : S47} (h : l[i]? = some x) : rd_T47 l (i : Int) = x ∧ i < l.length := by
  have hl := (List.getElem?_eq_some_iff.1 h).1
  exact ⟨by unfold rd_T47; rw [Int.toNat_natCast, List.getD_eq_getElem?_getD, h]; rfl, hl⟩
theorem size_f (l : List S47) (n : Int) (b : Bool) (s : ByteArray) (hl : l.length < 3518437208883) : res_Size.f l n b s = some (sizeV l s) := by
  unfold res_Size.f res_Table_find.f sizeV idxOf
  rw [if_pos (by omega)]
  simp only [Option.bind_some]
  rcases idx_spec s l 0 with ⟨h1, h2⟩ | ⟨i, x, h1, h2, h3⟩
  · rw [h1, h2]; rfl
  · obtain ⟨h4, h5⟩ := rd_at h2
    rw [h1, h3, Nat.zero_add, if_neg (by omega), if_pos (by omega), if_pos (by omega), h4]
    dsimp only
    split <;> rfl
theorem true_f (l : List S47) (n : Int) (b : Bool) (s : ByteArray) (hl : l.length < 3518437208883) : res_True.f l n b s = some (trueV l s) := by
  unfold res_True.f res_Table_find.f trueV idxOf
  rw [if_pos (by omega)]
  simp only [Option.bind_some]
  rcases idx_spec s l 0 with ⟨h1, h2⟩ | ⟨i, x, h1, h2, h3⟩
  · rw [h1, h2]; rfl
  · obtain ⟨h4, h5⟩ := rd_at h2
    rw [h1, h3, Nat.zero_add, if_neg (by omega), if_pos (by omega), if_pos (by omega), h4]
theorem public_f (l : List S47) (n : Int) (b : Bool) (hl : l.length < 3518437208883) : res_Public.f l n b = some (l.map pub, (if b = true then n else 0), b) := by
  unfold res_Public.f; rw [if_pos hl]

/-! ### The document's tables -/
theorem rd_cv (l : List S47) (i : Nat) (h : i < l.length) : rd_T66 (l.map cv) (i : Int) = cv l[i] := by simp [rd_T66, h]
theorem rd_res (l : List S47) (i : Nat) (h : i < l.length) : rd_T47 l (i : Int) = l[i] := by simp [rd_T47, h]
theorem own_f (l : List S47) (n : Int) (b : Bool) (k : Nat) (hl : l.length < 3518437208883) : scrimlaw13_own.f k l n b = some (l.map cv, n, b) := by
  unfold scrimlaw13_own.f; rw [if_pos hl]
theorem rsize_loop (l : List S47) (n : Int) (b : Bool) (s : ByteArray) (hl : l.length < 3518437208883) : ∀ (d i : Nat), i + d = l.length → scrimref13_Size.l0 (d + 1) s (i : Int) (l.map cv) n b = some (sizeV (l.drop i) s)
  | 0, i, hi => by
    rw [scrimref13_Size.l0, if_neg (by simp; omega), List.drop_of_length_le (by omega)]; rfl
  | d + 1, i, hi => by
    have hlt : i < l.length := by omega
    rw [scrimref13_Size.l0, if_pos (by simp; omega), if_pos (by omega), rd_cv l i hlt, wrap64_in _ (by omega), List.drop_eq_getElem_cons hlt]
    have ih := rsize_loop l n b s hl d (i + 1) (by omega)
    by_cases he : l[i].f0.toList = s.toList
    · have hq : eqS l[i].f0 s = true := by simp [eqS, he]
      have hk : lk (l[i] :: l.drop (i + 1)) s = some l[i] := lk_pos hq
      rw [if_pos (show (cv l[i]).f0.toList = s.toList from he)]
      unfold sizeV
      rw [hk]
      show (if l[i].f3 = true then _ else _) = _
      dsimp only [cv]
      split <;> rfl
    · have hq : ¬ eqS l[i].f0 s = true := by simp [eqS, he]
      have hk : lk (l[i] :: l.drop (i + 1)) s = lk (l.drop (i + 1)) s := lk_neg hq
      rw [if_neg (show ¬ (cv l[i]).f0.toList = s.toList from he)]
      unfold sizeV at ih ⊢
      rw [hk]
      exact ih
theorem rsize_f (l : List S47) (n : Int) (b : Bool) (s : ByteArray) (hl : l.length < 3518437208883) : Ev (fun k => scrimref13_Size.f k (l.map cv) n b s) (sizeV l s) := by
  refine Ev.of (scrimref13_Size.mono (l.map cv) n b s) (k := l.length + 1) ?_
  have := rsize_loop l n b s hl l.length 0 (by omega)
  simpa [scrimref13_Size.f] using this
theorem rtrue_loop (l : List S47) (n : Int) (b : Bool) (s : ByteArray) (hl : l.length < 3518437208883) : ∀ (d i : Nat), i + d = l.length → scrimref13_True.l0 (d + 1) s (i : Int) (l.map cv) n b = some (trueV (l.drop i) s)
  | 0, i, hi => by
    rw [scrimref13_True.l0, if_neg (by simp; omega), List.drop_of_length_le (by omega)]; rfl
  | d + 1, i, hi => by
    have hlt : i < l.length := by omega
    rw [scrimref13_True.l0, if_pos (by simp; omega), if_pos (by omega), rd_cv l i hlt, wrap64_in _ (by omega), List.drop_eq_getElem_cons hlt]
    have ih := rtrue_loop l n b s hl d (i + 1) (by omega)
    by_cases he : l[i].f0.toList = s.toList
    · have hq : eqS l[i].f0 s = true := by simp [eqS, he]
      have hk : lk (l[i] :: l.drop (i + 1)) s = some l[i] := lk_pos hq
      rw [if_pos (show (cv l[i]).f0.toList = s.toList from he)]
      unfold trueV
      rw [hk]
      rfl
    · have hq : ¬ eqS l[i].f0 s = true := by simp [eqS, he]
      have hk : lk (l[i] :: l.drop (i + 1)) s = lk (l.drop (i + 1)) s := lk_neg hq
      rw [if_neg (show ¬ (cv l[i]).f0.toList = s.toList from he)]
      unfold trueV at ih ⊢
      rw [hk]
      exact ih
theorem rtrue_f (l : List S47) (n : Int) (b : Bool) (s : ByteArray) (hl : l.length < 3518437208883) : Ev (fun k => scrimref13_True.f k (l.map cv) n b s) (trueV l s) := by
  refine Ev.of (scrimref13_True.mono (l.map cv) n b s) (k := l.length + 1) ?_
  have := rtrue_loop l n b s hl l.length 0 (by omega)
  simpa [scrimref13_True.f] using this
theorem pub_cv (x : S47) : pubR (cv x) = cv (pub x) := by
  obtain ⟨a, b, c, d⟩ := x
  cases d <;> rfl
theorem rpub_f (l : List S47) (n : Int) (b : Bool) (k : Nat) (hl : l.length < 3518437208883) : scrimref13_Public.f k (l.map cv) n b = some ((l.map pub).map cv, (if b = true then n else 0), b) := by
  unfold scrimref13_Public.f; rw [if_pos (by simpa using hl)]
  simp [pub_cv, Function.comp_def]

/-! ### Two tables alike -/
def nq (x y : S47) : Bool := !(x.f0.toList == y.f0.toList) || (!(x.f1 == y.f1) || (!(x.f2 == y.f2) || !(x.f3 == y.f3)))
def eqL : List S47 → List S47 → Bool
  | [], [] => true
  | x :: l, y :: m => !nq x y && eqL l m
  | _, _ => false
def eqT (l : List S47) (n : Int) (b : Bool) (m : List S47) (p : Int) (c : Bool) : Bool := (n == p && b == c) && eqL l m
theorem nq_self (x : S47) : nq x x = false := by simp [nq]
theorem eqL_self : ∀ l : List S47, eqL l l = true
  | [] => rfl
  | x :: l => by simp [eqL, nq_self, eqL_self l]
theorem eqL_len : ∀ {l m : List S47}, eqL l m = true → l.length = m.length
  | [], [], _ => rfl
  | x :: l, y :: m, h => by simp [eqL] at h; simp [eqL_len h.2]
  | [], _ :: _, h => by simp [eqL] at h
  | _ :: _, [], h => by simp [eqL] at h
theorem bc {α : Type} [BEq α] [LawfulBEq α] (a b : α) : (a == b) = (b == a) := by rw [Bool.eq_iff_iff, beq_iff_eq, beq_iff_eq]; exact eq_comm
theorem nq_comm (x y : S47) : nq x y = nq y x := by unfold nq; rw [bc x.f0.toList, bc x.f1, bc x.f2, bc x.f3]
theorem eqL_comm : ∀ l m : List S47, eqL l m = eqL m l
  | [], [] => rfl
  | x :: l, y :: m => by simp [eqL, nq_comm x y, eqL_comm l m]
  | [], _ :: _ => rfl
  | _ :: _, [] => rfl
theorem eq_loop (l m : List S47) (hm : l.length = m.length) (hl : l.length < 3518437208883) : ∀ (d i : Nat), i + d = l.length → res_Image_40.l0 (d + 1) l m (l.length : Int) (i : Int) = some (eqL (l.drop i) (m.drop i))
  | 0, i, hi => by
    rw [res_Image_40.l0, if_neg (by omega), List.drop_of_length_le (by omega), List.drop_of_length_le (by omega)]; rfl
  | d + 1, i, hi => by
    have hlt : i < l.length := by omega
    have hlm : i < m.length := by omega
    rw [res_Image_40.l0, if_pos (by omega), if_pos (by omega), if_pos (by omega), if_pos (by omega), rd_res l i hlt, rd_res m i hlm, wrap64_in _ (by omega), List.drop_eq_getElem_cons hlt, List.drop_eq_getElem_cons hlm]
    have ih := eq_loop l m hm hl d (i + 1) (by omega)
    by_cases hq : nq l[i] m[i] = true
    · show (if nq l[i] m[i] = true then _ else _) = _
      rw [if_pos (show nq l[i] m[i] = true from hq)]; simp [eqL, hq]
    · show (if nq l[i] m[i] = true then _ else _) = _
      rw [if_neg (show ¬ nq l[i] m[i] = true from hq)]; simp [eqL, hq]; exact ih
theorem eq_f (l m : List S47) (hl : l.length < 3518437208883) : Ev (fun k => res_Image_40.f k l m) (eqL l m) := by
  refine Ev.of (res_Image_40.mono l m) (k := l.length + 1) ?_
  unfold res_Image_40.f
  by_cases hm : l.length = m.length
  · rw [if_pos (by omega)]
    simpa using eq_loop l m hm hl l.length 0 (by omega)
  · rw [if_neg (by omega)]
    rcases h : eqL l m with _ | _
    · rfl
    · exact (hm (eqL_len h)).elim
theorem alike_f (l m : List S47) (n p : Int) (b c : Bool) (hl : l.length < 3518437208883) (hm : m.length < 3518437208883) :
    Ev (fun k => res_Alike.f k l n b m p c) (eqT (l.map pub) (if b = true then n else 0) b (m.map pub) (if c = true then p else 0) c) := by
  have h := eq_f (l.map pub) (m.map pub) (by simpa using hl)
  unfold res_Alike.f eqT
  simp only [public_f l n b hl, public_f m p c hm, Option.bind_some]
  by_cases hc : ((if b = true then n else 0) == (if c = true then p else 0) && (b == c)) = true
  · simp only [if_pos hc, hc, Bool.true_and]
    obtain ⟨K, hK⟩ := h
    exact ⟨K, fun k hk => by have e := hK k hk; simp only [if_true, e, Option.bind_some]⟩
  · simp only [if_neg hc]
    rw [Bool.not_eq_true] at hc
    rw [hc]
    exact Ev.now _
theorem nq_cv (x y : S47) : (!((cv x).f0.toList == (cv y).f0.toList) || (!((cv x).f1 == (cv y).f1) || (!((cv x).f2 == (cv y).f2) || !((cv x).f3 == (cv y).f3)))) = nq x y := rfl
theorem same_loop (l m : List S47) (n p : Int) (b c : Bool) (hm : l.length = m.length) (hl : l.length < 3518437208883) : ∀ (d i : Nat), i + d = l.length → scrimref13_Same.l0 (d + 1) (i : Int) (l.map cv) n b (m.map cv) p c = some (eqL (l.drop i) (m.drop i))
  | 0, i, hi => by
    rw [scrimref13_Same.l0, if_neg (by simp; omega), List.drop_of_length_le (by omega), List.drop_of_length_le (by omega)]; rfl
  | d + 1, i, hi => by
    have hlt : i < l.length := by omega
    have hlm : i < m.length := by omega
    rw [scrimref13_Same.l0, if_pos (by simp; omega), if_pos (by omega), if_pos (by simp; omega), rd_cv l i hlt, rd_cv m i hlm, wrap64_in _ (by omega), List.drop_eq_getElem_cons hlt, List.drop_eq_getElem_cons hlm]
    have ih := same_loop l m n p b c hm hl d (i + 1) (by omega)
    by_cases hq : nq l[i] m[i] = true
    · show (if nq l[i] m[i] = true then _ else _) = _
      rw [if_pos (show nq l[i] m[i] = true from hq)]; simp [eqL, hq]
    · show (if nq l[i] m[i] = true then _ else _) = _
      rw [if_neg (show ¬ nq l[i] m[i] = true from hq)]; simp [eqL, hq]; exact ih
theorem same_f (l m : List S47) (n p : Int) (b c : Bool) (hl : l.length < 3518437208883) : Ev (fun k => scrimref13_Same.f k (l.map cv) n b (m.map cv) p c) (eqT l n b m p c) := by
  refine Ev.of (scrimref13_Same.mono (l.map cv) n b (m.map cv) p c) (k := l.length + 2) ?_
  unfold scrimref13_Same.f eqT
  by_cases hm : l.length = m.length
  · rw [if_pos (by simp; omega), scrimref13_Same.j0]
    by_cases hc : (n == p && b == c) = true
    · rw [if_neg (by rw [Bool.and_eq_true] at hc; simp [hc.1, hc.2]), hc, Bool.true_and]
      simpa using same_loop l m n p b c hm hl l.length 0 (by omega)
    · rw [if_pos (by rw [Bool.not_eq_true, Bool.and_eq_false_iff] at hc; rcases hc with hc | hc <;> simp [hc])]
      rw [Bool.not_eq_true] at hc
      rw [hc]; rfl
  · rw [if_neg (by simp; omega), scrimref13_Same.j0, if_pos rfl]
    rcases h : eqL l m with _ | _
    · simp
    · exact (hm (eqL_len h)).elim
end Go.Proofs.Ytnjheeoogglnaaa.R
