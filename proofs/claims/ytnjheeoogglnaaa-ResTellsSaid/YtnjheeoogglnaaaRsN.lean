/- Whether a table may be: the function of package res and the document's tell the same of any table. -/
import Derived.Test.YtnjheeoogglnaaaRsM
namespace Go.Proofs.Ytnjheeoogglnaaa.R
open Go.RowKit Go.IntWalk Go.Proofs.Ytnjheeoogglnaaa.Mem Go.Proofs.YtnjheeoogglnaaaW.PrintWords Go.Proofs.YtnjheeoogglnaaaW.PrintLast Go.Proofs.YtnjheeoogglnaaaW.PrintMore
set_option linter.unusedVariables false
set_option linter.unusedSimpArgs false

/-- Is the name at one of so many places from the `j`-th on? -/
def seen (l : List S47) (s : ByteArray) : Nat → Nat → Bool
  | _, 0 => false
  | j, d + 1 => eqS (rd_T47 l (j : Int)).f0 s || seen l s (j + 1) d
def okS (x : S47) : Bool := decide (0 ≤ x.f1) && decide (0 ≤ x.f2) && decide (x.f1 ≤ 1048576) && decide (x.f2 ≤ 1048576)
def finM (l : List S47) (n : Int) : Bool := if (l.length : Int) ≤ 20 then (if n ≥ 0 then decide (n ≤ 1024) else false) else false
def mayFrom (l : List S47) (n : Int) : Nat → Nat → Bool
  | _, 0 => finM l n
  | i, d + 1 => if okS (rd_T47 l (i : Int)) = true ∧ seen l (rd_T47 l (i : Int)).f0 0 i = false then mayFrom l n (i + 1) d else false
theorem mayFrom_succ (l : List S47) (n : Int) (i d : Nat) : mayFrom l n i (d + 1) = if okS (rd_T47 l (i : Int)) = true ∧ seen l (rd_T47 l (i : Int)).f0 0 i = false then mayFrom l n (i + 1) d else false := rfl
theorem rd_succ (x : S47) (l : List S47) (j : Nat) : rd_T47 (x :: l) ((j + 1 : Nat) : Int) = rd_T47 l (j : Int) := by
  unfold rd_T47; rw [Int.toNat_natCast, Int.toNat_natCast]; rfl
theorem seen_cons (x : S47) (l : List S47) (s : ByteArray) : ∀ (d j : Nat), seen (x :: l) s (j + 1) d = seen l s j d
  | 0, _ => rfl
  | d + 1, j => by simp only [seen]; rw [rd_succ, seen_cons x l s d (j + 1)]
theorem idx_at (s : ByteArray) : ∀ (l : List S47) (i k : Nat), i < l.length → eqS (rd_T47 l (i : Int)).f0 s = true → (idxFrom s l k = ((k + i : Nat) : Int) ↔ seen l s 0 i = false)
  | [], i, k, h, _ => by simp at h
  | x :: l, 0, k, _, hx => by
    have h0 : eqS x.f0 s = true := hx
    simp [idxFrom, h0, seen]
  | x :: l, i + 1, k, h, hx => by
    rw [rd_succ] at hx
    have ih := idx_at s l i (k + 1) (by simpa using h) hx
    have e0 : rd_T47 (x :: l) ((0 : Nat) : Int) = x := rfl
    simp only [seen]
    rw [e0, seen_cons, idxFrom]
    by_cases hq : eqS x.f0 s = true
    · rw [if_pos hq, hq]; simp; omega
    · rw [if_neg hq]
      rw [Bool.not_eq_true] at hq
      rw [hq, Bool.false_or, ← ih]
      constructor <;> intro h <;> rw [h] <;> congr 1 <;> omega
theorem may_loop (l : List S47) (n : Int) (b : Bool) (hl : l.length < 3518437208883) : ∀ (d i : Nat), i + d = l.length → res_May.l0 (d + 1) l (l.length : Int) (i : Int) l n b = some (mayFrom l n i d)
  | 0, i, hi => by
    rw [res_May.l0, if_neg (by omega)]
    unfold mayFrom finM
    split <;> try rfl
    split <;> rfl
  | d + 1, i, hi => by
    have ih := may_loop l n b hl d (i + 1) (by omega)
    have hs : eqS (rd_T47 l (i : Int)).f0 (rd_T47 l (i : Int)).f0 = true := by simp [eqS]
    have hx := idx_at (rd_T47 l (i : Int)).f0 l i 0 (by omega) hs
    rw [Nat.zero_add] at hx
    have hf : res_Table_find.f l n b (rd_T47 l (i : Int)).f0 = some (idxFrom (rd_T47 l (i : Int)).f0 l 0) := by
      unfold res_Table_find.f; rw [if_pos (by omega)]; rfl
    rw [res_May.l0, if_pos (by omega), if_pos (by omega), if_pos (by omega), hf, wrap64_in _ (by omega), Option.bind_some]
    rw [show ((i : Int) + 1) = ((i + 1 : Nat) : Int) from by omega, ih, mayFrom_succ]
    generalize rd_T47 l (i : Int) = x at *
    by_cases ho : okS x = true
    · have ho' := ho
      unfold okS at ho'
      simp only [Bool.and_eq_true, decide_eq_true_eq] at ho'
      rw [if_neg (by unfold mn; split <;> omega), if_neg (by unfold mx; split <;> omega)]
      by_cases hk : idxFrom x.f0 l 0 = (i : Int)
      · rw [if_pos hk, if_pos ⟨ho, hx.1 hk⟩]
      · rw [if_neg hk, if_neg (fun h => hk (hx.2 h.2))]
    · rw [if_neg (fun h : okS x = true ∧ _ => ho h.1)]
      unfold okS at ho
      simp only [Bool.and_eq_true, decide_eq_true_eq] at ho
      by_cases h1 : mn x.f1 x.f2 < 0
      · rw [if_pos h1]
      · rw [if_neg h1, if_pos ?_]
        unfold mn at h1
        unfold mx
        split at h1 <;> split <;> omega
theorem may_f (l : List S47) (n : Int) (b : Bool) (hl : l.length < 3518437208883) : Ev (fun k => res_May.f k l n b) (mayFrom l n 0 l.length) := by
  refine Ev.of (res_May.mono l n b) (k := l.length + 1) ?_
  have := may_loop l n b hl l.length 0 (by omega)
  simpa [res_May.f] using this
theorem rd_cv' (l : List S47) (i : Nat) (h : i < l.length) : rd_T66 (l.map cv) (i : Int) = cv (rd_T47 l (i : Int)) := by rw [rd_cv l i h, rd_res l i h]
theorem rmay_inner (l : List S47) (n : Int) (b : Bool) (i : Nat) (x : S47) (hi : i < l.length) (hl : l.length < 3518437208883) (r : Bool) (hr : Ev (fun k => scrimref13_May.l0 k ((i + 1 : Nat) : Int) (l.map cv) n b) r) :
    ∀ (d j : Nat), j + d = i → Ev (fun k => scrimref13_May.l1 k (i : Int) (j : Int) (l.map cv) n b x.f0 x.f1 x.f2 x.f3) (if seen l x.f0 j d = false then r else false)
  | 0, j, hj => by
    refine Ev.step (f := fun k => scrimref13_May.l0 k ((i + 1 : Nat) : Int) (l.map cv) n b) (fun k => ?_) (by simpa [seen] using hr)
    rw [scrimref13_May.l1, if_neg (by omega), wrap64_in _ (by omega), show ((i : Int) + 1) = ((i + 1 : Nat) : Int) from by omega]
  | d + 1, j, hj => by
    have ih := rmay_inner l n b i x hi hl r hr d (j + 1) (by omega)
    have hrd := rd_cv' l j (by omega)
    by_cases he : (rd_T47 l (j : Int)).f0.toList = x.f0.toList
    · refine Ev.step (f := fun _ => some false) (fun k => ?_) (by simp [seen, eqS, he]; exact Ev.now _)
      rw [scrimref13_May.l1, if_pos (by omega), if_pos (by omega), if_pos (by simp; omega), hrd, if_pos (show (cv (rd_T47 l (j : Int))).f0.toList = x.f0.toList from he)]
    · refine Ev.step (f := fun k => scrimref13_May.l1 k (i : Int) ((j + 1 : Nat) : Int) (l.map cv) n b x.f0 x.f1 x.f2 x.f3) (fun k => ?_) (by simpa [seen, eqS, he] using ih)
      rw [scrimref13_May.l1, if_pos (by omega), if_pos (by omega), if_pos (by simp; omega), hrd, if_neg (show ¬ (cv (rd_T47 l (j : Int))).f0.toList = x.f0.toList from he), wrap64_in _ (by omega), show ((j : Int) + 1) = ((j + 1 : Nat) : Int) from by omega]
theorem rmay_loop (l : List S47) (n : Int) (b : Bool) (hl : l.length < 3518437208883) : ∀ (d i : Nat), i + d = l.length → Ev (fun k => scrimref13_May.l0 k (i : Int) (l.map cv) n b) (mayFrom l n i d)
  | 0, i, hi => by
    refine Ev.step (f := fun _ => some (finM l n)) (fun k => ?_) (Ev.now _)
    rw [scrimref13_May.l0, if_neg (by simp; omega)]
    unfold finM
    rw [List.length_map]
    split <;> try rfl
    split <;> rfl
  | d + 1, i, hi => by
    have ih := rmay_loop l n b hl d (i + 1) (by omega)
    have hrd := rd_cv' l i (by omega)
    have hin := rmay_inner l n b i (rd_T47 l (i : Int)) (by omega) hl _ ih i 0 (by omega)
    rw [mayFrom_succ]
    generalize rd_T47 l (i : Int) = x at *
    by_cases ho : okS x = true
    · have ho' := ho
      unfold okS at ho'
      simp only [Bool.and_eq_true, decide_eq_true_eq] at ho'
      refine Ev.step (f := fun k => scrimref13_May.j1 k (i : Int) false (l.map cv) n b x.f0 x.f1 x.f2 x.f3) (fun k => ?_) ?_
      · rw [scrimref13_May.l0, if_pos (by simp; omega), if_pos (by omega), hrd]
        show (if x.f1 < 0 then _ else _) = _
        rw [if_neg (by omega)]
        show (if x.f2 < 0 then _ else _) = _
        rw [if_neg (by omega)]
        show (if x.f1 > 1048576 then _ else _) = _
        rw [if_neg (by omega)]
        show scrimref13_May.j1 k _ (decide (x.f2 > 1048576)) _ _ _ _ _ _ _ = _
        rw [decide_eq_false (by omega)]
        rfl
      · refine Ev.step (f := fun k => scrimref13_May.l1 k (i : Int) 0 (l.map cv) n b x.f0 x.f1 x.f2 x.f3) (fun k => ?_) ?_
        · rw [scrimref13_May.j1, if_neg (by simp)]
        · simpa [ho] using hin
    · have ho' := ho
      unfold okS at ho'
      simp only [Bool.and_eq_true, decide_eq_true_eq] at ho'
      rw [if_neg (fun h => ho h.1)]
      refine Ev.step (f := fun k => scrimref13_May.j1 k (i : Int) true (l.map cv) n b x.f0 x.f1 x.f2 x.f3) (fun k => ?_) (Ev.step (f := fun _ => some false) (fun k => by rw [scrimref13_May.j1, if_pos rfl]) (Ev.now _))
      rw [scrimref13_May.l0, if_pos (by simp; omega), if_pos (by omega), hrd]
      show (if x.f1 < 0 then _ else _) = _
      by_cases h1 : x.f1 < 0
      · rw [if_pos h1]; rfl
      rw [if_neg h1]
      show (if x.f2 < 0 then _ else _) = _
      by_cases h2 : x.f2 < 0
      · rw [if_pos h2]; rfl
      rw [if_neg h2]
      show (if x.f1 > 1048576 then _ else _) = _
      by_cases h3 : x.f1 > 1048576
      · rw [if_pos h3]; rfl
      rw [if_neg h3]
      show scrimref13_May.j1 k _ (decide (x.f2 > 1048576)) _ _ _ _ _ _ _ = _
      rw [decide_eq_true (by omega)]
      rfl
theorem rmay_f (l : List S47) (n : Int) (b : Bool) (hl : l.length < 3518437208883) : Ev (fun k => scrimref13_May.f k (l.map cv) n b) (mayFrom l n 0 l.length) := rmay_loop l n b hl l.length 0 (by omega)
theorem no_may {l : List S47} {m : List S66} {n p : Int} {b c x y : Bool} {k k1 k2 : Nat} (h1 : Aside0 (res_May.f k l n b = some x)) (h2 : Aside0 (scrimref13_May.f k2 m p c = some y)) (h3 : Aside0 (scrimlaw13_own.f k1 l n b = some (m, p, c))) : x = y := by
  obtain ⟨e, rfl, rfl, rfl⟩ := own_some h3.out
  rw [ev_at (res_May.mono _ _ _) (may_f l p c e) h1.out, ev_at (scrimref13_May.mono _ _ _) (rmay_f l p c e) h2.out]
end Go.Proofs.Ytnjheeoogglnaaa.R
