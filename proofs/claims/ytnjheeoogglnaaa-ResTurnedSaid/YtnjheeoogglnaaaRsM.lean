/- What cannot be: of the ways of the statements of package res those that the plain law shows to be empty. -/
import Derived.Test.YtnjheeoogglnaaaRsL
import Derived.Test.YtnjheeoogglnaaaRx7
namespace Go.Proofs.Ytnjheeoogglnaaa.R
open Go.RowKit Go.IntWalk Go.Proofs.Ytnjheeoogglnaaa.Mem Go.Proofs.YtnjheeoogglnaaaW.PrintWords Go.Proofs.YtnjheeoogglnaaaW.PrintLast Go.Proofs.YtnjheeoogglnaaaW.PrintMore
set_option linter.unusedVariables false
set_option linter.unusedSimpArgs false

theorem ev_at {α : Type} {g : Nat → Option α} (hg : ∀ k, LeO (g k) (g (k + 1))) {r t : α} (h : Ev g r) {k : Nat} (hk : g k = some t) : t = r := by
  obtain ⟨K, hK⟩ := h
  have h1 := at_rounds hg (Nat.le_max_left k K) hk
  rw [hK _ (Nat.le_max_right k K)] at h1
  exact (Option.some.inj h1).symm
theorem no_ne {a b : Bool} (h : (a != b) = true) (e : a = b) : False := by subst e; simp at h
theorem no_eq {a b : Bool} (h : ¬ (a == b) = true) (e : a = b) : False := h (by simp [e])
theorem pub_pub (x : S47) : pub (pub x) = pub x := by
  obtain ⟨a, b, c, d⟩ := x
  cases d <;> rfl
theorem pubs_pubs (l : List S47) : (l.map pub).map pub = l.map pub := by simp [pub_pub, Function.comp_def]
theorem public_some {l m : List S47} {n p : Int} {b c : Bool} (h : res_Public.f l n b = some (m, p, c)) : l.length < 3518437208883 ∧ m = l.map pub ∧ p = (if b = true then n else 0) ∧ c = b := by
  unfold res_Public.f at h
  by_cases hl : l.length < 3518437208883
  · rw [if_pos hl] at h
    simp only [Option.some.injEq, Prod.mk.injEq] at h
    exact ⟨hl, h.1.symm, h.2.1.symm, h.2.2.symm⟩
  · rw [if_neg hl] at h; cases h
theorem own_some {l : List S47} {m : List S66} {n p : Int} {b c : Bool} {k : Nat} (h : scrimlaw13_own.f k l n b = some (m, p, c)) : l.length < 3518437208883 ∧ m = l.map cv ∧ p = n ∧ c = b := by
  unfold scrimlaw13_own.f at h
  by_cases hl : l.length < 3518437208883
  · rw [if_pos hl] at h
    simp only [Option.some.injEq, Prod.mk.injEq] at h
    exact ⟨hl, h.1.symm, h.2.1.symm, h.2.2.symm⟩
  · rw [if_neg hl] at h; cases h
theorem alike_some {l m : List S47} {n p : Int} {b c t : Bool} {k : Nat} (h : res_Alike.f k l n b m p c = some t) :
    l.length < 3518437208883 ∧ m.length < 3518437208883 ∧ t = eqT (l.map pub) (if b = true then n else 0) b (m.map pub) (if c = true then p else 0) c := by
  have h1 : l.length < 3518437208883 ∧ m.length < 3518437208883 := by
    have h' := h
    unfold res_Alike.f at h'
    obtain ⟨⟨x, y, z⟩, hx, h'⟩ := Option.bind_eq_some_iff.1 h'
    obtain ⟨⟨x', y', z'⟩, hx', h'⟩ := Option.bind_eq_some_iff.1 h'
    exact ⟨(public_some hx).1, (public_some hx').1⟩
  exact ⟨h1.1, h1.2, ev_at (res_Alike.mono l n b m p c) (alike_f l m n p b c h1.1 h1.2) h⟩
theorem eqT_self (l : List S47) (n : Int) (b : Bool) : eqT l n b l n b = true := by simp [eqT, eqL_self]
theorem no_alike {l m : List S47} {n p : Int} {b c t : Bool} {k : Nat} (h : Aside0 (res_Alike.f k l n b m p c = some t)) (hp : Aside0 (res_Public.f l n b = some (m, p, c))) : t = true := by
  obtain ⟨h1, h2, rfl⟩ := alike_some h.out
  obtain ⟨_, rfl, rfl, rfl⟩ := public_some hp.out
  rw [pubs_pubs]
  cases c
  · exact eqT_self _ _ _
  · exact eqT_self _ _ _
theorem same_some {l m : List S47} {n p : Int} {b c t : Bool} {k : Nat} (h : scrimref13_Same.f k (l.map cv) n b (m.map cv) p c = some t) (hl : l.length < 3518437208883) : t = eqT l n b m p c :=
  ev_at (scrimref13_Same.mono _ n b _ p c) (same_f l m n p b c hl) h
theorem no_same {l y1 y2 : List S47} {x1 x2 : List S66} {n n1 n2 m1 m2 : Int} {b b1 b2 c1 c2 t : Bool} {k k1 k2 : Nat} (h : Aside0 (scrimref13_Same.f k x1 n1 b1 x2 n2 b2 = some t))
    (h1 : Aside0 (scrimlaw13_own.f k1 y1 m1 c1 = some (x1, n1, b1))) (h2 : Aside0 (scrimlaw13_own.f k2 y2 m2 c2 = some (x2, n2, b2))) (h3 : Aside0 (res_Public.f y2 m2 c2 = some (y1, m1, c1))) (h4 : Aside0 (res_Public.f l n b = some (y2, m2, c2))) : t = true := by
  obtain ⟨e1, rfl, rfl, rfl⟩ := own_some h1.out
  obtain ⟨e2, rfl, rfl, rfl⟩ := own_some h2.out
  obtain ⟨e3, rfl, rfl, rfl⟩ := public_some h3.out
  obtain ⟨e4, rfl, rfl, rfl⟩ := public_some h4.out
  rw [same_some h.out e1, pubs_pubs]
  cases b1
  · exact eqT_self _ _ _
  · exact eqT_self _ _ _
theorem lk_pub (l : List S47) (s : ByteArray) : lk (l.map pub) s = (lk l s).map pub := by
  unfold lk
  rw [List.find?_map]
  congr 1
  congr 1
  funext x
  obtain ⟨a, b, c, d⟩ := x
  cases d <;> rfl
theorem size_pub (l : List S47) (s : ByteArray) : sizeV (l.map pub) s = sizeV l s := by
  unfold sizeV
  rw [lk_pub]
  cases lk l s with
  | none => rfl
  | some x =>
    obtain ⟨a, b, c, d⟩ := x
    cases d <;> rfl
theorem no_size {l m : List S47} {n p : Int} {b c : Bool} {s : ByteArray} {x1 x2 y1 y2 : Int} {x3 y3 : Bool} (h1 : Aside0 (res_Size.f l n b s = some (x1, x2, x3))) (h2 : Aside0 (res_Size.f m p c s = some (y1, y2, y3)))
    (h3 : Aside0 (res_Public.f l n b = some (m, p, c))) : x1 = y1 ∧ x2 = y2 ∧ x3 = y3 := by
  obtain ⟨e, rfl, rfl, rfl⟩ := public_some h3.out
  have e1 := h1.out
  have e2 := h2.out
  rw [size_f l _ _ s e] at e1
  rw [size_f _ _ _ s (by simpa using e), size_pub] at e2
  rw [e1] at e2
  simpa using e2
theorem eqL_lk : ∀ {l m : List S47} (s : ByteArray), eqL l m = true → (lk l s = none ∧ lk m s = none) ∨ ∃ x y, lk l s = some x ∧ lk m s = some y ∧ nq x y = false
  | [], [], s, _ => .inl ⟨rfl, rfl⟩
  | x :: l, y :: m, s, h => by
    simp only [eqL, Bool.and_eq_true, Bool.not_eq_true'] at h
    have hn : x.f0.toList = y.f0.toList := by
      have := h.1
      unfold nq at this
      simp only [Bool.or_eq_false_iff, Bool.not_eq_false', beq_iff_eq] at this
      exact this.1
    have hs : eqS x.f0 s = eqS y.f0 s := by unfold eqS; rw [hn]
    by_cases hx : eqS x.f0 s = true
    · exact .inr ⟨x, y, lk_pos hx, lk_pos (by rw [← hs]; exact hx), h.1⟩
    · have := eqL_lk s h.2
      rw [lk_neg hx, lk_neg (show ¬ eqS y.f0 s = true by rw [← hs]; exact hx)]
      exact this
  | [], _ :: _, _, h => by simp [eqL] at h
  | _ :: _, [], _, h => by simp [eqL] at h
theorem size_eqL {l m : List S47} (s : ByteArray) (h : eqL l m = true) : sizeV l s = sizeV m s := by
  unfold sizeV
  rcases eqL_lk s h with ⟨h1, h2⟩ | ⟨x, y, h1, h2, h3⟩
  · rw [h1, h2]
  · rw [h1, h2]
    unfold nq at h3
    simp only [Bool.or_eq_false_iff, Bool.not_eq_false', beq_iff_eq] at h3
    dsimp only
    rw [h3.2.1, h3.2.2.1, h3.2.2.2]
theorem no_sizes {l m : List S47} {n p : Int} {b c : Bool} {s : ByteArray} {x1 x2 y1 y2 : Int} {x3 y3 : Bool} {k : Nat} (h1 : Aside0 (res_Size.f l n b s = some (x1, x2, x3))) (h2 : Aside0 (res_Size.f m p c s = some (y1, y2, y3)))
    (h3 : Aside0 (res_Alike.f k l n b m p c = some true)) : x1 = y1 ∧ x2 = y2 ∧ x3 = y3 := by
  obtain ⟨e1, e2, e3⟩ := alike_some h3.out
  unfold eqT at e3
  have e4 : eqL (l.map pub) (m.map pub) = true := by
    have := e3.symm
    rw [Bool.and_eq_true] at this
    exact this.2
  have f1 := h1.out
  have f2 := h2.out
  rw [size_f l _ _ s e1, ← size_pub, size_eqL s e4, size_pub] at f1
  rw [size_f _ _ _ s e2] at f2
  rw [f1] at f2
  simpa using f2
theorem no_advs {l m : List S47} {n p x y : Int} {b c : Bool} {k : Nat} (h1 : Aside0 (res_Advance.f l n b = some x)) (h2 : Aside0 (res_Advance.f m p c = some y)) (h3 : Aside0 (res_Alike.f k l n b m p c = some true)) : x = y := by
  obtain ⟨e1, e2, e3⟩ := alike_some h3.out
  have e4 := e3.symm
  unfold eqT at e4
  simp only [Bool.and_eq_true, beq_iff_eq] at e4
  obtain ⟨⟨e5, rfl⟩, _⟩ := e4
  have f1 := h1.out
  have f2 := h2.out
  unfold res_Advance.f at f1 f2
  cases b
  · simp at f1 f2; omega
  · simp at f1 f2 e5; omega
theorem no_rsize {l : List S47} {m : List S66} {n p : Int} {b c : Bool} {s : ByteArray} {x1 x2 y1 y2 : Int} {x3 y3 : Bool} {k k1 : Nat} (h1 : Aside0 (res_Size.f l n b s = some (x1, x2, x3)))
    (h2 : Aside0 (scrimref13_Size.f k m p c s = some (y1, y2, y3))) (h3 : Aside0 (scrimlaw13_own.f k1 l n b = some (m, p, c))) : x1 = y1 ∧ x2 = y2 ∧ x3 = y3 := by
  obtain ⟨e, rfl, rfl, rfl⟩ := own_some h3.out
  have f1 := h1.out
  rw [size_f l _ _ s e] at f1
  have f2 := ev_at (scrimref13_Size.mono _ _ _ _) (rsize_f l p c s e) h2.out
  have f3 := Option.some.inj f1
  rw [f3] at f2
  simpa using f2.symm
theorem no_rtrue {l : List S47} {m : List S66} {n p : Int} {b c : Bool} {s : ByteArray} {x1 x2 y1 y2 : Int} {x3 y3 : Bool} {k k1 : Nat} (h1 : Aside0 (res_True.f l n b s = some (x1, x2, x3)))
    (h2 : Aside0 (scrimref13_True.f k m p c s = some (y1, y2, y3))) (h3 : Aside0 (scrimlaw13_own.f k1 l n b = some (m, p, c))) : x1 = y1 ∧ x2 = y2 ∧ x3 = y3 := by
  obtain ⟨e, rfl, rfl, rfl⟩ := own_some h3.out
  have f1 := h1.out
  rw [true_f l _ _ s e] at f1
  have f2 := ev_at (scrimref13_True.mono _ _ _ _) (rtrue_f l p c s e) h2.out
  have f3 := Option.some.inj f1
  rw [f3] at f2
  simpa using f2.symm
theorem no_radv {l : List S47} {m : List S66} {n p x y : Int} {b c : Bool} {k1 : Nat} (h1 : Aside0 (res_Advance.f l n b = some x)) (h2 : Aside0 (scrimref13_Advance.f m p c = some y)) (h3 : Aside0 (scrimlaw13_own.f k1 l n b = some (m, p, c))) : x = y := by
  obtain ⟨e, rfl, rfl, rfl⟩ := own_some h3.out
  have f1 := h1.out
  have f2 := h2.out
  unfold res_Advance.f at f1
  unfold scrimref13_Advance.f at f2
  rw [f1] at f2
  exact Option.some.inj f2
theorem rpublic_some {l m : List S66} {n p : Int} {b c : Bool} {k : Nat} (h : scrimref13_Public.f k l n b = some (m, p, c)) : m = l.map pubR ∧ p = (if b = true then n else 0) ∧ c = b := by
  unfold scrimref13_Public.f at h
  by_cases hl : l.length < 3518437208883
  · rw [if_pos hl] at h
    simp only [Option.some.injEq, Prod.mk.injEq] at h
    exact ⟨h.1.symm, h.2.1.symm, h.2.2.symm⟩
  · rw [if_neg hl] at h; cases h
theorem pubR_cv (l : List S47) : (l.map cv).map pubR = (l.map pub).map cv := by simp [pub_cv, Function.comp_def]
theorem no_rsame {l y1 : List S47} {m a1 b1 : List S66} {n p y2 a2 b2 : Int} {b c y3 a3 b3 t : Bool} {k k1 k2 k3 : Nat} (h1 : Aside0 (scrimref13_Same.f k a1 a2 a3 b1 b2 b3 = some t)) (h2 : Aside0 (scrimlaw13_own.f k1 y1 y2 y3 = some (a1, a2, a3)))
    (h3 : Aside0 (res_Public.f l n b = some (y1, y2, y3))) (h4 : Aside0 (scrimref13_Public.f k2 m p c = some (b1, b2, b3))) (h5 : Aside0 (scrimlaw13_own.f k3 l n b = some (m, p, c))) : t = true := by
  obtain ⟨e2, rfl, rfl, rfl⟩ := own_some h2.out
  obtain ⟨e3, rfl, rfl, rfl⟩ := public_some h3.out
  obtain ⟨e5, rfl, rfl, rfl⟩ := own_some h5.out
  obtain ⟨rfl, rfl, rfl⟩ := rpublic_some h4.out
  have h := h1.out
  rw [pubR_cv] at h
  rw [same_some h e2]
  exact eqT_self _ _ _
end Go.Proofs.Ytnjheeoogglnaaa.R
