/- ResTurned: what the statement makes of a table (other), and that the Go code comes to true. -/
import Derived.Test.YtnjheeoogglnaaaRsA
import Derived.Test.YtnjheeoogglnaaaRsH
import Derived.Test.YtnjheeoogglnaaaMix
import Derived.Deep.RegionHeld3
import Derived.Deep.QuietTactic
import Derived.BigQuiet
import Derived.Outline
namespace Go.Proofs.Ytnjheeoogglnaaa.R
open Go.RowKit Go.IntWalk Go.Proofs.Ytnjheeoogglnaaa.Mem Go.Proofs.YtnjheeoogglnaaaW.PrintWords Go.Proofs.YtnjheeoogglnaaaW.PrintLast Go.Proofs.YtnjheeoogglnaaaW.PrintMore
set_option linter.unusedVariables false
set_option linter.unusedSimpArgs false

/-- An image whose size is another one, if it isn't open and there are such numbers. -/
def chg (n : List Int) (j : Nat) (x : S47) : S47 := if x.f3 = false ∧ 2 * j + 1 < n.length then ⟨x.f0, n.getD (2 * j) 0, n.getD (2 * j + 1) 0, x.f3⟩ else x
def chAll (n : List Int) : Nat → List S47 → List S47
  | _, [] => []
  | j, x :: l => chg n j x :: chAll n (j + 1) l
def chTo (n : List Int) (k : Nat) (l : List S47) : List S47 := chAll n 0 (l.take k) ++ l.drop k
def allTo (o : Bool) (k : Nat) (l : List S47) : Bool := o && (l.take k).all (·.f3)

structure TI (w : World) (l : List S47) (A0 : Option Addr) (c0 : Nat) (adv : Int) (o : Bool) (gb : Nat) (v0 : Value) (xs : List S47) (adv' : Int) (wr : World) : Prop where
  inp : Blk wr w.heap.size #[.slice A0 l.length c0, .int .i64 adv, .bool o] 26
  oth : Blk wr gb #[v0, .int .i64 adv', .bool o] 26
  ne : w.heap.size < gb
  row : Kd.R k47 47 wr (w.heap.size + 1) (fun _ => True) v0 xs
  below : Below w.heap.size w wr

theorem chg_f0 (n : List Int) (j : Nat) (x : S47) : (chg n j x).f0 = x.f0 ∧ (chg n j x).f3 = x.f3 := by unfold chg; split <;> exact ⟨rfl, rfl⟩
theorem chAll_length (n : List Int) : ∀ (l : List S47) (j : Nat), (chAll n j l).length = l.length
  | [], _ => rfl
  | x :: l, j => by simp [chAll, chAll_length n l (j + 1)]
theorem chAll_snoc (n : List Int) (x : S47) : ∀ (l : List S47) (j : Nat), chAll n j (l ++ [x]) = chAll n j l ++ [chg n (j + l.length) x]
  | [], j => by simp [chAll]
  | y :: l, j => by simp [chAll, chAll_snoc n x l (j + 1)]; congr 1; omega
theorem chTo_length (n : List Int) (k : Nat) (l : List S47) (h : k ≤ l.length) : (chTo n k l).length = l.length := by unfold chTo; simp [chAll_length]; omega
theorem chTo_get (n : List Int) (k : Nat) (l : List S47) (h : k < l.length) : (chTo n k l).getD k z47 = l[k] := by
  unfold chTo
  rw [List.getD_eq_getElem?_getD, List.getElem?_append_right (by simp [chAll_length]; omega)]
  simp [List.getElem?_drop, h, chAll_length, Nat.min_eq_left (Nat.le_of_lt h)]
theorem chTo_succ (n : List Int) (k : Nat) (l : List S47) (h : k < l.length) : chTo n (k + 1) l = (chTo n k l).set k (chg n k l[k]) := by
  unfold chTo
  have hk : (l.take k).length = k := by simp; omega
  rw [List.take_succ_eq_append_getElem h, chAll_snoc, hk, List.set_append_right _ _ (by simp [chAll_length]; omega)]
  have e : k - (chAll n 0 (l.take k)).length = 0 := by simp [chAll_length]; omega
  rw [e]
  conv => rhs; rw [List.drop_eq_getElem_cons h]
  rw [List.set_cons_zero]
  simp
theorem chTo_zero (n : List Int) (l : List S47) : chTo n 0 l = l := by simp [chTo, chAll]
theorem chTo_all (n : List Int) (l : List S47) : chTo n l.length l = chAll n 0 l := by simp [chTo]
theorem chTo_same (n : List Int) (k : Nat) (l : List S47) (h : k < l.length) (ho : chg n k l[k] = l[k]) : chTo n (k + 1) l = chTo n k l := by
  rw [chTo_succ n k l h, ho]
  have hk : k < (chTo n k l).length := by rw [chTo_length n k l (by omega)]; exact h
  have hg : (chTo n k l)[k] = l[k] := by
    have := chTo_get n k l h
    rwa [List.getD_eq_getElem?_getD, List.getElem?_eq_getElem hk, Option.getD_some] at this
  rw [← hg, List.set_getElem_self]
theorem allTo_succ (o : Bool) (k : Nat) (l : List S47) (h : k < l.length) : allTo o (k + 1) l = (allTo o k l && l[k].f3) := by
  unfold allTo; rw [List.take_succ_eq_append_getElem h, List.all_append]; simp [Bool.and_assoc]
theorem lk_ch (n : List Int) (s : ByteArray) : ∀ (l : List S47) (j : Nat), (lk l s = none ∧ lk (chAll n j l) s = none) ∨ ∃ x i, lk l s = some x ∧ lk (chAll n j l) s = some (chg n i x)
  | [], _ => .inl ⟨rfl, rfl⟩
  | x :: l, j => by
    by_cases hx : eqS x.f0 s = true
    · exact .inr ⟨x, j, lk_pos hx, lk_pos (by rw [(chg_f0 n j x).1]; exact hx)⟩
    · rcases lk_ch n s l (j + 1) with ⟨h1, h2⟩ | ⟨y, i, h1, h2⟩
      · exact .inl ⟨by rw [lk_neg hx]; exact h1, by show lk (chg n j x :: _) s = none; rw [lk_neg (by rw [(chg_f0 n j x).1]; exact hx)]; exact h2⟩
      · exact .inr ⟨y, i, by rw [lk_neg hx]; exact h1, by show lk (chg n j x :: _) s = _; rw [lk_neg (by rw [(chg_f0 n j x).1]; exact hx)]; exact h2⟩
theorem chg_pub (n : List Int) (j : Nat) (x : S47) : pub (chg n j x) = pub x := by
  obtain ⟨a, b, c, d⟩ := x
  cases d
  · unfold chg; split <;> rfl
  · unfold chg; rw [if_neg (by simp)]
theorem size_ch (n : List Int) (j : Nat) (l : List S47) (s : ByteArray) : sizeV (chAll n j l) s = sizeV l s := by
  unfold sizeV
  rcases lk_ch n s l j with ⟨h1, h2⟩ | ⟨x, i, h1, h2⟩
  · rw [h1, h2]
  · rw [h1, h2]
    obtain ⟨a, b, c, d⟩ := x
    cases d
    · have h3 := (chg_f0 n i ⟨a, b, c, false⟩).2
      dsimp only
      rw [h3]; rfl
    · have : chg n i ⟨a, b, c, true⟩ = ⟨a, b, c, true⟩ := by unfold chg; rw [if_neg (by simp)]
      rw [this]
theorem pubs_ch (n : List Int) : ∀ (j : Nat) (l : List S47), (chAll n j l).map pub = l.map pub
  | _, [] => rfl
  | j, x :: l => by simp [chAll, chg_pub, pubs_ch n (j + 1) l]
theorem pub_open : ∀ {l : List S47}, (l.all (·.f3)) = true → l.map pub = l
  | [], _ => rfl
  | x :: l, h => by
    rw [List.all_cons, Bool.and_eq_true] at h
    rw [List.map_cons, pub_open h.2]
    unfold pub; rw [if_pos h.1]
theorem TI.next {w : World} {l : List S47} {A0 : Option Addr} {c0 : Nat} {adv : Int} {o : Bool} {gb : Nat} {v0 : Value} {xs : List S47} {adv' : Int} {wr wr' : World} (h : TI w l A0 c0 adv o gb v0 xs adv' wr) (hb : Below wr.heap.size wr wr') :
    TI w l A0 c0 adv o gb v0 xs adv' wr' := ⟨h.inp.below hb h.inp.lt, h.oth.below hb h.oth.lt, h.ne, Kd.R_below h.row hb, h.below.trans (hb.mono h.below.size)⟩
/-- The worlds of the two stores into an image. -/
def TC (W : World) (g o : Nat) (x y : Int) : Nat → World → Prop
  | 0, w' => w' = W
  | 1, w' => w' = W.setCell ⟨g, o + 1, none⟩ (.int .i64 x)
  | 2, w' => w' = (W.setCell ⟨g, o + 1, none⟩ (.int .i64 x)).setCell ⟨g, o + 2, none⟩ (.int .i64 y)
  | _ + 3, _ => False
theorem TC.other {W : World} {g o : Nat} {x y : Int} (q : Mix.Wd (TC W g o x y) 0) {a : Addr} {v : Value} (hv : W.cell? a = some v) (hn : a.block ≠ g) : q.1.cell? a = some v := by
  obtain ⟨w', i, -, h⟩ := q
  have hs : ∀ (V : World) (j : Nat) (u : Value), V.cell? a = some v → (V.setCell ⟨g, j, none⟩ u).cell? a = some v := fun V j u h => by rw [World.cell?_setCell_other _ _ _ _ (by intro e; exact hn (congrArg Addr.block e.symm ▸ rfl))]; exact h
  rcases i with _ | _ | _ | i
  · exact h ▸ hv
  · exact h ▸ hs _ _ _ hv
  · exact h ▸ hs _ _ _ (hs _ _ _ hv)
  · exact h.elim
theorem TI.S {w : World} {l : List S47} {A0 : Option Addr} {c0 : Nat} {adv : Int} {o : Bool} {gb : Nat} {v0 : Value} {xs : List S47} {adv' : Int} {wr : World} (h : TI w l A0 c0 adv o gb v0 xs adv' wr) :
    wr.cell? ⟨w.heap.size, 0, none⟩ = some (.slice A0 l.length c0) ∧ wr.cell? ⟨w.heap.size, 1, none⟩ = some (.int .i64 adv) ∧ wr.cell? ⟨w.heap.size, 2, none⟩ = some (.bool o) ∧ Hid (TI w l A0 c0 adv o gb v0 xs adv' wr) :=
  ⟨h.inp.cell 0, h.inp.cell 1, h.inp.cell 2, Lib.hid h⟩
theorem TI.S2 {w : World} {l : List S47} {A0 : Option Addr} {c0 : Nat} {adv : Int} {o : Bool} {gb : Nat} {v0 : Value} {xs : List S47} {adv' : Int} {wr : World} (h : TI w l A0 c0 adv o gb v0 xs adv' wr) :
    wr.cell? ⟨w.heap.size, 0, none⟩ = some (.slice A0 l.length c0) ∧ wr.cell? ⟨w.heap.size, 1, none⟩ = some (.int .i64 adv) ∧ wr.cell? ⟨w.heap.size, 2, none⟩ = some (.bool o) ∧
    wr.cell? ⟨gb, 0, none⟩ = some v0 ∧ wr.cell? ⟨gb, 1, none⟩ = some (.int .i64 adv') ∧ wr.cell? ⟨gb, 2, none⟩ = some (.bool o) ∧ Hid (TI w l A0 c0 adv o gb v0 xs adv' wr) :=
  ⟨h.inp.cell 0, h.inp.cell 1, h.inp.cell 2, h.oth.cell 0, h.oth.cell 1, h.oth.cell 2, Lib.hid h⟩
theorem pub_c (l : List S47) (adv : Int) (hP : l.map pub = l) (hl : l.length < 3518437208883) (A : Option Addr) (c : Nat) (W : World) (hr : Kd.C k47 W A l.length l) (hc : l.length ≤ c) :
    Calls Try.prog 22 #[.agg #[.slice A l.length c, .int .i64 adv, .bool true]] W fun e w' => ∃ A' c', e = .returned (.agg #[.slice A' l.length c', .int .i64 adv, .bool true]) ∧ l.length ≤ c' ∧ Kd.C k47 w' A' l.length l ∧ Below W.heap.size W w' :=
  (res_Public.calls A c l adv true l adv true W hr hc (by rw [public_f l adv true hl, hP]; rfl)).mono fun e w' ⟨v, he, h1, hb⟩ => by
    obtain ⟨A', c', rfl⟩ := Kd.R_slice h1
    exact ⟨A', c', he, (Kd.R_reads' h1).2.1, (Kd.R_reads' h1).2.2, hb⟩
theorem own_c (l : List S47) (adv : Int) (hl : l.length < 3518437208883) (A : Option Addr) (c : Nat) (W : World) (hr : Kd.C k47 W A l.length l) (hc : l.length ≤ c) :
    Calls Try.prog 12 #[.agg #[.slice A l.length c, .int .i64 adv, .bool true]] W fun e w' => ∃ A' c', e = .returned (.agg #[.slice A' l.length c', .int .i64 adv, .bool true]) ∧ l.length ≤ c' ∧ Kd.C k66 w' A' l.length (l.map cv) ∧ Below W.heap.size W w' :=
  (scrimlaw13_own.calls 0 A c l adv true (l.map cv) adv true W hr hc (own_f l adv true 0 hl)).mono fun e w' ⟨v, he, h1, hb⟩ => by
    obtain ⟨A', c', rfl⟩ := Kd.R_slice h1
    have h2 := Kd.R_reads' h1
    simp only [List.length_map] at h2 he
    exact ⟨A', c', he, h2.2.1, h2.2.2, hb⟩
theorem same_c (l : List S47) (adv : Int) (hl : l.length < 3518437208883) (A : Option Addr) (c : Nat) (A' : Option Addr) (c' : Nat) (W : World) (hr : Kd.C k66 W A l.length (l.map cv)) (hc : l.length ≤ c) (hr' : Kd.C k66 W A' l.length (l.map cv)) (hc' : l.length ≤ c') :
    Calls Try.prog 21 #[.agg #[.slice A l.length c, .int .i64 adv, .bool true], .agg #[.slice A' l.length c', .int .i64 adv, .bool true]] W fun e w' => e = .returned (.bool true) ∧ Below W.heap.size W w' := by
  obtain ⟨k, hk⟩ := (same_f l l adv adv true true hl).rounds
  have h := fun hr hc hr' hc' => scrimref13_Same.calls k A c (l.map cv) adv true A' c' (l.map cv) adv true true W hr hc hr' hc' (by have h2 := hk; rw [eqT_self] at h2; exact h2)
  simp only [List.length_map] at h
  exact h hr hc hr' hc'
theorem alike_c (l m : List S47) (adv adv' : Int) (o : Bool) (hm : m.length = l.length) (hP : m.map pub = l.map pub) (ho : o = true → adv' = adv) (hl : l.length < 3518437208883) (A : Option Addr) (c : Nat) (A' : Option Addr) (c' : Nat) (W : World) (hr : Kd.C k47 W A l.length l) (hc : l.length ≤ c) (hr' : Kd.C k47 W A' l.length m) (hc' : l.length ≤ c') :
    Calls Try.prog 24 #[.agg #[.slice A l.length c, .int .i64 adv, .bool o], .agg #[.slice A' l.length c', .int .i64 adv', .bool o]] W fun e w' => e = .returned (.bool true) ∧ Below W.heap.size W w' := by
  obtain ⟨k, hk⟩ := (alike_f l m adv adv' o o hl (by omega)).rounds
  have he : eqT (l.map pub) (if o = true then adv else 0) o (m.map pub) (if o = true then adv' else 0) o = true := by
    rw [hP]
    cases o
    · exact eqT_self _ _ _
    · rw [ho rfl]; exact eqT_self _ _ _
  rw [he] at hk
  have h := fun hr hc hr' hc' => res_Alike.calls k A c l adv o A' c' m adv' o true W hr hc hr' hc' hk
  rw [hm] at h
  exact h hr hc hr' hc'
theorem adv_c (l m : List S47) (hm : m.length = l.length) (adv adv' : Int) (o : Bool) (ho : o = true → adv' = adv) (A : Option Addr) (c : Nat) (W : World) (hr : Kd.C k47 W A l.length m) (hc : l.length ≤ c) :
    Calls Try.prog 19 #[.agg #[.slice A l.length c, .int .i64 adv', .bool o]] W fun e w' => e = .returned (.int .i64 (advV adv o)) ∧ Below W.heap.size W w' := by
  have h := fun hr hc => res_Advance.calls A c m adv' o (advV adv o) W hr hc (by
    rw [adv_f]; unfold advV
    cases o
    · rfl
    · rw [ho rfl])
  rw [hm] at h
  exact h hr hc
theorem TI.new {w : World} {l : List S47} {A0 : Option Addr} {c0 : Nat} {adv : Int} {o : Bool} {v : Value} {w1 w2 : World} (hx : Blk w1 w.heap.size #[.slice A0 l.length c0, .int .i64 adv, .bool o] 26)
    (hb : Below w.heap.size w w1) (h2 : Below (w.heap.size + 1) w1 w2) (h1 : Kd.R k47 47 w2 (w.heap.size + 1) (fun _ => True) v l) : TI w l A0 c0 adv o w2.heap.size v l adv (w2.alloc (.cells #[v, .int .i64 adv, .bool o] 26)) :=
  ⟨(hx.below h2 (by omega)).alloc_old _, Blk.alloc _ _ _, (hx.below h2 (by omega)).lt, Kd.R_alloc h1 _, (hb.trans (h2.mono (by omega))).alloc (Nat.le_trans hb.size h2.size) _⟩
theorem TI.old {w : World} {l : List S47} {A0 : Option Addr} {c0 : Nat} {adv : Int} {o : Bool} {v : Value} {w1 w2 : World} {gb : Nat} (hx : Blk w1 w.heap.size #[.slice A0 l.length c0, .int .i64 adv, .bool o] 26)
    (hb : Below w.heap.size w w1) (h2 : Below (w.heap.size + 1) w1 w2) (h1 : Kd.R k47 47 w2 (w.heap.size + 1) (fun _ => True) v l) (hg : w.heap.size < gb) (h : Blk w2 gb #[.slice none 0 0, .int .i64 0, .bool false] 26) :
    TI w l A0 c0 adv o gb v l adv (((w2.setCell ⟨gb, 0, none⟩ v).setCell ⟨gb, 1, none⟩ (.int .i64 adv)).setCell ⟨gb, 2, none⟩ (.bool o)) := by
  have hi := hx.below h2 (by omega)
  have g0 := h.set 0 v
  have g1 := g0.set 1 (.int .i64 adv)
  refine ⟨((hi.setCell_other _ ?_).setCell_other _ ?_).setCell_other _ ?_, g1.set 2 _, hg, Kd.R_set (Kd.R_set (Kd.R_set h1 h (by decide) _ _) g0 (by decide) _ _) g1 (by decide) _ _, (((hb.trans (h2.mono (by omega))).setCell ?_ _).setCell ?_ _).setCell ?_ _⟩
  all_goals (simp; omega)
theorem b_alloc {B : Nat} {w W : World} (h : Below B w W) (hB : B ≤ w.heap.size) (o : Obj) : Below B w (W.alloc o) := h.alloc (Nat.le_trans hB h.size) o
theorem b_drew {B : Nat} {w W : World} (h : Below B w W) : Below B w W.drew := below_drew h
theorem R_none_at (W : World) (base b : Nat) (h : b = W.heap.size) (hb : base ≤ W.heap.size) : Kd.R k47 47 (W.alloc (.cells #[] 47)) base (fun _ => True) (.slice (some ⟨b, 0, none⟩) 0 0) [] := h ▸ R_none W base hb
theorem R_none_old {W : World} {base : Nat} {v : Value} (h : Kd.R k47 47 W base (fun _ => True) v []) (o : Obj) : Kd.R k47 47 (W.alloc o) base (fun _ => True) v [] := Kd.R_alloc h o
set_option maxRecDepth 20000 in
set_option maxHeartbeats 4000000 in
theorem turned_small (A0 : Option Addr) (c0 : Nat) (l : List S47) (adv : Int) (o : Bool) (A1 : Option Addr) (c1 : Nat) (n : List Int) (s : ByteArray) (w : World) (hr0 : Kd.C k47 w A0 l.length l)
    (hc0 : l.length ≤ c0) (hr1 : Kd.C (Kd.int .i64) w A1 n.length n) (hl : ¬ (l.length : Int) > 100) :
    Calls Try.prog 5 #[.agg #[.slice A0 l.length c0, .int .i64 adv, .bool o], .slice A1 n.length c1, .string s] w fun e w' => e = .returned (.bool true) ∧ Below w.heap.size w w' := by
  have HR0 := Lib.hid hr0
  have HR1 := Lib.hid hr1
  have HC0 := Lib.hid hc0
  clear hr0 hr1 hc0
  go_enter Try.func5, Try.ntmps5
  go_wp2_with fail
  have X0 := Blk.alloc w #[.slice A0 l.length c0, .int .i64 adv, .bool o] 26
  have B0 : Below w.heap.size w (w.alloc (.cells #[.slice A0 l.length c0, .int .i64 adv, .bool o] 26)) := (Below.refl _ _).alloc (Nat.le_refl _) _
  generalize w.alloc (.cells #[.slice A0 l.length c0, .int .i64 adv, .bool o] 26) = W0 at X0 B0 ⊢
  refine (sawake_calls W0).mono ?_
  rintro e w1 ⟨rfl, hb⟩
  have X1 := X0.below hb X0.lt
  have B1 := B0.trans (hb.mono B0.size)
  have HX1 := Lib.hid X1
  have HB1 := Lib.hid B1
  have q0 := X1.cell 0
  have q1 := X1.cell 1
  have q2 := X1.cell 2
  simp only [List.getElem?_toArray, List.getElem?_cons_zero, List.getElem?_cons_succ] at q0 q1 q2
  have sz : w.heap.size < w1.heap.size := X1.lt
  clear X0 B0 X1 B1 hb
  have n1 : ¬ w1.heap.size = w.heap.size := by omega
  have n2 : ¬ w.heap.size = w1.heap.size := by omega
  have n3 : ¬ w1.heap.size + 1 = w.heap.size := by omega
  have n4 : ¬ w.heap.size = w1.heap.size + 1 := by omega
  go_upto_region 5 with (fail)
  go_upto_region 6 with (fail)
  go_cut [7] from 22 to 28 (fun v7 wc => ∃ (gb : Nat) (v0 : Value), v7 = .pointer (some ⟨gb, 0, none⟩) ∧ Hid (TI w l A0 c0 adv o gb v0 l adv wc))
  case first =>
    go_region_held3 (fun w' => w'.cell? ⟨w.heap.size, 0, none⟩ = some (.slice A0 l.length c0) ∧ w'.cell? ⟨w.heap.size, 1, none⟩ = some (.int .i64 adv) ∧ w'.cell? ⟨w.heap.size, 2, none⟩ = some (.bool o))
      (first | go_keep | ((try dsimp only); refine ⟨?_, ?_, ?_⟩ <;> go_keep) | (go_split_ands; refine ⟨?_, ?_, ?_⟩ <;> (rw [h2.cell (by simp)]; assumption)))
      ((refine Kd.R_append_rows_step k47 (w0 := w1) (w.heap.size + 1) (by rfl) (.tmp 22) (.tmp 24) 22 47 (.agg #[.string ⟨#[]⟩, .int .i64 0, .int .i64 0, .bool false]) 40 (by rfl) Try.underlying22 info47 rfl (by decide) (by omega)
          (.slice (some ⟨_, 0, none⟩) 0 0) [] l A0 l.length c0 (fun _ => True) (fun _ => False) (by rfl) (by rfl) (by with_reducible repeat (first | exact R_none_at _ _ _ (by simp) (by first | omega | (simp; omega)) | apply Kd.R_alloc | apply Kd.R_drew))
          (Kd.C_below HR0.out (by with_reducible repeat (first | exact HB1.out | apply below_alloc | apply below_drew))) (fun _ _ h => h) (fun _ h => h.elim) (fun _ _ => trivial) (by with_reducible repeat (first | exact Below.refl _ _ | (refine b_alloc ?_ (by omega) _) | apply b_drew)) (by simp; omega) (by simp; omega) ?_
        intro v1 w2 h1 h2 h3 h4
        obtain ⟨A2, c2, rfl⟩ := Kd.R_slice h1
        have k0 := (h2.cell (p := ⟨w.heap.size, 0, none⟩) (by simp)).trans q0
        have k1 := (h2.cell (p := ⟨w.heap.size, 1, none⟩) (by simp)).trans q1
        have k2 := (h2.cell (p := ⟨w.heap.size, 2, none⟩) (by simp)).trans q2
        have k3 : w.heap.size < w2.heap.size := Nat.lt_of_lt_of_le sz h2.size
        first
        | have hbx : Blk w2 (w1.heap.size + 1) #[.slice none 0 0, .int .i64 0, .bool false] 26 := (h3.block (w1.heap.size + 1) (by first | (simp; done) | (simp; omega)) (by simp [Value.ownBlock])).trans (by exact Blk.alloc_at _ _ _ (by simp))
          have m0 := hbx.cell 0
          have m1 := hbx.cell 1
          have m2 := hbx.cell 2
          have m3 := hbx.free 0
          have m4 := hbx.free 1
          have m5 := hbx.free 2
          simp only [List.getElem?_toArray, List.getElem?_cons_zero, List.getElem?_cons_succ] at m0 m1 m2
        | have hbx : Blk w2 w1.heap.size #[.slice none 0 0, .int .i64 0, .bool false] 26 := (h3.block w1.heap.size (by first | (simp; done) | (simp; omega)) (by simp [Value.ownBlock])).trans (by exact (Blk.alloc_at _ _ _ (by simp)).alloc_old _)
          have m0 := hbx.cell 0
          have m1 := hbx.cell 1
          have m2 := hbx.cell 2
          have m3 := hbx.free 0
          have m4 := hbx.free 1
          have m5 := hbx.free 2
          simp only [List.getElem?_toArray, List.getElem?_cons_zero, List.getElem?_cons_succ] at m0 m1 m2
        | skip))
    · go_wp2_with fail
      go_meet
      case rel => exact ⟨_, _, rfl, Lib.hid (TI.new HX1.out HB1.out h2 h1)⟩
    · go_wp2_with fail
      go_meet
      case rel => exact ⟨_, _, rfl, Lib.hid (TI.old HX1.out HB1.out h2 h1 (by omega) hbx)⟩
    · go_wp2_with fail
      go_meet
      case rel => exact ⟨_, _, rfl, Lib.hid (TI.old HX1.out HB1.out h2 h1 (by omega) hbx)⟩
  case rest =>
    obtain ⟨gb, v0, rfl, HT⟩ := hcut
    clear HX1 HB1 q0 q1 q2 sz n1 n2 n3 n4
    obtain ⟨A2, c2, rfl⟩ := Kd.R_slice HT.out.row
    have y0 := HT.out.oth.cell 0
    have q0 := HT.out.inp.cell 0
    have q1 := HT.out.inp.cell 1
    have q2 := HT.out.inp.cell 2
    simp only [List.getElem?_toArray, List.getElem?_cons_zero, List.getElem?_cons_succ] at y0 q0 q1 q2
    go_wp2_with fail
    go_loopw [8, 35] (fun a i wr => ∃ k : Nat, k ≤ l.length ∧ i = .int .i64 k ∧ a = .bool (allTo o k l) ∧ Hid (TI w l A0 c0 adv o gb (.slice A2 l.length c2) (chTo n k l) adv wr)) (fun _ i wr => l.length - (intOf i).toNat)
    case atStart => exact ⟨0, Nat.zero_le _, rfl, by simp [allTo], by rw [chTo_zero]; exact HT⟩
    case round =>
      obtain ⟨k, hk, rfl, rfl, P⟩ := hrel
      clear HT y0 q0 q1 q2
      by_cases hlt : k < l.length
      · obtain ⟨g, cap, hv, hg1, hg2, cells, hcell⟩ := Kd.R_form P.out.row (by rw [chTo_length n k l hk]; omega)
        simp only [Value.slice.injEq] at hv
        obtain ⟨rfl, -, rfl⟩ := hv
        obtain ⟨c, hcl, hcM, hcc, hcf⟩ := Kd.R_elem P.out.row z47 (k : Int) (by omega) (by omega)
        rw [Int.toNat_natCast, chTo_get n k l hlt] at hcM
        have hc4 := k47_openM hcM
        have e1 := hcc 1 _ (by rw [hc4]; rfl)
        have e2 := hcc 2 _ (by rw [hc4]; rfl)
        have e3 := hcc 3 _ (by rw [hc4]; rfl)
        have hS : Hid (chg n k l[k] = l[k] → chTo n (k + 1) l = chTo n k l) := Lib.hid (chTo_same n k l hlt)
        have hN : Hid (chTo n (k + 1) l = (chTo n k l).set k (chg n k l[k])) := Lib.hid (chTo_succ n k l hlt)
        have hA : Hid (allTo o (k + 1) l = (allTo o k l && l[k].f3)) := Lib.hid (allTo_succ o k l hlt)
        generalize hx : l[k] = x at *
        obtain ⟨x0, x1, x2, x3⟩ := x
        have sz : (k47 : Kd S47).sz = 4 := rfl
        simp only [Int.toNat_natCast, sz, Nat.add_zero] at e1 e2 e3
        have y0 := P.out.oth.cell 0
        simp only [List.getElem?_toArray, List.getElem?_cons_zero] at y0
        have H4 := Lib.hid hc4
        have HCC := Lib.hid hcc
        have HCL := Lib.hid hcl
        have HCM := Lib.hid hcM
        have z1 := hcf 1
        have z2 := hcf 2
        simp only [Int.toNat_natCast, sz] at z1 z2
        have HG := Lib.hid hg2
        have HCE := Lib.hid hcell
        clear hc4 hcc hcf hcl hcM hx hcell sz
        have sz1 : w.heap.size < wr.heap.size := P.out.inp.lt
        cases x3
        · by_cases hn : 2 * k + 1 < n.length
          · have hn1 : decide (2 * (k : Int) + 1 < (n.length : Int)) = true := decide_eq_true (by omega)
            obtain ⟨ad, rfl, b0⟩ := Kd.at_int HR1.out (2 * (k : Int)) (by omega) (by omega)
            obtain ⟨ad', h', b1⟩ := Kd.at_int HR1.out (2 * (k : Int) + 1) (by omega) (by omega)
            obtain rfl := Option.some.inj h'
            have hb2 : ∀ j, (ad.add j).block = ad.block := fun j => by unfold Addr.add; split <;> rfl
            have l0 : ad.block ≠ g := by
              have hb3 := World.block_lt_of_cell? w _ b0
              rw [hb2] at hb3
              omega
            clear hb2
            have hne : gb ≠ g := blk_ne P.out.oth HCE.out (by decide)
            have i0 : (2 * (k : Int)).toNat = 2 * k := by omega
            have i1 : (2 * (k : Int) + 1).toNat = 2 * k + 1 := by omega
            have r0 : rd n (2 * (k : Int)) = n.getD (2 * k) 0 := by unfold rd; rw [i0]
            have r1 : rd n (2 * (k : Int) + 1) = n.getD (2 * k + 1) 0 := by unfold rd; rw [i1]
            rw [r0, i0] at b0
            rw [r1, i1] at b1
            generalize hv0 : n.getD (2 * k) 0 = v0 at *
            generalize hv1 : n.getD (2 * k + 1) 0 = v1 at *
            have HV0 := Lib.hid hv0
            have HV1 := Lib.hid hv1
            have b0' : wr.drew.cell? (ad.add (2 * k)) = some (.int .i64 v0) := (P.out.below.cell (p := ad.add (2 * k)) (World.block_lt_of_cell? w _ b0)).trans b0
            have b1' : wr.drew.cell? ⟨ad.block, ad.off + (2 * k + 1), none⟩ = some (.int .i64 v1) := (show wr.drew.cell? ⟨ad.block, ad.off + (2 * k + 1), none⟩ = wr.drew.cell? (ad.add (2 * k + 1)) by unfold Addr.add; rw [if_neg (by omega)]).trans <| (P.out.below.cell (p := ad.add (2 * k + 1)) (World.block_lt_of_cell? w _ b1)).trans b1
            have ab : ∀ j, (ad.add j).block = ad.block := fun j => by unfold Addr.add; split <;> rfl
            have c0' := fun q => TC.other (x := v0) (y := v1) (o := k * 4) (g := g) q (show wr.drew.cell? ⟨gb, 0, none⟩ = _ from y0) hne
            have c1' := fun q => TC.other (x := v0) (y := v1) (o := k * 4) (g := g) q b0' (by rw [ab]; exact l0)
            have c2' := fun q => TC.other (x := v0) (y := v1) (o := k * 4) (g := g) q b1' l0
            have C0 := Lib.hid c0'
            have C1 := Lib.hid c1'
            have C2 := Lib.hid c2'
            clear b0 b1 b0' b1' h' r0 r1 i0 i1 hv0 hv1 ab c0' c1' c2'
            rcases (show allTo o k l = true ∨ allTo o k l = false by cases allTo o k l <;> simp) with ha | ha
            all_goals
              rw [ha]
              go_wp2_with fail
              have c0' := C0.out
              have c1' := C1.out
              have c2' := C2.out
              have ne : Nonempty (Mix.Wd (TC wr.drew g (k * 4) v0 v1) 0) := ⟨⟨wr.drew, 0, Nat.le_refl _, rfl⟩⟩
              have i2 : (0 : Int) ≤ 2 * (k : Int) := by omega
              have i3 : 2 * (k : Int) < (n.length : Int) := by omega
              have i4 : (2 * (k : Int)).toNat = 2 * k := by omega
              have i5 : (2 * (k : Int) + 1).toNat = 2 * k + 1 := by omega
              have i6 : (0 : Int) ≤ 2 * (k : Int) + 1 := by omega
              have i7 : 2 * (k : Int) + 1 < (n.length : Int) := by omega
              have i8 : IntKind.i64.wrap (2 * (k : Int)) = 2 * (k : Int) := by exact i64_in _ (by omega)
              have i9 : IntKind.i64.wrap (2 * (k : Int) + 1) = 2 * (k : Int) + 1 := by exact i64_in _ (by omega)
              refine Mix.wp_region_mix (C := TC wr.drew g (k * 4) v0 v1) [19, 22] (by kernel_rfl) (by kernel_rfl) rfl ?_
              iterate 19 (refine Mix.mix_still (by decide) (fun K hK => ?_); go_simp; refine hK _ ?_; clear hK K)
              refine Mix.mix_turn (by decide) (fun K hK => ?_)
              go_simp
              refine ⟨⟨undef, fun yw hy => ?_⟩, hK _ ?_⟩
              · obtain rfl : yw = wr.drew := hy
                have d1 : wr.drew.cell? ⟨g, k * 4 + 1, none⟩ = some (.int .i64 x1) := e1
                have d2 : wr.drew.frozen? ⟨g, k * 4 + 1, none⟩ = false := z1
                clear c0' c1' c2' ne e1 e2 e3 y0 z1 z2
                go_simp
                all_goals exact (rfl : TC wr.drew g (k * 4) v0 v1 1 _)
              clear hK K
              iterate 2 (refine Mix.mix_still (by decide) (fun K hK => ?_); go_simp; refine hK _ ?_; clear hK K)
              refine Mix.mix_turn (by decide) (fun K hK => ?_)
              go_simp
              refine ⟨⟨undef, fun yw hy => ?_⟩, hK _ ?_⟩
              · obtain rfl : yw = wr.drew.setCell ⟨g, k * 4 + 1, none⟩ (.int .i64 v0) := hy
                have d1 : (wr.drew.setCell ⟨g, k * 4 + 1, none⟩ (.int .i64 v0)).cell? ⟨g, k * 4 + 2, none⟩ = some (.int .i64 x2) := by
                  rw [World.cell?_setCell_other _ _ _ _ (by simp)]; exact e2
                have d2 : (wr.drew.setCell ⟨g, k * 4 + 1, none⟩ (.int .i64 v0)).frozen? ⟨g, k * 4 + 2, none⟩ = false := by rw [World.frozen?_setCell]; exact z2
                clear c0' c1' c2' ne e1 e2 e3 y0 z1 z2
                have hs : TC wr.drew g (k * 4) v0 v1 2 ((wr.drew.setCell ⟨g, k * 4 + 1, none⟩ (.int .i64 v0)).setCell ⟨g, k * 4 + 2, none⟩ (.int .i64 v1)) := rfl
                generalize wr.drew.setCell ⟨g, k * 4 + 1, none⟩ (.int .i64 v0) = yw at d1 d2 hs ⊢
                go_simp
                all_goals exact hs
              clear hK K
              refine Mix.mix_nil ?_
              intro w' hw'
              obtain rfl : w' = (wr.drew.setCell ⟨g, k * 4 + 1, none⟩ (.int .i64 v0)).setCell ⟨g, k * 4 + 2, none⟩ (.int .i64 v1) := hw'
              clear c0' c1' c2' ne e1 e2 e3 y0 z1 z2 i2 i3 i4 i5 i6 i7 i8 i9
              go_wp2_with fail
              go_roundw
              case rel =>
                have hs := (Kd.R_seg (x' := ⟨x0, v0, v1, false⟩) (okp := fun _ => False) (c := c) (seg := [.int .i64 v0, .int .i64 v1]) (j := 1) P.out.row (k : Int) (by omega) (by omega) HCL.out HCC.out (show 1 + 2 ≤ 4 from by omega) (by rw [H4.out]; exact k47_mkM _ _ _ ⟨x0, v0, v1, false⟩) (fun _ hf => hf.elim)).1
                have hc : chg n k ⟨x0, x1, x2, false⟩ = ⟨x0, v0, v1, false⟩ := by unfold chg; rw [if_pos ⟨rfl, hn⟩, HV0.out, HV1.out]
                refine ⟨k + 1, by omega, by go_num, by rw [hA.out, ha]; rfl, Lib.hid ⟨?_, ?_, P.out.ne, ?_, ?_⟩⟩
                · exact ((P.out.inp.drew).setCell_other _ (by simp; omega)).setCell_other _ (by simp; omega)
                · exact ((P.out.oth.drew).setCell_other _ (by simpa using hne)).setCell_other _ (by simpa using hne)
                · rw [hN.out, hc]
                  rw [Int.toNat_natCast] at hs
                  exact hs
                · exact ((below_drew P.out.below).setCell (by simp; omega) _).setCell (by simp; omega) _
              case measure => simp [intOf]; omega
          · have hn1 : decide (2 * (k : Int) + 1 < (n.length : Int)) = false := decide_eq_false (by omega)
            rcases (show allTo o k l = true ∨ allTo o k l = false by cases allTo o k l <;> simp) with ha | ha
            all_goals
              rw [ha]
              go_wp2_with fail
              go_roundw
              case rel => exact ⟨k + 1, by omega, by go_num, by rw [hA.out, ha]; rfl, Lib.hid (by rw [hS.out (by unfold chg; rw [if_neg (by omega)])]; exact P.out)⟩
              case measure => simp [intOf]; omega
        · rcases (show allTo o k l = true ∨ allTo o k l = false by cases allTo o k l <;> simp) with ha | ha
          all_goals
            rw [ha]
            go_wp2_with fail
            go_roundw
            case rel => exact ⟨k + 1, by omega, by go_num, by rw [hA.out, ha]; rfl, Lib.hid (by rw [hS.out (by unfold chg; rw [if_neg (by simp)])]; exact P.out)⟩
            case measure => simp [intOf]; omega
      · have hkl : k = l.length := by omega
        subst hkl
        have P' : Hid (TI w l A0 c0 adv o gb (.slice A2 l.length c2) (chAll n 0 l) adv wr) := by rw [← chTo_all]; exact P
        clear P
        obtain ⟨m, hm⟩ : ∃ m, m = chAll n 0 l := ⟨_, rfl⟩
        obtain ⟨al, hal⟩ : ∃ al, al = allTo o l.length l := ⟨_, rfl⟩
        rw [← hm] at P'
        rw [← hal]
        have hml : m.length = l.length := by rw [hm, chAll_length]
        have HM := Lib.hid hm
        have HML := Lib.hid hml
        have HAL := Lib.hid hal
        clear hm hal hml
        have y0 := P'.out.oth.cell 0
        have y1 := P'.out.oth.cell 1
        have y2 := P'.out.oth.cell 2
        have u1 := P'.out.oth.free 1
        have q0 := P'.out.inp.cell 0
        have q1 := P'.out.inp.cell 1
        have q2 := P'.out.inp.cell 2
        simp only [List.getElem?_toArray, List.getElem?_cons_zero, List.getElem?_cons_succ] at y0 y1 y2 q0 q1 q2
        go_upto_region 14 with (fail)
        go_cut [92] from 84 to 91 (fun c wx => c = .bool (!o && decide (0 < (n.length : Int))) ∧ wx = wr)
        case first =>
          cases o
          all_goals
            go_wp2_with fail
            go_meet
            case rel => exact ⟨by simp, rfl⟩
        case rest =>
        obtain ⟨rfl, rfl⟩ := hcut
        obtain ⟨cc, hcc⟩ : ∃ cc, cc = (!o && decide (0 < (n.length : Int))) := ⟨_, rfl⟩
        rw [← hcc]
        go_upto_if 92 with (fail)
        go_cut [8, 92] from 93 to 97 (fun a8 c9 wc => ∃ adv' : Int, a8 = .bool al ∧ c9 = .bool cc ∧ Hid (o = true → adv' = adv) ∧ Hid (TI w l A0 c0 adv o gb (.slice A2 l.length c2) m adv' wc))
        case first =>
          rcases (show cc = true ∨ cc = false by cases cc <;> simp) with hc | hc
          · have hc' := hcc.symm.trans hc
            rw [Bool.and_eq_true, Bool.not_eq_true', decide_eq_true_eq] at hc'
            obtain ⟨h1, h2⟩ := hc'
            have H1 := Lib.hid h1
            obtain ⟨ad, rfl, b0⟩ := Kd.at_int (Kd.C_below HR1.out P'.out.below) 0 (by omega) (by omega)
            simp [Addr.add] at b0
            have h3 : 0 < n.length := by omega
            clear h1 hcc
            rw [hc]
            go_wp2_with fail
            go_meet
            case rel =>
              exact ⟨_, rfl, by rw [hc], Lib.hid (fun h => by rw [H1.out] at h; cases h), Lib.hid ⟨P'.out.inp.setCell_other _ (by have := P'.out.ne; simp; omega), P'.out.oth.set 1 _, P'.out.ne, Kd.R_set P'.out.row P'.out.oth (by decide) _ _, P'.out.below.setCell (by have := P'.out.ne; simp; omega) _⟩⟩
          · clear hcc
            rw [hc]
            go_wp2_with fail
            go_meet
            case rel => exact ⟨_, rfl, by rw [hc], Lib.hid (fun _ => rfl), P'⟩
        case rest =>
          obtain ⟨adv', rfl, rfl, HO, P⟩ := hcut
          clear P' y0 y1 y2 u1 q0 q1 q2
          have y0 := P.out.oth.cell 0
          have y1 := P.out.oth.cell 1
          have y2 := P.out.oth.cell 2
          have q0 := P.out.inp.cell 0
          have q1 := P.out.inp.cell 1
          have q2 := P.out.inp.cell 2
          simp only [List.getElem?_toArray, List.getElem?_cons_zero, List.getElem?_cons_succ] at y0 y1 y2 q0 q1 q2
          have HSZ : Hid (sizeV m s = sizeV l s) := Lib.hid (by rw [HM.out, size_ch])
          have HPB : Hid (m.map pub = l.map pub) := Lib.hid (by rw [HM.out, pubs_ch])
          obtain ⟨⟨v1, v2, v3⟩, hz⟩ : ∃ z, z = sizeV l s := ⟨_, rfl⟩
          have HZ := Lib.hid hz
          clear hz
          have hl' : l.length < 3518437208883 := by omega
          have hm' : m.length < 3518437208883 := by rw [HML.out]; exact hl'
          clear hm'
          go_wp2_with fail
          refine (res_Size.calls A0 c0 l adv o s v1 v2 v3 _ (Kd.C_below HR0.out P.out.below) HC0.out (by rw [size_f l adv o s hl', HZ.out])).mono ?_
          rintro e w2 ⟨rfl, hb⟩
          have P2 := Lib.hid (P.out.next hb)
          clear hb y0 y1 y2 q0 q1 q2
          have y0 := P2.out.oth.cell 0
          have y1 := P2.out.oth.cell 1
          have y2 := P2.out.oth.cell 2
          simp only [List.getElem?_toArray, List.getElem?_cons_zero, List.getElem?_cons_succ] at y0 y1 y2
          go_wp2_with fail
          have hrow := Kd.R_reads' P2.out.row
          have hcon := fun W => res_Size.calls A2 c2 m adv' o s v1 v2 v3 W
          simp only [HML.out] at hcon hrow
          refine (hcon _ hrow.2.2 hrow.2.1 (by rw [size_f m adv' o s (by rw [HML.out]; exact hl'), HSZ.out, HZ.out])).mono ?_
          rintro e w3 ⟨rfl, hb⟩
          have P3 := Lib.hid (P2.out.next hb)
          clear hb y0 y1 y2 hrow hcon
          go_upto_region 19 with (fail)
          go_cut [121] from 112 to 120 (fun c wc => c = .bool false ∧ Hid (TI w l A0 c0 adv o gb (.slice A2 l.length c2) m adv' wc))
          case first =>
            rcases (show al = true ∨ al = false by cases al <;> simp) with ha | ha
            · have ho := HAL.out.symm.trans ha
              unfold allTo at ho
              rw [Bool.and_eq_true, List.take_length] at ho
              obtain ⟨rfl, ho2⟩ := ho
              have hP := pub_open ho2
              have HP := Lib.hid hP
              clear ho2 hP HAL
              subst ha
              go_region_held3 (fun w' => w'.cell? ⟨w.heap.size, 0, none⟩ = some (.slice A0 l.length c0) ∧ w'.cell? ⟨w.heap.size, 1, none⟩ = some (.int .i64 adv) ∧ w'.cell? ⟨w.heap.size, 2, none⟩ = some (.bool true) ∧ Hid (TI w l A0 c0 adv true gb (.slice A2 l.length c2) m adv' w'))
                (first | (go_split_ands; exact TI.S (TI.next (Hid.out (by assumption)) hb)) | exact TI.S (TI.next P3.out (below_drew (Below.refl _ _))))
                (first
                | (go_at_call 22; go_split_ands; (with_reducible refine (pub_c l adv HP.out hl' A0 c0 _ (Kd.C_below HR0.out (Hid.out (by assumption : Hid (TI w l A0 c0 adv true gb (.slice A2 l.length c2) m adv' _))).below) HC0.out).mono ?_); rintro e w' ⟨Ap, cp, rfl, hcp, hRp, hb⟩; have HRp := Lib.hid hRp; have HbP := Lib.hid hb; clear hRp)
                | (go_at_call 12; go_split_ands; (with_reducible refine (own_c l adv hl' A0 c0 _ (Kd.C_below HR0.out (Hid.out (by assumption : Hid (TI w l A0 c0 adv true gb (.slice A2 l.length c2) m adv' _))).below) HC0.out).mono ?_); rintro e w' ⟨Ao, co, rfl, hco, hRo, hb⟩; have HRo := Lib.hid hRo; have HbO := Lib.hid hb; clear hRo)
                | (go_at_call 12; go_split_ands; (with_reducible refine (own_c l adv hl' Ap cp _ (by first | exact HRp.out | exact Kd.C_below HRp.out HbO.out) hcp).mono ?_); rintro e w' ⟨Aq, cq, rfl, hcq, hRq, hb⟩; have HRq := Lib.hid hRq; have HbQ := Lib.hid hb; clear hRq)
                | (go_at_call 21; go_split_ands; (with_reducible refine (same_c l adv hl' Aq cq Ao co _ (by first | exact HRq.out | exact Kd.C_below HRq.out HbO.out) hcq (by first | exact HRo.out | exact Kd.C_below HRo.out HbQ.out | exact Kd.C_below (Kd.C_below HRo.out HbP.out) HbQ.out) hco).mono ?_); rintro e w' ⟨rfl, hb⟩))
              all_goals
                go_split_ands
                go_wp2_with fail
                go_meet
                case rel => exact ⟨rfl, by assumption⟩
            · subst ha
              go_quiet (fail)
              go_wp2_with fail
              go_meet
              case rel => exact ⟨rfl, Lib.hid (TI.next P3.out (below_drewN (Below.refl _ _) _))⟩
          case rest =>
            obtain ⟨rfl, P4⟩ := hcut
            clear P P2 P3
            go_upto_region 20 with (fail)
            have hcr := Kd.R_reads' P4.out.row
            simp only [HML.out] at hcr
            have hcc := hcr.2.1
            clear hcr
            have HCC := Lib.hid hcc
            clear hcc
            go_region_held3 (fun w' => w'.cell? ⟨w.heap.size, 0, none⟩ = some (.slice A0 l.length c0) ∧ w'.cell? ⟨w.heap.size, 1, none⟩ = some (.int .i64 adv) ∧ w'.cell? ⟨w.heap.size, 2, none⟩ = some (.bool o) ∧ w'.cell? ⟨gb, 0, none⟩ = some (.slice A2 l.length c2) ∧ w'.cell? ⟨gb, 1, none⟩ = some (.int .i64 adv') ∧ w'.cell? ⟨gb, 2, none⟩ = some (.bool o) ∧ Hid (TI w l A0 c0 adv o gb (.slice A2 l.length c2) m adv' w'))
              (first | (go_split_ands; exact TI.S2 (TI.next (Hid.out (by assumption)) hb)) | exact TI.S2 (TI.next P4.out (below_drew (Below.refl _ _))))
              (first
              | (go_at_call 24; go_split_ands; (with_reducible refine (alike_c l m adv adv' o HML.out HPB.out HO.out hl' A0 c0 A2 c2 _ (Kd.C_below HR0.out (Hid.out (by assumption : Hid (TI w l A0 c0 adv o gb (.slice A2 l.length c2) m adv' _))).below) HC0.out (by have h := (Kd.R_reads' (Hid.out (by assumption : Hid (TI w l A0 c0 adv o gb (.slice A2 l.length c2) m adv' _))).row).2.2; rw [HML.out] at h; exact h) HCC.out).mono ?_); rintro e w' ⟨rfl, hb⟩)
              | (go_at_call 19; go_split_ands; (with_reducible refine (adv_c l l rfl adv adv o (fun _ => rfl) A0 c0 _ (Kd.C_below HR0.out (Hid.out (by assumption : Hid (TI w l A0 c0 adv o gb (.slice A2 l.length c2) m adv' _))).below) HC0.out).mono ?_); rintro e w' ⟨rfl, hb⟩)
              | (go_at_call 19; go_split_ands; (with_reducible refine (adv_c l m HML.out adv adv' o HO.out A2 c2 _ (by have h := (Kd.R_reads' (Hid.out (by assumption : Hid (TI w l A0 c0 adv o gb (.slice A2 l.length c2) m adv' _))).row).2.2; rw [HML.out] at h; exact h) HCC.out).mono ?_); rintro e w' ⟨rfl, hb⟩))
            all_goals
              go_split_ands
              have hT : Hid (Below w.heap.size w _) := Lib.hid (Hid.out (by assumption : Hid (TI w l A0 c0 adv o gb (.slice A2 l.length c2) m adv' _))).below
              go_wp2_with fail
              go_ret
              exact ⟨rfl, hT.out⟩
theorem turned_large (A0 : Option Addr) (c0 : Nat) (l : List S47) (adv : Int) (o : Bool) (A1 : Option Addr) (c1 : Nat) (n : List Int) (s : ByteArray) (w : World) (hl : (l.length : Int) > 100) :
    Calls Try.prog 5 #[.agg #[.slice A0 l.length c0, .int .i64 adv, .bool o], .slice A1 n.length c1, .string s] w fun e w' => e = .returned (.bool true) ∧ Below w.heap.size w w' := by
  go_enter Try.func5, Try.ntmps5
  go_wp2_with fail
  have X0 := Blk.alloc w #[.slice A0 l.length c0, .int .i64 adv, .bool o] 26
  have B0 : Below w.heap.size w (w.alloc (.cells #[.slice A0 l.length c0, .int .i64 adv, .bool o] 26)) := (Below.refl _ _).alloc (Nat.le_refl _) _
  generalize w.alloc (.cells #[.slice A0 l.length c0, .int .i64 adv, .bool o] 26) = W0 at X0 B0 ⊢
  refine (sawake_calls W0).mono ?_
  rintro e w1 ⟨rfl, hb⟩
  have X1 := X0.below hb X0.lt
  have HB1 := Lib.hid (B0.trans (hb.mono B0.size))
  have q0 := X1.cell 0
  simp only [List.getElem?_toArray, List.getElem?_cons_zero] at q0
  clear X0 B0 X1 hb
  go_wp2_with fail
  go_ret
  exact ⟨rfl, HB1.out⟩
theorem turned_walk (A0_0 : Option Addr) (c0_0 : Nat) (l0_0 : List S47) (a0_1_0 : Int) (a0_1_1 : Bool) (A1 : Option Addr) (c1 : Nat) (l1 : List Int) (a2 : ByteArray) (w : World) (hr0_0 : Kd.C k47 w A0_0 l0_0.length l0_0) (hc0_0 : l0_0.length ≤ c0_0) (hr1 : Kd.C (Kd.int .i64) w A1 l1.length l1) (hc1 : l1.length ≤ c1) (g0_0 : ((∀ y ∈ l0_0, (good47 y)) ∧ l0_0.length ≤ maxLen)) (g0_1_0 : ((Lit.int .i64 a0_1_0).wf = true)) (g1 : ((∀ y ∈ l1, ((Lit.int .i64 y).wf = true)) ∧ l1.length ≤ maxLen)) (g2 : (a2.size ≤ maxLen)) :
    Calls Try.prog 5 #[.agg #[.slice A0_0 l0_0.length c0_0, .int .i64 a0_1_0, .bool a0_1_1], .slice A1 l1.length c1, .string a2] w fun e w' => e = .returned (.bool true) ∧ Below w.heap.size w w' := by
  by_cases hl : (l0_0.length : Int) > 100
  · exact turned_large A0_0 c0_0 l0_0 a0_1_0 a0_1_1 A1 c1 l1 a2 w hl
  · exact turned_small A0_0 c0_0 l0_0 a0_1_0 a0_1_1 A1 c1 l1 a2 w hr0_0 hc0_0 hr1 hl
end Go.Proofs.Ytnjheeoogglnaaa.R
