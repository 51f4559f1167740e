/- What the proof of tokenTells_holds needs, of the texts that this work has written and of the words that the kit's print lends. -/
import Derived.Below
import Derived.Deep.Draws
import Derived.Deep.AppendLies
import Derived.Maps.AppendAt
import Derived.OwnWalk
import Derived.Laws.BytesArg
import Derived.Laws.MakeOwn
import Derived.Laws.OwnMore
import Derived.Deep.OwnRows
import Derived.Tactics
import Derived.Lib.ConvBytes
import Derived.Laws.Slices
import Derived.WalkKit
import Derived.KernelRfl
import Derived.RowKit3
import Derived.Deep.LoopGhost
import Derived.Deep.QuietTactic
import Derived.BigQuiet
import Derived.WideLaws
import Derived.Deep.DeepCutAuto
import Derived.Deep.CutBlock
import Derived.Deep.RegionHeld3
import Derived.Laws.Rows
import Derived.Lib.AppendStr
import Derived.ArgAppend
import Derived.Laws.IdiomCopy
import Derived.RowKit
import Derived.Lib.Hide
import Derived.Still
import Derived.Tactics2
import Derived.Laws.Tables
import Derived.Laws.CopyRow
set_option linter.unusedVariables false
set_option linter.unusedSimpArgs false
namespace Go.Proofs.YtkjgnkmnngaioaaGreatW.PrintWords
open Go.RowKit
/-- A fact that the walk's simp doesn't look into. -/
structure Aside0 (p : Prop) : Prop where mk :: (out : p)
/-- The world is the old one, some orders having been drawn. -/
structure Drawn0 (w w' : World) : Prop where mk :: (out : ∃ n, w' = w.drewN n)
theorem Drawn0.refl (w : World) : Drawn0 w w := ⟨⟨0, rfl⟩⟩
theorem Drawn0.step {w w' : World} (h : Drawn0 w w') (n : Nat) : Drawn0 w (w'.drewN n) := by
  obtain ⟨m, rfl⟩ := h
  exact ⟨⟨m + n, World.drewN_drewN ..⟩⟩
def rd (xs : List Int) (i : Int) : Int := xs.getD i.toNat 0
def bt (s : ByteArray) (i : Int) : Int := if h : i.toNat < s.size then ((s[i.toNat]'h).toNat : Int) else 0
theorem bt_at (s : ByteArray) (i : Int) : ∀ h : i.toNat < s.size, ((s[i.toNat]'h).toNat : Int) = bt s i := fun h => by simp [bt, h]
def nums (k : IntKind) (xs : List Int) : List Value := xs.map fun x => .int k x
def bools (xs : List Bool) : List Value := xs.map fun x => .bool x
def pw_strs (xs : List ByteArray) : List Value := xs.map fun x => .string x
theorem below_alloc {w W : World} (h : Below w.heap.size w W) (o : Obj) : Below w.heap.size w (W.alloc o) := h.alloc h.size o
theorem below_drew {B : Nat} {w W : World} (h : Below B w W) : Below B w W.drew := ⟨h.os, h.tape, h.output, h.size, h.block⟩
theorem pw_below_drewN {B : Nat} {w W : World} (h : Below B w W) (n : Nat) : Below B w (W.drewN n) := ⟨h.os, h.tape, h.output, h.size, h.block⟩
theorem below_then {B : Nat} {w w1 w2 : World} (h : Below B w w1) (hB : B ≤ w1.heap.size) (k : Below w1.heap.size w1 w2) : Below B w w2 :=
  h.trans ⟨k.os, k.tape, k.output, k.size, fun i hi => k.block i (Nat.lt_of_lt_of_le hi hB)⟩
theorem pw_cell_below {w w1 : World} (h : Below w.heap.size w w1) {a : Addr} {v : Value} (hc : w.cell? a = some v) : w1.cell? a = some v := (h.cell (World.block_lt_of_cell? w a hc)).trans hc
theorem add_plain (g j : Nat) : (⟨g, 0, none⟩ : Addr).add j = ⟨g, j, none⟩ := by unfold Addr.add; split <;> simp_all
def ReadsInt (w : World) (k : IntKind) (A : Option Addr) (n : Nat) (xs : List Int) : Prop :=
  xs.length = n ∧ n ≤ 9223372036854775807 ∧ (0 < n → ∃ ad, A = some ad ∧ ∀ j, j < n → w.cell? (ad.add j) = some (.int k (xs.getD j 0)))
theorem ReadsInt.at_ {w : World} {k : IntKind} {A : Option Addr} {n : Nat} {xs : List Int} (h : ReadsInt w k A n xs) (i : Int) (h0 : 0 ≤ i) (h1 : i < n) : ∃ ad, A = some ad ∧ w.cell? (ad.add i.toNat) = some (.int k (rd xs i)) := by
  obtain ⟨ad, e, hc⟩ := h.2.2 (by omega)
  exact ⟨ad, e, hc _ (by omega)⟩
theorem own_nil (W : World) (base : Nat) (e : TypeId) (size : Nat) : W.ownsRow base e size (.slice none 0 0) 0 [] := ⟨by simp, .inl ⟨rfl, rfl⟩⟩
theorem own_base {w : World} {base : Nat} {e : TypeId} {size n : Nat} {v : Value} {xs : List Value} (h : w.ownsRow base e size v n xs) (k : Nat) (hk : v.ownBlock = some k) : base ≤ k := by
  rcases h.2 with ⟨rfl, _⟩ | ⟨g, cap, cur, rfl, hb, _⟩
  · simp [Value.ownBlock] at hk
  · have : g = k := by simpa [Value.ownBlock] using hk
    omega
theorem own_lt {w : World} {base : Nat} {e : TypeId} {size n : Nat} {v : Value} {xs : List Value} (h : w.ownsRow base e size v n xs) (k : Nat) (hk : v.ownBlock = some k) : k < w.heap.size := by
  rcases h.2 with ⟨rfl, _⟩ | ⟨g, cap, cur, rfl, hb, hh, _⟩
  · simp [Value.ownBlock] at hk
  · have : g = k := by simpa [Value.ownBlock] using hk
    subst this
    exact (Array.getElem?_eq_some_iff.1 hh).1
/-- The shape of whatever is owned. -/
theorem own_slice {w : World} {base n : Nat} {e : TypeId} {size : Nat} {v : Value} {xs : List Value} (h : w.ownsRow base e size v n xs) : ∃ A c, v = .slice A n c := by
  rcases h.2 with ⟨rfl, rfl⟩ | ⟨g, cap, cur, rfl, _⟩
  · exact ⟨none, 0, rfl⟩
  · exact ⟨_, cap, rfl⟩
theorem own_string {P : Program} {w : World} {base n : Nat} {e' src dst e : TypeId} {v : Value} {xs : List Int} (hs : P.underlying src = some (.slice e)) (he : P.underlying e = some (.int .u8)) (hd : P.underlying dst = some .string)
    (h : w.ownsRow base e' 1 v n (nums .u8 xs)) : (convert src dst v).run P w = .ok (.string (strOfNums xs)) w := by
  have hl : xs.length = n := by have := h.1; simp [nums] at this; exact this
  rcases h.2 with ⟨rfl, rfl⟩ | ⟨g, cap, cur, rfl, _⟩
  · obtain rfl : xs = [] := List.eq_nil_of_length_eq_zero hl
    exact run_convert_bytes_nil w src e hs he 0 0 dst hd
  · refine run_convert_bytes_arg w src e hs he g 0 n cap xs hl (fun i hi => ?_) dst hd
    have hc := h.cells (g := g) rfl i (.int .u8 (xs.getD i 0)) (by simp [nums, List.getElem?_eq_getElem (show i < xs.length by omega), List.getD_eq_getElem?_getD])
    have ha : (⟨g, 0, none⟩ : Addr).add i = ⟨g, 0 + i, none⟩ := by unfold Addr.add; split <;> simp_all
    rwa [ha] at hc
def bytesOf (s : ByteArray) : List Int := s.data.toList.map fun b => (b.toNat : Int)
/-- Where the first answers, the second answers the same. -/
def LeO {α : Type} (a b : Option α) : Prop := ∀ r, a = some r → b = some r
def Reps {α : Type} (R : α → List Value → Prop) (size : Nat) (ps : List α) (cs : List Value) : Prop :=
  cs.length = ps.length * size ∧ ∀ j p, ps[j]? = some p → R p ((cs.drop (j * size)).take size)
theorem Reps.none {α : Type} (R : α → List Value → Prop) (size : Nat) : Reps R size [] [] := ⟨by simp, fun j p h => by simp at h⟩
theorem Reps.snoc {α : Type} {R : α → List Value → Prop} {size : Nat} {ps : List α} {cs c : List Value} {p : α} (h : Reps R size ps cs) (hp : R p c) (hc : c.length = size) : Reps R size (ps ++ [p]) (cs ++ c) := by
  refine ⟨by rw [List.length_append, h.1, hc, List.length_append, List.length_singleton, Nat.add_mul, Nat.one_mul], fun j q hq => ?_⟩
  rcases Nat.lt_or_ge j ps.length with hj | hj
  · rw [List.getElem?_append_left hj] at hq
    have h1 : j * size + size ≤ cs.length := by rw [h.1, ← Nat.succ_mul]; exact Nat.mul_le_mul_right _ hj
    have h2 := h.2 j q hq
    rw [List.drop_append_of_le_length (by omega), List.take_append_of_le_length (by rw [List.length_drop]; omega)]
    exact h2
  · have hj' : j = ps.length := by
      have := (List.getElem?_eq_some_iff.1 hq).1
      rw [List.length_append, List.length_singleton] at this
      omega
    subst hj'
    have hq' : p = q := by simpa using hq
    subst hq'
    rw [← h.1, List.drop_left, ← hc, List.take_length]
    exact hp
theorem Reps.imp_ {α : Type} {R R' : α → List Value → Prop} {size : Nat} {ps : List α} {cs : List Value} (h : Reps R size ps cs) (hR : ∀ p c, R p c → R' p c) : Reps R' size ps cs := ⟨h.1, fun j p hj => hR _ _ (h.2 j p hj)⟩
def ReadsRow {α : Type} (R : α → List Value → Prop) (size : Nat) (w : World) (A : Option Addr) (n : Nat) (ps : List α) : Prop :=
  ps.length = n ∧ n ≤ 9223372036854775807 ∧ (0 < n → ∃ ad, A = some ad ∧ ∀ j p, ps[j]? = some p → ∃ c, c.length = size ∧ R p c ∧ ∀ i u, c[i]? = some u → w.cell? (ad.add (j * size + i)) = some u)
theorem ReadsRow.get_ {α : Type} {R : α → List Value → Prop} {size : Nat} {w : World} {A : Option Addr} {n : Nat} {ps : List α} (h : ReadsRow R size w A n ps) (d : α) (i : Int) (h0 : 0 ≤ i) (h1 : i < n) :
    ∃ ad c, A = some ad ∧ c.length = size ∧ R (ps.getD i.toNat d) c ∧ ∀ j u, c[j]? = some u → w.cell? (ad.add (i.toNat * size + j)) = some u := by
  obtain ⟨ad, e, hc⟩ := h.2.2 (by omega)
  have hl : i.toNat < ps.length := by have := h.1; omega
  obtain ⟨c, hs, hr, hcell⟩ := hc i.toNat _ (List.getElem?_eq_getElem hl)
  refine ⟨ad, c, e, hs, ?_, hcell⟩
  rw [List.getD_eq_getElem?_getD, List.getElem?_eq_getElem hl]
  exact hr
theorem ReadsRow.imp_ {α : Type} {R R' : α → List Value → Prop} {size : Nat} {w w1 : World} {A : Option Addr} {n : Nat} {ps : List α} (h : ReadsRow R size w A n ps) (hb : Below w.heap.size w w1) (hR : ∀ p c, R p c → R' p c) : ReadsRow R' size w1 A n ps :=
  ⟨h.1, h.2.1, fun hn => by
    obtain ⟨ad, e, hc⟩ := h.2.2 hn
    refine ⟨ad, e, fun j p hj => ?_⟩
    obtain ⟨c, hs, hr, hcell⟩ := hc j p hj
    exact ⟨c, hs, hR _ _ hr, fun i u hu => pw_cell_below hb (hcell i u hu)⟩⟩
theorem own_reads_row {α : Type} {R : α → List Value → Prop} {w : World} {base n size : Nat} {e : TypeId} {v : Value} {ps : List α} {cs : List Value} (h : w.ownsRow base e size v n cs) (hR : Reps R size ps cs) (hn : ps.length = n) :
    ∃ A c, v = .slice A n c ∧ ReadsRow R size w A n ps := by
  rcases Nat.eq_zero_or_pos n with h0 | h0
  · rcases h.2 with ⟨rfl, rfl⟩ | ⟨g, cap, cur, rfl, _⟩
    · exact ⟨none, 0, rfl, hn, by omega, fun hp => absurd hp (by omega)⟩
    · exact ⟨_, cap, rfl, hn, by omega, fun hp => absurd hp (by omega)⟩
  · obtain ⟨g, cap, rfl, _, _⟩ := h.form h0
    have hm : n ≤ 9223372036854775807 := by
      rcases h.2 with ⟨_, h1⟩ | ⟨g', cap', cur, he, _, _, h1, h2, _⟩
      · omega
      · simp only [maxLen] at h2
        omega
    refine ⟨_, cap, rfl, hn, hm, fun _ => ⟨_, rfl, fun j p hj => ⟨(cs.drop (j * size)).take size, ?_, hR.2 j p hj, fun i u hu => ?_⟩⟩⟩
    · have hjl := (List.getElem?_eq_some_iff.1 hj).1
      have h1 : j * size + size ≤ cs.length := by rw [hR.1, ← Nat.succ_mul]; exact Nat.mul_le_mul_right _ hjl
      rw [List.length_take, List.length_drop]
      omega
    · refine h.cells (g := g) rfl _ u ?_
      rw [List.getElem?_take] at hu
      split at hu
      · rw [List.getElem?_drop] at hu
        exact hu
      · cases hu
/-- A field's address as_ the walk spells it. -/
theorem add_field (ad : Addr) (m j : Nat) (hj : 0 < j) : ad.add (m + j) = ⟨(ad.add m).block, (ad.add m).off + j, none⟩ := by
  unfold Addr.add
  by_cases hm : m = 0
  · subst hm
    simp [Nat.ne_of_gt hj]
  · simp [hm, Nat.add_assoc]
section
variable {P : Program} {ops : Array Oper} {rest : List Oper} {o : Oper} {a : Act} {Q : Exit → Act → World → Prop}
/-- append(v, x), x of several cells; behind 'at_builtin'; the goal's world is 'W.alloc' of the variadic's box. -/
theorem print_append_cells {w0 W : World} (base : Nat) (hgd : o.guard = none) (s x : Operand) (t e : TypeId) (z : Value) (size bytes : Nat)
    (ho : o.op = .call { callee := .builtin .append, args := #[s, x], argTypes := #[t, t] })
    (ht : P.underlying t = some (.slice e)) (hinfo : (P.info? e).map (fun i => (i.zero, i.size, i.bytes)) = some (some z, size, bytes)) (hz : z.cells.size = size) (hs0 : 0 < size) (hb0 : 0 < bytes)
    (v : Value) (n : Nat) (xs ys : List Value) (hs : a.eval s = v) (hx : a.eval x = .slice (some ⟨W.heap.size, 0, none⟩) 1 1) (hys : ys.length = size) (h1 : ∀ u ∈ ys, u.oneCell' = true)
    (HO : W.ownsRow base e size v n xs) (HB : Below base w0 W) (hbase : base ≤ W.heap.size) (hl : (n + 1) * bytes ≤ 140737488355328)
    (h : ∀ v1 w1, w1.ownsRow base e size v1 (n + 1) (xs ++ ys) → Below base w0 w1 → W.grownBy w1 v.ownBlock → (v1.ownBlock = v.ownBlock ∨ ∃ b, v1.ownBlock = some b ∧ W.heap.size ≤ b) → wpList P ops Q rest (a.put o.dst v1) w1) :
    wpList P ops Q (o :: rest) a (W.alloc (.cells ys.toArray e)) := by
  obtain ⟨i0, hi, hzz⟩ := Option.map_eq_some_iff.1 hinfo
  simp only [Prod.mk.injEq] at hzz
  obtain ⟨hz0, hz1, hz2⟩ := hzz
  have hlen : n + 1 ≤ 140737488355328 := Nat.le_trans (Nat.le_mul_of_pos_right _ hb0) hl
  refine wpList_append_own_at (W.alloc (.cells ys.toArray e)) hgd s x t ho base e i0 z size bytes ht hi hz0 hz1 hz2 hz hs0 v n xs hs (HO.alloc _) ⟨W.heap.size, 0, none⟩ 1 1 ys hx (by rw [hys]; simp)
    (by simpa using World.news_of_block (cs := ys.toArray) (t := e) (fr := (0, 0)) (heap_alloc_new W (.cells ys.toArray e))) h1 (by simp only [maxLen]; omega) hl (by simp; omega) ?_
  intro v1 w1 hown hg _ hat
  refine h v1 w1 hown ((HB.alloc hbase _).grown hg (by simp; omega) (own_base HO)) (World.grownBy.trans (World.grownBy_alloc W _ _) hg) ?_
  rcases hat with hat | hat
  · exact .inl hat
  · exact .inr ⟨_, hat, by simp⟩
end
theorem own_ne {w : World} {base : Nat} {e t : TypeId} {size n g : Nat} {v : Value} {xs : List Value} {cs : Array Value} (h : w.ownsRow base e size v n xs) (hg : w.heap[g]? = some (.cells cs t (0, 0))) (hne : e ≠ t) : some g ≠ v.ownBlock := by
  rcases h.2 with ⟨rfl, _⟩ | ⟨g', cap, cur, rfl, _, hh, _⟩
  · simp [Value.ownBlock]
  · intro he
    have : g = g' := by simpa [Value.ownBlock] using he
    subst this
    rw [hg] at hh
    injection hh with hh
    injection hh with _ ht
    exact hne ht.symm
theorem blk_set {w : World} {g : Nat} {t : TypeId} {cs : Array Value} (h : w.heap[g]? = some (.cells cs t (0, 0))) (i : Nat) (u : Value) : (w.setCell ⟨g, i, none⟩ u).heap[g]? = some (.cells (cs.setIfInBounds i u) t (0, 0)) := by
  simp [World.setCell, Array.getElem?_modify, h]
theorem blk_far {w : World} {g : Nat} {t : TypeId} {cs : Array Value} (h : w.heap[g]? = some (.cells cs t (0, 0))) {p : Addr} (hp : g ≠ p.block) (u : Value) : (w.setCell p u).heap[g]? = some (.cells cs t (0, 0)) := (Below.heap_setCell w p u g hp).trans h
theorem blk_lt {w : World} {g : Nat} {o : Obj} (h : w.heap[g]? = some o) : g < w.heap.size := (Array.getElem?_eq_some_iff.1 h).1
theorem blk_cell {w : World} {g : Nat} {t : TypeId} {cs : Array Value} (h : w.heap[g]? = some (.cells cs t (0, 0))) (i : Nat) : w.cell? ⟨g, i, none⟩ = cs[i]? := cell_of_row w g i cs t (0, 0) h
theorem blk_frozen {w : World} {g : Nat} {t : TypeId} {cs : Array Value} (h : w.heap[g]? = some (.cells cs t (0, 0))) (i : Nat) : w.frozen? ⟨g, i, none⟩ = false := by simp [World.frozen?, h]
theorem blk_grown {w w1 : World} {g : Nat} {o : Obj} {row : Option Nat} (h : w.heap[g]? = some o) (hg : w.grownBy w1 row) (hne : some g ≠ row) : w1.heap[g]? = some o := (hg.block g (blk_lt h) hne).trans h
def KeepBut (w w' : World) (g : Nat) (row : Option Nat) : Prop := w.heap.size ≤ w'.heap.size ∧ ∀ i, i < w.heap.size → i ≠ g → some i ≠ row → w'.heap[i]? = w.heap[i]?
theorem KeepBut.trans {w w1 w2 : World} {g : Nat} {row row1 : Option Nat} (h : KeepBut w w1 g row) (k : KeepBut w1 w2 g row1) (hr : row1 = row ∨ ∃ b, row1 = some b ∧ w.heap.size ≤ b) : KeepBut w w2 g row :=
  ⟨Nat.le_trans h.1 k.1, fun i hi hg hn => by
    refine (k.2 i (Nat.lt_of_lt_of_le hi h.1) hg ?_).trans (h.2 i hi hg hn)
    rcases hr with rfl | ⟨b, rfl, hb⟩
    · exact hn
    · intro e
      injection e with e
      omega⟩
def Ev {α : Type} (g : Nat → Option α) (r : α) : Prop := ∃ K, ∀ k, K ≤ k → g k = some r
theorem Ev.rounds {α : Type} {g : Nat → Option α} {r : α} (h : Ev g r) : ∃ k, g k = some r := by
  obtain ⟨K, h⟩ := h
  exact ⟨K, h K (Nat.le_refl _)⟩
theorem Ev.bind {α β : Type} {g : Nat → Option α} {f : Nat → α → Option β} {a : α} {r : β} (h : Ev g a) (k : Ev (fun n => f n a) r) : Ev (fun n => (g n).bind (f n)) r := by
  obtain ⟨K, h⟩ := h
  obtain ⟨K', k⟩ := k
  refine ⟨max K K', fun n hn => ?_⟩
  have h1 := h n (by omega)
  have h2 := k n (by omega)
  simp only [h1, Option.bind_some]
  exact h2
/-- One round of a loop. -/
theorem Ev.step {α : Type} {g f : Nat → Option α} {r : α} (h : ∀ k, g (k + 1) = f k) (k : Ev f r) : Ev g r := by
  obtain ⟨K, k⟩ := k
  refine ⟨K + 1, fun n hn => ?_⟩
  obtain ⟨m, rfl⟩ : ∃ m, n = m + 1 := ⟨n - 1, by omega⟩
  rw [h]
  exact k m (by omega)
theorem Ev.congr {α : Type} {g f : Nat → Option α} {r : α} (h : ∀ k, g k = f k) (k : Ev f r) : Ev g r := by
  obtain ⟨K, k⟩ := k
  exact ⟨K, fun n hn => (h n).trans (k n hn)⟩
section
variable {P : Program} {ops : Array Oper} {o : Oper} {a : Act} {Q : Exit → Act → World → Prop} {K : Act → World → Prop}
theorem step_append_cells {w0 W : World} (base : Nat) (hw : Region.wanted o (yielded ops a.tmps) = true) (s x : Operand) (t e : TypeId) (z : Value) (size bytes : Nat)
    (ho : o.op = .call { callee := .builtin .append, args := #[s, x], argTypes := #[t, t] })
    (ht : P.underlying t = some (.slice e)) (hinfo : (P.info? e).map (fun i => (i.zero, i.size, i.bytes)) = some (some z, size, bytes)) (hz : z.cells.size = size) (hs0 : 0 < size) (hb0 : 0 < bytes)
    (v : Value) (n : Nat) (xs ys : List Value) (hs : a.eval s = v) (hx : a.eval x = .slice (some ⟨W.heap.size, 0, none⟩) 1 1) (hys : ys.length = size) (h1 : ∀ u ∈ ys, u.oneCell' = true)
    (HO : W.ownsRow base e size v n xs) (HB : Below base w0 W) (hbase : base ≤ W.heap.size) (hl : (n + 1) * bytes ≤ 140737488355328)
    (h : ∀ v1 w1, w1.ownsRow base e size v1 (n + 1) (xs ++ ys) → Below base w0 w1 → W.grownBy w1 v.ownBlock → (v1.ownBlock = v.ownBlock ∨ ∃ b, v1.ownBlock = some b ∧ W.heap.size ≤ b) → K (a.put o.dst v1) w1) :
    if Region.wanted o (yielded ops a.tmps) = true then Oper.wp P o a (W.alloc (.cells ys.toArray e)) K Q else K (a.put o.dst undef) (W.alloc (.cells ys.toArray e)) := by
  obtain ⟨i0, hi, hzz⟩ := Option.map_eq_some_iff.1 hinfo
  simp only [Prod.mk.injEq] at hzz
  obtain ⟨hz0, hz1, hz2⟩ := hzz
  have hlen : n + 1 ≤ 140737488355328 := Nat.le_trans (Nat.le_mul_of_pos_right _ hb0) hl
  rw [if_pos hw]
  obtain ⟨v1, w1, hr, hown, hg, _, hat⟩ := run_append_own_at (P := P) (W.alloc (.cells ys.toArray e)) base t o.type e i0 z size bytes ht hi hz0 hz1 hz2 hz hs0 v n xs (HO.alloc _) ⟨W.heap.size, 0, none⟩ 1 1 ys (by rw [hys]; simp)
    (by simpa using World.news_of_block (cs := ys.toArray) (t := e) (fr := (0, 0)) (heap_alloc_new W (.cells ys.toArray e))) h1 (by simp only [maxLen]; omega) hl (by simp; omega)
  unfold Oper.wp execOp
  simp only [ho, resolve, invoke, builtin, Sem.run_bind, Sem.run_pure, Result.andThen_ok, List.map_toArray, List.map_cons, List.map_nil, hs, hx, hr]
  refine h v1 w1 hown ((HB.alloc hbase _).grown hg (by simp; omega) (own_base HO)) (World.grownBy.trans (World.grownBy_alloc W _ _) hg) ?_
  rcases hat with hat | hat
  · exact .inl hat
  · exact .inr ⟨_, hat, by simp⟩
end
theorem own_weaken {w : World} {base base' : Nat} {e : TypeId} {size n : Nat} {v : Value} {xs : List Value} (h : w.ownsRow base e size v n xs) (hb : base' ≤ base) : w.ownsRow base' e size v n xs := by
  obtain ⟨h1, h2⟩ := h
  refine ⟨h1, ?_⟩
  rcases h2 with h2 | ⟨g, cap, cur, rfl, hg, r⟩
  · exact .inl h2
  · exact .inr ⟨g, cap, cur, rfl, Nat.le_trans hb hg, r⟩
section
variable {α : Type} {enc : α → Value} {d : α}
def encs (enc : α → Value) (xs : List α) : List Value := xs.map enc
def rdOf (d : α) (xs : List α) (i : Int) : α := xs.getD i.toNat d
theorem encs_length (xs : List α) : (encs enc xs).length = xs.length := by simp [encs]
def ReadsOf (enc : α → Value) (d : α) (w : World) (A : Option Addr) (n : Nat) (xs : List α) : Prop :=
  xs.length = n ∧ n ≤ 9223372036854775807 ∧ (0 < n → ∃ ad, A = some ad ∧ ∀ j, j < n → w.cell? (ad.add j) = some (enc (xs.getD j d)))
theorem ReadsOf.at_ {w : World} {A : Option Addr} {n : Nat} {xs : List α} (h : ReadsOf enc d w A n xs) (i : Int) (h0 : 0 ≤ i) (h1 : i < n) : ∃ ad, A = some ad ∧ w.cell? (ad.add i.toNat) = some (enc (rdOf d xs i)) := by
  obtain ⟨ad, e, hc⟩ := h.2.2 (by omega)
  exact ⟨ad, e, hc _ (by omega)⟩
end
def NeRow (v v' : Value) : Prop := ∀ k, v.ownBlock = some k → v'.ownBlock ≠ some k
/-- A row that was made since W (by a call from W on: its base is W's size) against a row of W's. -/
theorem ne_below {W w1 : World} {v1 v' : Value} {base n size n1 size1 : Nat} {e e1 : TypeId} {xs xs1 : List Value} (h1 : w1.ownsRow W.heap.size e1 size1 v1 n1 xs1) (ho : W.ownsRow base e size v' n xs) : NeRow v1 v' := by
  intro k hk hk'
  have h2 := own_base h1 k hk
  have h3 := own_lt ho k hk'
  omega
theorem blk_drewN {w : World} {g : Nat} {o : Obj} (h : w.heap[g]? = some o) (n : Nat) : (w.drewN n).heap[g]? = some o := h
theorem blk_below {w w1 : World} {g : Nat} {o : Obj} (h : w.heap[g]? = some o) (hb : Below w.heap.size w w1) : w1.heap[g]? = some o := (hb.block g (blk_lt h)).trans h
theorem blk_new (w : World) (o : Obj) : (w.alloc o).heap[w.heap.size]? = some o := heap_alloc_new w o
section
variable {P : Program}
theorem results_ct {fn : Func} {p u : Tmp} {ty : TypeId} (h : fn.results = #[.cell p ty, .tmp u]) (tmps : Array Value) (w : World) (g : Nat) (t : TypeId) (cs : Array Value) (fr : Nat × Nat) (d : TypeDesc)
    (hp : tmps.getD p undef = .pointer (some ⟨g, 0, none⟩)) (hg : w.heap[g]? = some (.cells cs t fr))
    (hu : P.underlying ty = some d) (hd : (match d with | .struct _ | .array _ _ => true | _ => false) = true) (hi : (P.info? ty).map (·.size) = some cs.size) :
    (results fn tmps).run P w = .ok (.tuple #[.agg cs, tmps.getD u undef]) w := by
  have hp' : tmps[p]?.getD undef = .pointer (some ⟨g, 0, none⟩) := by simpa using hp
  simp [results, h, hp', asAddr, run_loadVar_row w g t ty cs fr d hg hu hd hi]
end
theorem own_le {w : World} {base n m c size : Nat} {e : TypeId} {A : Option Addr} {xs : List Value} (h : w.ownsRow base e size (.slice A m c) n xs) : m ≤ c := by
  rcases h.2 with ⟨he, _⟩ | ⟨g, cap, cur, he, _, _, hnc, _⟩
  · injection he with _ h2 h3
    omega
  · injection he with _ h2 h3
    omega
def OwnRow {α : Type} (R : α → List Value → Prop) (e : TypeId) (size : Nat) (w : World) (base : Nat) (v : Value) (ps : List α) : Prop :=
  ∃ inner, w.ownsRow base e size v ps.length inner ∧ Reps R size ps inner
section
variable {α : Type} {R R' : α → List Value → Prop} {e : TypeId} {size : Nat} {w w1 : World} {base : Nat} {v : Value} {ps : List α}
theorem OwnRow.none_ (R : α → List Value → Prop) (e : TypeId) (size : Nat) (w : World) (base : Nat) : OwnRow R e size w base (.slice none 0 0) [] := ⟨[], own_nil _ _ _ _, Reps.none _ _⟩
theorem OwnRow.imp_ (h : OwnRow R e size w base v ps) (hR : ∀ p c, R p c → R' p c) : OwnRow R' e size w base v ps := by
  obtain ⟨inner, ho, hr⟩ := h
  exact ⟨inner, ho, hr.imp_ hR⟩
theorem OwnRow.reads (h : OwnRow R e size w base v ps) : ∃ A c, v = .slice A ps.length c ∧ ps.length ≤ c ∧ ReadsRow R size w A ps.length ps := by
  obtain ⟨inner, ho, hr⟩ := h
  obtain ⟨A, c, rfl, hrow⟩ := own_reads_row ho hr rfl
  exact ⟨A, c, rfl, own_le ho, hrow⟩
theorem OwnRow.ne_block (h : OwnRow R e size w base v ps) {g : Nat} {t : TypeId} {cells : Array Value} (hb : w.heap[g]? = some (.cells cells t (0, 0))) (ht : e ≠ t) : some g ≠ v.ownBlock := by
  obtain ⟨inner, ho, hr⟩ := h
  exact own_ne ho hb ht
end
/-- ok: which blocks the rows inside may be ('not the row that is being written'). -/
structure Kd (α : Type) where
  sz : Nat
  E : List Nat
  K : World → α → List Value → Prop
  M : World → Nat → (Nat → Prop) → α → List Value → Prop
  K_len : ∀ {w x cs}, K w x cs → cs.length = sz
  K_one : ∀ {w x cs}, K w x cs → ∀ u ∈ cs, u.oneCell' = true
  K_below : ∀ {w w1 : World} {x cs}, Below w.heap.size w w1 → K w x cs → K w1 x cs
  K_of_M : ∀ {w base ok x cs}, M w base ok x cs → K w x cs
  M_mono : ∀ {w base ok ok' x cs}, (∀ k, ok k → ok' k) → M w base ok x cs → M w base ok' x cs
  M_bound : ∀ {w : World} {base ok x cs}, M w base ok x cs → M w base (fun k => ok k ∧ base ≤ k ∧ k < w.heap.size ∧ ∃ q, q ∈ E ∧ ∃ cells, w.heap[k]? = some (.cells cells q (0, 0))) x cs
  M_move : ∀ {w w1 : World} {base ok x cs}, (∀ k, ok k → w1.heap[k]? = w.heap[k]?) → M w base ok x cs → M w1 base ok x cs
  M_lower : ∀ {w base base' ok x cs}, base' ≤ base → M w base ok x cs → M w base' ok x cs
theorem own_move {w w1 : World} {base : Nat} {e : TypeId} {size n : Nat} {v : Value} {xs : List Value} (h : w.ownsRow base e size v n xs) (hm : ∀ k, v.ownBlock = some k → w1.heap[k]? = w.heap[k]?) : w1.ownsRow base e size v n xs := by
  obtain ⟨h1, h2⟩ := h
  refine ⟨h1, ?_⟩
  rcases h2 with h2 | ⟨g, cap, cur, rfl, hg, hh, r⟩
  · exact .inl h2
  · exact .inr ⟨g, cap, cur, rfl, hg, (hm g (by simp [Value.ownBlock])).trans hh, r⟩
theorem own_typed {w : World} {base : Nat} {e : TypeId} {size n : Nat} {v : Value} {xs : List Value} (h : w.ownsRow base e size v n xs) (k : Nat) (hk : v.ownBlock = some k) : ∃ cells, w.heap[k]? = some (.cells cells e (0, 0)) := by
  rcases h.2 with ⟨rfl, _⟩ | ⟨g, cap, cur, rfl, hg, hh, r⟩
  · simp [Value.ownBlock] at hk
  · have : g = k := by simpa [Value.ownBlock] using hk
    subst this
    exact ⟨cur, hh⟩
namespace Kd
/-- A row of elements that is read. -/
def C {α : Type} (d : Kd α) (w : World) (A : Option Addr) (n : Nat) (xs : List α) : Prop := ReadsRow (d.K w) d.sz w A n xs
/-- A row of elements (type e) of the call's own; the elements' rows are not this one. -/
def R {α : Type} (d : Kd α) (e : Nat) (w : World) (base : Nat) (ok : Nat → Prop) (v : Value) (xs : List α) : Prop :=
  (∀ k, v.ownBlock = some k → ok k) ∧ OwnRow (d.M w base (fun k => ok k ∧ some k ≠ v.ownBlock)) e d.sz w base v xs
section
variable {α : Type} {d : Kd α} {e : Nat} {w w1 : World} {base : Nat} {ok ok' : Nat → Prop} {v : Value} {xs : List α}
theorem C_below {A : Option Addr} {n : Nat} (h : d.C w A n xs) (hb : Below w.heap.size w w1) : d.C w1 A n xs := ReadsRow.imp_ h hb (fun _ _ hp => d.K_below hb hp)
theorem R_nil (d : Kd α) (e : Nat) (w : World) (base : Nat) (ok : Nat → Prop) : d.R e w base ok (.slice none 0 0) [] := ⟨fun k hk => by simp [Value.ownBlock] at hk, OwnRow.none_ _ _ _ _ _⟩
theorem R_mono (h : d.R e w base ok v xs) (hok : ∀ k, ok k → ok' k) : d.R e w base ok' v xs := ⟨fun k hk => hok k (h.1 k hk), h.2.imp_ (fun _ _ hp => d.M_mono (fun k hk => ⟨hok k hk.1, hk.2⟩) hp)⟩
theorem R_bound (h : d.R e w base ok v xs) : d.R e w base (fun k => ok k ∧ base ≤ k ∧ k < w.heap.size ∧ ∃ q, q ∈ e :: d.E ∧ ∃ cells, w.heap[k]? = some (.cells cells q (0, 0))) v xs := by
  obtain ⟨h0, inner, ho, hr⟩ := h
  refine ⟨fun k hk => ?_, inner, ho, hr.imp_ (fun _ _ hp => d.M_mono (fun k hk => ?_) (d.M_bound hp))⟩
  · obtain ⟨cells, hc⟩ := own_typed ho k hk
    exact ⟨h0 k hk, own_base ho k hk, own_lt ho k hk, e, List.mem_cons_self, cells, hc⟩
  · obtain ⟨⟨h1, h2⟩, h3, h4, q, hq, hc⟩ := hk
    exact ⟨⟨h1, h3, h4, q, List.mem_cons_of_mem _ hq, hc⟩, h2⟩
theorem R_move (h : d.R e w base ok v xs) (hm : ∀ k, ok k → w1.heap[k]? = w.heap[k]?) : d.R e w1 base ok v xs := by
  obtain ⟨h0, inner, ho, hr⟩ := h
  exact ⟨h0, inner, own_move ho (fun k hk => hm k (h0 k hk)), hr.imp_ (fun _ _ hp => d.M_move (fun k hk => hm k hk.1) hp)⟩
theorem R_lower {base' : Nat} (h : d.R e w base ok v xs) (hb : base' ≤ base) : d.R e w base' ok v xs := by
  obtain ⟨h0, inner, ho, hr⟩ := h
  exact ⟨h0, inner, own_weaken ho hb, hr.imp_ (fun _ _ hp => d.M_lower hb hp)⟩
/-- Any mover: what is ok, and a block of w's, stays. -/
theorem R_step (h : d.R e w base ok v xs) (hm : ∀ k, ok k → k < w.heap.size → w1.heap[k]? = w.heap[k]?) : d.R e w1 base ok v xs :=
  R_mono (R_move (R_bound h) (fun k hk => hm k hk.1 hk.2.2.1)) (fun _ hk => hk.1)
theorem M_step {x : α} {cs : List Value} (h : d.M w base ok x cs) (hm : ∀ k, ok k → k < w.heap.size → w1.heap[k]? = w.heap[k]?) : d.M w1 base ok x cs :=
  d.M_mono (fun _ hk => hk.1) (d.M_move (fun k hk => hm k hk.1 hk.2.2.1) (d.M_bound h))
theorem R_below (h : d.R e w base ok v xs) (hb : Below w.heap.size w w1) : d.R e w1 base ok v xs := R_step h (fun k _ hk => hb.block k hk)
theorem M_below {x : α} {cs : List Value} (h : d.M w base ok x cs) (hb : Below w.heap.size w w1) : d.M w1 base ok x cs := M_step h (fun k _ hk => hb.block k hk)
/-- A store into another block. -/
theorem R_far (h : d.R e w base ok v xs) {p : Addr} (hok : ∀ k, ok k → k ≠ p.block) (u : Value) : d.R e (w.setCell p u) base ok v xs := R_step h (fun k ho _ => Below.heap_setCell w p u k (hok k ho))
/-- By types alone: the rows inside are none of a block of type t. -/
theorem R_types (h : d.R e w base ok v xs) {g t : Nat} {cells : Array Value} (hb : w.heap[g]? = some (.cells cells t (0, 0))) (ht : ∀ q, q ∈ e :: d.E → q ≠ t) : d.R e w base (fun k => ok k ∧ k ≠ g) v xs :=
  R_mono (R_bound h) (fun k hk => ⟨hk.1, by
    obtain ⟨_, _, _, q, hq, cells', hc⟩ := hk
    rintro rfl
    rw [hc] at hb
    injection hb with hb
    injection hb with _ hb
    exact ht q hq hb⟩)
theorem R_set (h : d.R e w base ok v xs) {g t : Nat} {cells : Array Value} (hb : w.heap[g]? = some (.cells cells t (0, 0))) (ht : ∀ q, q ∈ e :: d.E → q ≠ t) (j : Nat) (u : Value) : d.R e (w.setCell ⟨g, j, none⟩ u) base ok v xs :=
  R_mono (R_far (p := ⟨g, j, none⟩) (R_types h hb ht) (fun _ hk => hk.2) u) (fun _ hk => hk.1)
theorem R_reads (h : d.R e w base ok v xs) : ∃ A c, v = .slice A xs.length c ∧ xs.length ≤ c ∧ d.C w A xs.length xs := by
  obtain ⟨A, c, he, hl, hr⟩ := OwnRow.reads h.2
  exact ⟨A, c, he, hl, hr.imp_ (Below.refl _ _) (fun _ _ hp => d.K_of_M hp)⟩
theorem R_slice (h : d.R e w base ok v xs) : ∃ A c, v = .slice A xs.length c := by
  obtain ⟨A, c, he, _⟩ := R_reads h
  exact ⟨A, c, he⟩
theorem R_own (h : d.R e w base ok v xs) : ∃ inner, w.ownsRow base e d.sz v xs.length inner := by
  obtain ⟨_, inner, ho, _⟩ := h
  exact ⟨inner, ho⟩
theorem R_ne (h : d.R e w base ok v xs) {g t : Nat} {cells : Array Value} (hb : w.heap[g]? = some (.cells cells t (0, 0))) (ht : e ≠ t) : some g ≠ v.ownBlock := OwnRow.ne_block h.2 hb ht
end
def scalar {α : Type} (enc : α → Value) (h1 : ∀ x, (enc x).oneCell' = true) : Kd α where
  sz := 1
  E := []
  K := fun _ x cs => cs = [enc x]
  M := fun _ _ _ x cs => cs = [enc x]
  K_len := fun h => by rw [h]; rfl
  K_one := fun h u hu => by
    rw [h] at hu
    rw [List.mem_singleton.1 hu]
    exact h1 _
  K_below := fun _ h => h
  K_of_M := fun h => h
  M_mono := fun _ h => h
  M_bound := fun h => h
  M_move := fun _ h => h
  M_lower := fun _ h => h
def int (k : IntKind) : Kd Int := scalar (Value.int k) (fun _ => rfl)
def bool : Kd Bool := scalar Value.bool (fun _ => rfl)
def string : Kd ByteArray := scalar Value.string (fun _ => rfl)
def slice {α : Type} (e : Nat) (d : Kd α) : Kd (List α) where
  sz := 1
  E := e :: d.E
  K := fun w xs cs => ∃ A c, cs = [.slice A xs.length c] ∧ xs.length ≤ c ∧ d.C w A xs.length xs
  M := fun w base ok xs cs => ∃ v, cs = [v] ∧ d.R e w base ok v xs
  K_len := by
    rintro w x cs ⟨A, c, rfl, _⟩
    rfl
  K_one := by
    rintro w x cs ⟨A, c, rfl, _⟩ u hu
    rw [List.mem_singleton.1 hu]
    rfl
  K_below := by
    rintro w w1 x cs hb ⟨A, c, rfl, hl, hr⟩
    exact ⟨A, c, rfl, hl, C_below hr hb⟩
  K_of_M := by
    rintro w base ok x cs ⟨v, rfl, h⟩
    obtain ⟨A, c, rfl, hl, hr⟩ := R_reads h
    exact ⟨A, c, rfl, hl, hr⟩
  M_mono := by
    rintro w base ok ok' x cs hok ⟨v, rfl, h⟩
    exact ⟨v, rfl, R_mono h hok⟩
  M_bound := by
    rintro w base ok x cs ⟨v, rfl, h⟩
    exact ⟨v, rfl, R_bound h⟩
  M_move := by
    rintro w w1 base ok x cs hm ⟨v, rfl, h⟩
    exact ⟨v, rfl, R_move h hm⟩
  M_lower := by
    rintro w base base' ok x cs hb ⟨v, rfl, h⟩
    exact ⟨v, rfl, R_lower h hb⟩
/-- Two in line. -/
def pair {α β : Type} (a : Kd α) (b : Kd β) : Kd (α × β) where
  sz := a.sz + b.sz
  E := a.E ++ b.E
  K := fun w x cs => ∃ c0 c1, cs = c0 ++ c1 ∧ a.K w x.1 c0 ∧ b.K w x.2 c1
  M := fun w base ok x cs => ∃ c0 c1, cs = c0 ++ c1 ∧ a.M w base ok x.1 c0 ∧ b.M w base ok x.2 c1
  K_len := by
    rintro w x cs ⟨c0, c1, rfl, h0, h1⟩
    rw [List.length_append, a.K_len h0, b.K_len h1]
  K_one := by
    rintro w x cs ⟨c0, c1, rfl, h0, h1⟩ u hu
    rcases List.mem_append.1 hu with hu | hu
    · exact a.K_one h0 u hu
    · exact b.K_one h1 u hu
  K_below := by
    rintro w w1 x cs hb ⟨c0, c1, rfl, h0, h1⟩
    exact ⟨c0, c1, rfl, a.K_below hb h0, b.K_below hb h1⟩
  K_of_M := by
    rintro w base ok x cs ⟨c0, c1, rfl, h0, h1⟩
    exact ⟨c0, c1, rfl, a.K_of_M h0, b.K_of_M h1⟩
  M_mono := by
    rintro w base ok ok' x cs hok ⟨c0, c1, rfl, h0, h1⟩
    exact ⟨c0, c1, rfl, a.M_mono hok h0, b.M_mono hok h1⟩
  M_bound := by
    rintro w base ok x cs ⟨c0, c1, rfl, h0, h1⟩
    refine ⟨c0, c1, rfl, a.M_mono ?_ (a.M_bound h0), b.M_mono ?_ (b.M_bound h1)⟩
    · rintro k ⟨h2, h3, h4, q, hq, hc⟩
      exact ⟨h2, h3, h4, q, List.mem_append_left _ hq, hc⟩
    · rintro k ⟨h2, h3, h4, q, hq, hc⟩
      exact ⟨h2, h3, h4, q, List.mem_append_right _ hq, hc⟩
  M_move := by
    rintro w w1 base ok x cs hm ⟨c0, c1, rfl, h0, h1⟩
    exact ⟨c0, c1, rfl, a.M_move hm h0, b.M_move hm h1⟩
  M_lower := by
    rintro w base base' ok x cs hb ⟨c0, c1, rfl, h0, h1⟩
    exact ⟨c0, c1, rfl, a.M_lower hb h0, b.M_lower hb h1⟩
/-- A Lean structure by its fields. -/
def iso {α β : Type} (d : Kd α) (f : β → α) : Kd β where
  sz := d.sz
  E := d.E
  K := fun w x cs => d.K w (f x) cs
  M := fun w base ok x cs => d.M w base ok (f x) cs
  K_len := d.K_len
  K_one := d.K_one
  K_below := d.K_below
  K_of_M := d.K_of_M
  M_mono := d.M_mono
  M_bound := d.M_bound
  M_move := d.M_move
  M_lower := d.M_lower
/-- Nothing is of this kind: where the nesting's depth is used up. -/
def bot {α : Type} (sz : Nat) (E : List Nat) : Kd α where
  sz := sz
  E := E
  K := fun _ _ _ => False
  M := fun _ _ _ _ _ => False
  K_len := fun h => h.elim
  K_one := fun h => h.elim
  K_below := fun _ h => h
  K_of_M := fun h => h
  M_mono := fun _ h => h
  M_bound := fun h => h
  M_move := fun _ h => h
  M_lower := fun _ h => h
/-- A type nested in itself: nested at most n deep .. -/
def upto {α : Type} (F : Kd α → Kd α) (sz : Nat) (E : List Nat) : Nat → Kd α
  | 0 => bot sz E
  | n + 1 => F (upto F sz E n)
/-- .. for some n. -/
def fix {α : Type} (F : Kd α → Kd α) (sz : Nat) (E : List Nat) (hs : ∀ n, (upto F sz E n).sz = sz) (hE : ∀ n q, q ∈ (upto F sz E n).E → q ∈ E) : Kd α where
  sz := sz
  E := E
  K := fun w x cs => ∃ n, (upto F sz E n).K w x cs
  M := fun w base ok x cs => ∃ n, (upto F sz E n).M w base ok x cs
  K_len := by
    rintro w x cs ⟨n, h⟩
    rw [(upto F sz E n).K_len h, hs n]
  K_one := by
    rintro w x cs ⟨n, h⟩
    exact (upto F sz E n).K_one h
  K_below := by
    rintro w w1 x cs hb ⟨n, h⟩
    exact ⟨n, (upto F sz E n).K_below hb h⟩
  K_of_M := by
    rintro w base ok x cs ⟨n, h⟩
    exact ⟨n, (upto F sz E n).K_of_M h⟩
  M_mono := by
    rintro w base ok ok' x cs hok ⟨n, h⟩
    exact ⟨n, (upto F sz E n).M_mono hok h⟩
  M_bound := by
    rintro w base ok x cs ⟨n, h⟩
    refine ⟨n, (upto F sz E n).M_mono ?_ ((upto F sz E n).M_bound h)⟩
    rintro k ⟨h2, h3, h4, q, hq, hc⟩
    exact ⟨h2, h3, h4, q, hE n q hq, hc⟩
  M_move := by
    rintro w w1 base ok x cs hm ⟨n, h⟩
    exact ⟨n, (upto F sz E n).M_move hm h⟩
  M_lower := by
    rintro w base base' ok x cs hb ⟨n, h⟩
    exact ⟨n, (upto F sz E n).M_lower hb h⟩
theorem C_get {α : Type} {d : Kd α} {w : World} {A : Option Addr} {n : Nat} {xs : List α} (h : d.C w A n xs) (z : α) (i : Int) (h0 : 0 ≤ i) (h1 : i < n) :
    ∃ ad c, A = some ad ∧ c.length = d.sz ∧ d.K w (xs.getD i.toNat z) c ∧ ∀ j u, c[j]? = some u → w.cell? (ad.add (i.toNat * d.sz + j)) = some u := ReadsRow.get_ h z i h0 h1
/-- What an append leaves: the old elements' rows and the new one's are not the new row's block. -/
theorem R_appended {α : Type} {d : Kd α} {e base : Nat} {ok okp : Nat → Prop} {W w1 : World} {v v1 : Value} {xs : List α} {p : α} {inner cs : List Value} (h0 : ∀ k, v.ownBlock = some k → ok k) (hr : Reps (d.M W base (fun k => ok k ∧ some k ≠ v.ownBlock)) d.sz xs inner) (hp : d.M W base okp p cs) (hokp : ∀ k, okp k → ok k ∧ some k ≠ v.ownBlock) (hfresh : ∀ k, W.heap.size ≤ k → ok k)
    (hown : w1.ownsRow base e d.sz v1 (xs.length + 1) (inner ++ cs)) (hg : W.grownBy w1 v.ownBlock) (hat : v1.ownBlock = v.ownBlock ∨ ∃ b, v1.ownBlock = some b ∧ W.heap.size ≤ b) : d.R e w1 base ok v1 (xs ++ [p]) := by
  have hne : ∀ k, some k ≠ v.ownBlock → k < W.heap.size → some k ≠ v1.ownBlock := by
    intro k hk hlt
    rcases hat with hat | ⟨b, hb, hle⟩
    · rw [hat]; exact hk
    · rw [hb]
      intro he
      injection he with he
      omega
  have step : ∀ {q : α} {c : List Value} {o : Nat → Prop}, d.M W base o q c → (∀ k, o k → ok k ∧ some k ≠ v.ownBlock) → d.M w1 base (fun k => ok k ∧ some k ≠ v1.ownBlock) q c := by
    intro q c o hq ho
    have h1 := d.M_move (w1 := w1) (fun k hk => hg.block k hk.2.2.1 (ho k hk.1).2) (d.M_bound hq)
    exact d.M_mono (fun k hk => ⟨(ho k hk.1).1, hne k (ho k hk.1).2 hk.2.2.1⟩) h1
  refine ⟨fun k hk => ?_, inner ++ cs, by rw [List.length_append, List.length_singleton]; exact hown, ?_⟩
  · rcases hat with hat | ⟨b, hb, hle⟩
    · exact h0 k (hat ▸ hk)
    · rw [hb] at hk
      injection hk with hk
      exact hfresh k (by omega)
  · exact (hr.imp_ (fun _ _ hq => step hq (fun _ hk => hk))).snoc (step hp hokp) (d.K_len (d.K_of_M hp))
section
variable {P : Program} {ops : Array Oper} {rest : List Oper} {o : Oper} {a : Act} {Q : Exit → Act → World → Prop} {α : Type}
/-- append(v, x), behind 'at_builtin'; the goal's world is 'W.alloc' of the variadic's box; x's cells are cs, made (its rows satisfy okp). hfresh: a block that is new at W is ok. -/
theorem R_append (d : Kd α) {w0 W : World} (base : Nat) (hgd : o.guard = none) (s x : Operand) (t e : TypeId) (z : Value) (bytes : Nat)
    (ho : o.op = .call { callee := .builtin .append, args := #[s, x], argTypes := #[t, t] })
    (ht : P.underlying t = some (.slice e)) (hinfo : (P.info? e).map (fun i => (i.zero, i.size, i.bytes)) = some (some z, d.sz, bytes)) (hz : z.cells.size = d.sz) (hs0 : 0 < d.sz) (hb0 : 0 < bytes)
    (v : Value) (xs : List α) (p : α) (cs : List Value) (ok okp : Nat → Prop) (hs : a.eval s = v) (hx : a.eval x = .slice (some ⟨W.heap.size, 0, none⟩) 1 1) (hp : d.M W base okp p cs) (hokp : ∀ k, okp k → ok k ∧ some k ≠ v.ownBlock) (hfresh : ∀ k, W.heap.size ≤ k → ok k)
    (HO : d.R e W base ok v xs) (HB : Below base w0 W) (hbase : base ≤ W.heap.size) (hl : (xs.length + 1) * bytes ≤ 140737488355328)
    (h : ∀ v1 w1, d.R e w1 base ok v1 (xs ++ [p]) → Below base w0 w1 → W.grownBy w1 v.ownBlock → (v1.ownBlock = v.ownBlock ∨ ∃ b, v1.ownBlock = some b ∧ W.heap.size ≤ b) → wpList P ops Q rest (a.put o.dst v1) w1) :
    wpList P ops Q (o :: rest) a (W.alloc (.cells cs.toArray e)) := by
  obtain ⟨h0, inner, hown, hr⟩ := HO
  refine print_append_cells base hgd s x t e z d.sz bytes ho ht hinfo hz hs0 hb0 v xs.length inner cs hs hx (d.K_len (d.K_of_M hp)) (d.K_one (d.K_of_M hp)) hown HB hbase hl ?_
  intro v1 w1 hown1 hb1 hg1 hat1
  exact h v1 w1 (R_appended h0 hr hp hokp hfresh hown1 hg1 hat1) hb1 hg1 hat1
end
section
variable {P : Program} {ops : Array Oper} {o : Oper} {a : Act} {Q : Exit → Act → World → Prop} {Kc : Act → World → Prop} {α : Type}
theorem R_append_step (d : Kd α) {w0 W : World} (base : Nat) (hw : Region.wanted o (yielded ops a.tmps) = true) (s x : Operand) (t e : TypeId) (z : Value) (bytes : Nat)
    (ho : o.op = .call { callee := .builtin .append, args := #[s, x], argTypes := #[t, t] })
    (ht : P.underlying t = some (.slice e)) (hinfo : (P.info? e).map (fun i => (i.zero, i.size, i.bytes)) = some (some z, d.sz, bytes)) (hz : z.cells.size = d.sz) (hs0 : 0 < d.sz) (hb0 : 0 < bytes)
    (v : Value) (xs : List α) (p : α) (cs : List Value) (ok okp : Nat → Prop) (hs : a.eval s = v) (hx : a.eval x = .slice (some ⟨W.heap.size, 0, none⟩) 1 1) (hp : d.M W base okp p cs) (hokp : ∀ k, okp k → ok k ∧ some k ≠ v.ownBlock) (hfresh : ∀ k, W.heap.size ≤ k → ok k)
    (HO : d.R e W base ok v xs) (HB : Below base w0 W) (hbase : base ≤ W.heap.size) (hl : (xs.length + 1) * bytes ≤ 140737488355328)
    (h : ∀ v1 w1, d.R e w1 base ok v1 (xs ++ [p]) → Below base w0 w1 → W.grownBy w1 v.ownBlock → (v1.ownBlock = v.ownBlock ∨ ∃ b, v1.ownBlock = some b ∧ W.heap.size ≤ b) → Kc (a.put o.dst v1) w1) :
    if Region.wanted o (yielded ops a.tmps) = true then Oper.wp P o a (W.alloc (.cells cs.toArray e)) Kc Q else Kc (a.put o.dst undef) (W.alloc (.cells cs.toArray e)) := by
  obtain ⟨h0, inner, hown, hr⟩ := HO
  refine step_append_cells base hw s x t e z d.sz bytes ho ht hinfo hz hs0 hb0 v xs.length inner cs hs hx (d.K_len (d.K_of_M hp)) (d.K_one (d.K_of_M hp)) hown HB hbase hl ?_
  intro v1 w1 hown1 hb1 hg1 hat1
  exact h v1 w1 (R_appended h0 hr hp hokp hfresh hown1 hg1 hat1) hb1 hg1 hat1
end
theorem own_of_R {α : Type} {enc : α → Value} {h1 : ∀ x, (enc x).oneCell' = true} {e : Nat} {w : World} {base : Nat} {ok : Nat → Prop} {v : Value} {xs : List α} (h : (scalar enc h1).R e w base ok v xs) : w.ownsRow base e 1 v xs.length (encs enc xs) := by
  obtain ⟨_, inner, ho, hr⟩ := h
  have : inner = encs enc xs := by
    apply List.ext_getElem?
    intro j
    rcases Nat.lt_or_ge j xs.length with hj | hj
    · have h2 := hr.2 j _ (List.getElem?_eq_getElem hj)
      have hl : j < inner.length := by have := hr.1; simp [scalar] at this; omega
      have h3 : (inner.drop (j * 1)).take 1 = [enc xs[j]] := h2
      rw [Nat.mul_one, List.drop_eq_getElem_cons hl] at h3
      have h4 : inner[j] = enc xs[j] := by
        have h5 := congrArg List.head? h3
        rw [List.take_succ_cons] at h5
        exact Option.some.inj h5
      rw [List.getElem?_eq_getElem hl, h4]
      simp [encs, List.getElem?_eq_getElem hj]
    · have h3 : inner.length = xs.length := by have := hr.1; simp [scalar] at this; omega
      rw [List.getElem?_eq_none (by omega), List.getElem?_eq_none (by rw [encs_length]; omega)]
  rw [← this]
  exact ho
theorem reads_of_C {α : Type} {enc : α → Value} {d : α} {h1 : ∀ x, (enc x).oneCell' = true} {w : World} {A : Option Addr} {n : Nat} {xs : List α} (h : (scalar enc h1).C w A n xs) : ReadsOf enc d w A n xs := by
  refine ⟨h.1, h.2.1, fun hn => ?_⟩
  obtain ⟨ad, e, hc⟩ := h.2.2 hn
  refine ⟨ad, e, fun j hj => ?_⟩
  have hl : j < xs.length := by have := h.1; omega
  obtain ⟨c, _, hK, hcell⟩ := hc j _ (List.getElem?_eq_getElem hl)
  have hK' : c = [enc xs[j]] := hK
  subst hK'
  have := hcell 0 _ rfl
  simpa [scalar, List.getD_eq_getElem?_getD, List.getElem?_eq_getElem hl] using this
end Kd
namespace Kd
/-- F says the more, the more its argument says. -/
structure Mono {α β : Type} (F : Kd α → Kd β) : Prop where
  sz : ∀ d d' : Kd α, d.sz = d'.sz → (F d).sz = (F d').sz
  K : ∀ d d' : Kd α, d.sz = d'.sz → (∀ w x cs, d.K w x cs → d'.K w x cs) → ∀ w x cs, (F d).K w x cs → (F d').K w x cs
  M : ∀ d d' : Kd α, d.sz = d'.sz → (∀ w base ok x cs, d.M w base ok x cs → d'.M w base ok x cs) → ∀ w base ok x cs, (F d).M w base ok x cs → (F d').M w base ok x cs
/-- The element types inside stay among E. -/
def Sub {α β : Type} (F : Kd α → Kd β) (E : List Nat) : Prop := ∀ d : Kd α, (∀ q, q ∈ d.E → q ∈ E) → ∀ q, q ∈ (F d).E → q ∈ E
end Kd
namespace Kd
end Kd
namespace Kd
section
variable {α β : Type} {d : Kd α} {d' : Kd β} {e e' : Nat} {w w1 W : World} {base b b' : Nat} {ok ok' okv oku : Nat → Prop} {v u : Value} {xs : List α} {ys : List β}
theorem R_drewN (h : d.R e w base ok v xs) (m : Nat) : d.R e (w.drewN m) base ok v xs := R_below h (pw_below_drewN (Below.refl _ _) m)
theorem R_reads' {A : Option Addr} {n c : Nat} (h : d.R e w base ok (.slice A n c) xs) : n = xs.length ∧ n ≤ c ∧ d.C w A xs.length xs := by
  obtain ⟨A', c', he, hl, hr⟩ := R_reads h
  injection he with h1 h2 h3
  subst h1
  exact ⟨h2, by omega, hr⟩
theorem R_lt (h : d.R e w base ok v xs) : ∀ k, v.ownBlock = some k → k < w.heap.size := by
  obtain ⟨inner, ho⟩ := R_own h
  exact own_lt ho
theorem R_base (h : d.R e w base ok v xs) : ∀ k, v.ownBlock = some k → base ≤ k := by
  obtain ⟨inner, ho⟩ := R_own h
  exact own_base ho
/-- The row's own block is no block that isn't ok. -/
theorem R_away (h : d.R e w base ok v xs) {g : Nat} (hok : ∀ k, ok k → k ≠ g) : some g ≠ v.ownBlock := fun e => hok g (h.1 g e.symm) rfl
/-- A new row is none of an elder one's. -/
theorem R_elder (hu : d'.R e' W b oku u ys) (h : d.R e w1 W.heap.size okv v xs) (hb : Below W.heap.size W w1) : d'.R e' w1 b (fun k => oku k ∧ some k ≠ v.ownBlock) u ys := by
  obtain ⟨inner, ho⟩ := R_own h
  exact R_mono (R_move (R_bound hu) (fun k hk => hb.block k hk.2.2.1)) (fun k hk => ⟨hk.1, fun he => by have := own_base ho k he.symm; have := hk.2.2.1; omega⟩)
end
section
variable {w W : World} {A : Option Addr} {n : Nat}
theorem at_string {xs : List ByteArray} (h : Kd.string.C w A n xs) (i : Int) (h0 : 0 ≤ i) (h1 : i < n) : ∃ ad, A = some ad ∧ w.cell? (ad.add i.toNat) = some (.string (rdOf ByteArray.empty xs i)) :=
  ReadsOf.at_ (reads_of_C (enc := Value.string) (d := ByteArray.empty) (h1 := fun _ => rfl) h) i h0 h1
variable {α : Type} {enc : α → Value} {h1 : ∀ x, (enc x).oneCell' = true} {e base g cap : Nat} {ok : Nat → Prop} {xs : List α}
end
section
variable {P : Program} {ops : Array Oper} {rest : List Oper} {o : Oper} {a : Act} {Q : Exit → Act → World → Prop}
theorem event_run {W w1 : World} {v : Value} (hgd : o.guard = none) (hrun : (execOp a.eval o).run P W = .ok (.value v) w1) (h : wpList P ops Q rest (a.put o.dst v) w1) : wpList P ops Q (o :: rest) a W := by
  refine wpList_plain hgd fun K hK => ?_
  unfold Oper.wp
  rw [hrun]
  exact hK _ _ h
variable {α : Type}
/-- A literal '[]T{..}': inner its cells. 'hd' picks the operation; 'hrun' by '(by go_simp; rfl)'. -/
theorem R_lit (d : Kd α) {w0 W : World} (base e : Nat) (hgd : o.guard = none) {N : Tmp} (_hd : o.dst = some N) {xs : List α} {inner : List Value} {ok okp : Nat → Prop}
    (hrun : (execOp a.eval o).run P W = .ok (.value (.slice (some ⟨W.heap.size, 0, none⟩) xs.length xs.length)) (W.alloc (.cells inner.toArray e)))
    (hrep : Reps (d.M W base okp) d.sz xs inner) (hok : ∀ k, okp k → ok k) (hfresh : ok W.heap.size) (HB : Below base w0 W) (hbase : base ≤ W.heap.size) (hm : xs.length ≤ 9223372036854775807)
    (h : ∀ v1 w1, d.R e w1 base ok v1 xs → Below base w0 w1 → W.grownBy w1 none → (∃ b, v1.ownBlock = some b ∧ W.heap.size ≤ b) → wpList P ops Q rest (a.put o.dst v1) w1) : wpList P ops Q (o :: rest) a W := by
  refine event_run hgd hrun (h _ _ ⟨fun k hk => ?_, inner, ?_, ?_⟩ (HB.alloc hbase _) (World.grownBy_alloc W _ none) ⟨W.heap.size, by simp [Value.ownBlock], Nat.le_refl _⟩)
  · have : W.heap.size = k := by simpa [Value.ownBlock] using hk
    subst this
    exact hfresh
  · have h2 := World.ownsRow_lit (base := base) (e := e) (size := d.sz) W inner.toArray xs.length hbase (by simpa [maxLen] using hm) (by simpa using hrep.1)
    simpa using h2
  · refine hrep.imp_ (fun p c hp => d.M_mono (fun k hk => ⟨hok k hk.1, fun he => ?_⟩) (M_below (d.M_bound hp) (below_alloc (Below.refl _ _) _)))
    have h3 : k = W.heap.size := by simpa [Value.ownBlock] using he
    have := hk.2.2.1
    omega
end
end Kd
/-- A row of one's own that may begin inside its block. -/
def QRow (w : World) (base : Nat) (e : TypeId) (size : Nat) (v : Value) (n : Nat) (xs : List Value) : Prop :=
  xs.length = n * size ∧
  ((n = 0 ∧ ∃ A, v = .slice A 0 0 ∧ ∀ a, A = some a → base ≤ a.block ∧ ∃ cur, w.heap[a.block]? = some (.cells cur e (0, 0))) ∨
   ∃ g off cap cur, v = .slice (some ⟨g, off * size, none⟩) n cap ∧ base ≤ g ∧ w.heap[g]? = some (.cells cur e (0, 0)) ∧ n ≤ cap ∧ off + cap ≤ maxLen ∧ cur.size = (off + cap) * size ∧ (cur.toList.drop (off * size)).take (n * size) = xs)
namespace Kd
def Q {α : Type} (d : Kd α) (e : Nat) (w : World) (base : Nat) (ok : Nat → Prop) (v : Value) (xs : List α) : Prop :=
  (∀ k, v.ownBlock = some k → ok k) ∧ ∃ inner, QRow w base e d.sz v xs.length inner ∧ Reps (d.M w base (fun k => ok k ∧ some k ≠ v.ownBlock)) d.sz xs inner
end Kd
namespace Kd
section
variable {α : Type} {d : Kd α} {e e' : Nat} {w w1 W : World} {base : Nat} {ok : Nat → Prop} {u v : Value} {xs : List α}
theorem R_typed (h : d.R e w base ok v xs) : ∀ k, v.ownBlock = some k → ∃ cells, w.heap[k]? = some (.cells cells e (0, 0)) := by
  obtain ⟨inner, ho⟩ := R_own h
  exact fun k hk => own_typed ho k hk
theorem R_over' (h : d.R e W base ok u xs) (hty : ∀ k, v.ownBlock = some k → ∃ cells, W.heap[k]? = some (.cells cells e' (0, 0))) (ht : ∀ q, q ∈ e :: d.E → q ≠ e') (hg : W.grownBy w1 v.ownBlock) : d.R e w1 base ok u xs := by
  refine R_mono (R_move (R_bound h) (fun k hk => hg.block k hk.2.2.1 (fun he => ?_))) (fun _ hk => hk.1)
  obtain ⟨_, _, _, q, hq, cells, hc⟩ := hk
  obtain ⟨cells', hc'⟩ := hty k he.symm
  rw [hc] at hc'
  injection hc' with hc'
  injection hc' with _ hc'
  exact ht q hq hc'
theorem R_apart' (h : d.R e W base ok u xs) (hty : ∀ k, v.ownBlock = some k → ∃ cells, W.heap[k]? = some (.cells cells e' (0, 0))) (ht : ∀ q, q ∈ e :: d.E → q ≠ e') : d.R e W base (fun k => ok k ∧ some k ≠ v.ownBlock) u xs := by
  refine R_mono (R_bound h) (fun k hk => ⟨hk.1, fun he => ?_⟩)
  obtain ⟨_, _, _, q, hq, cells, hc⟩ := hk
  obtain ⟨cells', hc'⟩ := hty k he.symm
  rw [hc] at hc'
  injection hc' with hc'
  injection hc' with _ hc'
  exact ht q hq hc'
theorem R_elder' (hu : d.R e W base ok u xs) (hbase : ∀ k, v.ownBlock = some k → W.heap.size ≤ k) (hb : Below W.heap.size W w1) : d.R e w1 base (fun k => ok k ∧ some k ≠ v.ownBlock) u xs :=
  R_mono (R_move (R_bound hu) (fun k hk => hb.block k hk.2.2.1)) (fun k hk => ⟨hk.1, fun he => by have := hbase k he.symm; have := hk.2.2.1; omega⟩)
theorem R_new' (h : d.R e w1 W.heap.size ok v xs) (hlt : ∀ k, u.ownBlock = some k → k < W.heap.size) : d.R e w1 W.heap.size (fun k => ok k ∧ some k ≠ u.ownBlock) v xs :=
  R_mono (R_bound h) (fun k hk => ⟨hk.1, fun he => by have := hlt k he.symm; have := hk.2.1; omega⟩)
theorem fresh' (hlt : ∀ k, u.ownBlock = some k → k < W.heap.size) : ∀ k, W.heap.size ≤ k → some k ≠ u.ownBlock := fun k hk he => by have := hlt k he.symm; omega
end
end Kd
namespace Kd
end Kd
namespace Kd
def fixed {α : Type} (d : Kd α) (w0 : World) : Kd α where
  sz := d.sz
  E := []
  K := fun _ x cs => d.K w0 x cs
  M := fun _ _ _ x cs => d.K w0 x cs
  K_len := d.K_len
  K_one := d.K_one
  K_below := fun _ h => h
  K_of_M := fun h => h
  M_mono := fun _ h => h
  M_bound := fun h => h
  M_move := fun _ h => h
  M_lower := fun _ h => h
def or_ {α : Type} (a b : Kd α) (h : b.sz = a.sz) : Kd α where
  sz := a.sz
  E := a.E ++ b.E
  K := fun w x cs => a.K w x cs ∨ b.K w x cs
  M := fun w base ok x cs => a.M w base ok x cs ∨ b.M w base ok x cs
  K_len := fun hk => hk.elim a.K_len (fun hk => (b.K_len hk).trans h)
  K_one := fun hk => hk.elim a.K_one b.K_one
  K_below := fun hb hk => hk.imp (a.K_below hb) (b.K_below hb)
  K_of_M := fun hk => hk.imp a.K_of_M b.K_of_M
  M_mono := fun hok hk => hk.imp (a.M_mono hok) (b.M_mono hok)
  M_bound := fun hk => hk.imp
    (fun hk => a.M_mono (fun _ ⟨h1, h2, h3, q, hq, hc⟩ => ⟨h1, h2, h3, q, List.mem_append_left _ hq, hc⟩) (a.M_bound hk))
    (fun hk => b.M_mono (fun _ ⟨h1, h2, h3, q, hq, hc⟩ => ⟨h1, h2, h3, q, List.mem_append_right _ hq, hc⟩) (b.M_bound hk))
  M_move := fun hm hk => hk.imp (a.M_move hm) (b.M_move hm)
  M_lower := fun hb hk => hk.imp (a.M_lower hb) (b.M_lower hb)
/-- A slice whose elements are read by d when it came in, and are of kind dm when it is made. -/
def mix {α : Type} (e : Nat) (d dm : Kd α) (w0 : World) : Kd (List α) := or_ (fixed (slice e d) w0) (slice e dm) rfl
end Kd
namespace Kd
end Kd
namespace Kd
end Kd
namespace Kd
end Kd
theorem below_size {w W : World} (h : Below w.heap.size w W) : w.heap.size ≤ W.heap.size := h.size
theorem below_step {w W w2 : World} (h : Below w.heap.size w W) (k : Below W.heap.size W w2) : Below w.heap.size w w2 := below_then h h.size k
theorem below_set {w W : World} {g j : Nat} {v : Value} (h : Below w.heap.size w W) (hg : w.heap.size ≤ g) : Below w.heap.size w (W.setCell ⟨g, j, none⟩ v) := h.setCell hg _
theorem add_block (a : Addr) (i : Nat) : (a.add i).block = a.block := by unfold Addr.add; split <;> rfl
theorem blk_put {w : World} {g : Nat} {t : TypeId} {cs cs' : Array Value} (h : w.heap[g]? = some (.cells cs t (0, 0))) (i : Nat) (u : Value) (e : cs.setIfInBounds i u = cs') : (w.setCell ⟨g, i, none⟩ u).heap[g]? = some (.cells cs' t (0, 0)) := e ▸ blk_set h i u
theorem below_drew1 {base : Nat} {w W : World} (h : Below base w W) : Below base w W.drew := h.drew
namespace Kd
end Kd
namespace Kd
section
variable {α : Type} {d : Kd α} {e base g : Nat} {ok : Nat → Prop} {w w1 : World} {v : Value} {xs : List α} {o : Obj}
theorem freshB (hb : w.heap[g]? = some o) : ∀ k, w.heap.size ≤ k → k ≠ g := fun k hk => by have := blk_lt hb; omega
end
end Kd
section
variable {P : Program} {ops : Array Oper} {rest : List Oper} {o : Oper} {a : Act} {Q : Exit → Act → World → Prop}
theorem box_event {W : World} (hgd : o.guard = none) {N : Tmp} (_hd : o.dst = some N) {cs : Array Value} {t : TypeId}
    (hrun : (execOp a.eval o).run P W = .ok (.value (.pointer (some ⟨W.heap.size, 0, none⟩))) (W.alloc (.cells cs t (0, 0))))
    (h : ∀ g, g = W.heap.size → ∀ w1, w1.heap[g]? = some (.cells cs t (0, 0)) → Below W.heap.size W w1 → wpList P ops Q rest (a.put o.dst (.pointer (some ⟨g, 0, none⟩))) w1) : wpList P ops Q (o :: rest) a W :=
  Kd.event_run hgd hrun (h _ rfl _ (blk_new W _) (below_alloc (Below.refl _ _) _))
end
namespace Kd
end Kd
section
variable {P : Program} {ops : Array Oper} {rest : List Oper} {o : Oper} {a : Act} {Q : Exit → Act → World → Prop}
theorem store_event {W w1 : World} (hgd : o.guard = none) {t : TypeId} {p : Tmp} {v : Operand} (_ho : o.op = .store t (.tmp p) v) (hN : o.dst = none)
    (hrun : (execOp a.eval o).run P W = .ok .skip w1) (h : ∀ w', w' = w1 → wpList P ops Q rest a w') : wpList P ops Q (o :: rest) a W := by
  refine wpList_plain hgd fun K hK => ?_
  unfold Oper.wp
  rw [hrun]
  show K (a.put o.dst undef) w1
  rw [hN]
  exact hK _ _ (h _ rfl)
end
namespace Kd
end Kd
section
variable {P : Program} {ops : Array Oper} {rest : List Oper} {o : Oper} {a : Act} {Q : Exit → Act → World → Prop} {W : World}
theorem gate_dst {N : Tmp} (_hN : o.dst = some N) (h : wpList P ops Q (o :: rest) a W) : wpList P ops Q (o :: rest) a W := h
theorem gate_store {t : TypeId} {p : Tmp} {v : Operand} (_ho : o.op = .store t (.tmp p) v) (h : wpList P ops Q (o :: rest) a W) : wpList P ops Q (o :: rest) a W := h
end
section
variable {P : Program} {ops : Array Oper} {o : Oper} {a : Act} {Q : Exit → Act → World → Prop} {Kc : Act → World → Prop}
namespace Kd
variable {α : Type}
end Kd
end
inductive Vals (P : Program) (tmps : Array Value) (w : World) : List ResultVar → List Value → Prop where
  | nil : Vals P tmps w [] []
  | tmp {u : Tmp} {rs : List ResultVar} {vs : List Value} (h : Vals P tmps w rs vs) : Vals P tmps w (.tmp u :: rs) (tmps.getD u undef :: vs)
  | cell {p : Tmp} {ty : TypeId} {rs : List ResultVar} {vs : List Value} (g : Nat) (t : TypeId) (cs : Array Value) (fr : Nat × Nat) (d : TypeDesc)
      (hp : tmps.getD p undef = .pointer (some ⟨g, 0, none⟩)) (hg : w.heap[g]? = some (.cells cs t fr))
      (hu : P.underlying ty = some d) (hd : (match d with | .struct _ | .array _ _ => true | _ => false) = true) (hi : (P.info? ty).map (·.size) = some cs.size)
      (h : Vals P tmps w rs vs) : Vals P tmps w (.cell p ty :: rs) (.agg cs :: vs)
namespace Kd
end Kd
end Go.Proofs.YtkjgnkmnngaioaaGreatW.PrintWords
namespace Go.Proofs.YtkjgnkmnngaioaaGreat.Mem
open Go.RowKit
/-- Block `b` is cells, not frozen. -/
def Blk (w : World) (b : Nat) (cs : Array Value) (T : TypeId) : Prop := w.heap[b]? = some (.cells cs T (0, 0))
theorem Blk.cell {w : World} {b : Nat} {cs : Array Value} {T : TypeId} (h : Blk w b cs T) (i : Nat) : w.cell? ⟨b, i, none⟩ = cs[i]? := by
  unfold Blk at h; simp [World.cell?, h]
theorem Blk.free {w : World} {b : Nat} {cs : Array Value} {T : TypeId} (h : Blk w b cs T) (i : Nat) : w.frozen? ⟨b, i, none⟩ = false := by
  unfold Blk at h; simp [World.frozen?, h]
theorem Blk.set {w : World} {b : Nat} {cs : Array Value} {T : TypeId} (h : Blk w b cs T) (i : Nat) (v : Value) : Blk (w.setCell ⟨b, i, none⟩ v) b (cs.setIfInBounds i v) T := by
  unfold Blk at *; simp [World.setCell, Array.getElem?_modify, h]
theorem Blk.lt {w : World} {b : Nat} {cs : Array Value} {T : TypeId} (h : Blk w b cs T) : b < w.heap.size := by
  unfold Blk at h
  by_cases hb : b < w.heap.size
  · exact hb
  · rw [Array.getElem?_eq_none (by omega)] at h; simp at h
theorem Blk.of_block {w w' : World} {b : Nat} {cs : Array Value} {T : TypeId} (h : Blk w b cs T) (k : w'.heap[b]? = w.heap[b]?) : Blk w' b cs T := k.trans h
theorem Blk.drew {w : World} {b : Nat} {cs : Array Value} {T : TypeId} (h : Blk w b cs T) : Blk w.drew b cs T := h
theorem Blk.below {w w' : World} {b B : Nat} {cs : Array Value} {T : TypeId} (h : Blk w b cs T) (k : Below B w w') (hb : b < B) : Blk w' b cs T := (k.block b hb).trans h
theorem Blk.alloc (w : World) (cs : Array Value) (T : TypeId) : Blk (w.alloc (.cells cs T)) w.heap.size cs T := by
  unfold Blk
  show (w.heap.push _)[w.heap.size]? = _
  simp
theorem Blk.alloc_at (w : World) {b : Nat} (cs : Array Value) (T : TypeId) (h : b = w.heap.size) : Blk (w.alloc (.cells cs T)) b cs T := h ▸ Blk.alloc w cs T
theorem Blk.alloc_old {w : World} {b : Nat} {cs : Array Value} {T : TypeId} (h : Blk w b cs T) (o : Obj) : Blk (w.alloc o) b cs T :=
  (Below.heap_alloc w o b h.lt).trans h
theorem Blk.setCell_other {w : World} {b : Nat} {cs : Array Value} {T : TypeId} (h : Blk w b cs T) {a : Addr} (v : Value) (hn : b ≠ a.block) : Blk (w.setCell a v) b cs T :=
  (Below.heap_setCell w a v b hn).trans h
/-- `w'` is as_ `w` was, but for block `b` and new ones. -/
structure But (b : Nat) (w w' : World) : Prop where
  os : w'.os = w.os
  tape : w'.tape = w.tape
  output : w'.output = w.output
  size : w.heap.size ≤ w'.heap.size
  block : ∀ k, k < w.heap.size → k ≠ b → w'.heap[k]? = w.heap[k]?
theorem But.refl (b : Nat) (w : World) : But b w w := ⟨rfl, rfl, rfl, Nat.le_refl _, fun _ _ _ => rfl⟩
theorem But.trans {b : Nat} {x y z : World} (h : But b x y) (k : But b y z) : But b x z :=
  ⟨k.os.trans h.os, k.tape.trans h.tape, k.output.trans h.output, Nat.le_trans h.size k.size, fun i hi e => (k.block i (Nat.lt_of_lt_of_le hi h.size) e).trans (h.block i hi e)⟩
theorem But.setCell {b : Nat} {x w : World} (h : But b x w) (i : Nat) (v : Value) : But b x (w.setCell ⟨b, i, none⟩ v) :=
  h.trans ⟨rfl, rfl, rfl, by simp [World.setCell], fun k _ e => Below.heap_setCell _ _ _ _ e⟩
theorem But.drewN {b : Nat} {x w : World} (h : But b x w) (n : Nat) : But b x (w.drewN n) :=
  h.trans ⟨rfl, rfl, rfl, Nat.le_refl _, fun _ _ _ => rfl⟩
theorem But.below {b B : Nat} {w w' : World} (h : But b w w') (hB : B ≤ b) (hs : B ≤ w.heap.size) : Below B w w' :=
  ⟨h.os, h.tape, h.output, h.size, fun k hk => h.block k (by omega) (by omega)⟩
theorem But.blk {b c : Nat} {w w' : World} (h : But b w w') {cs : Array Value} {T : TypeId} (hb : Blk w c cs T) (hn : c ≠ b) : Blk w' c cs T :=
  hb.of_block (h.block c hb.lt hn)
theorem But.of_below {b : Nat} {w w' : World} (h : Below w.heap.size w w') : But b w w' := ⟨h.os, h.tape, h.output, h.size, fun k hk _ => h.block k hk⟩
/-- A row of so many cells that are known. -/
def Arr (w : World) (a : Option Addr) (m : Nat) (cs : Nat → Value) : Prop := m = 0 ∨ ∃ b o, a = some ⟨b, o, none⟩ ∧ b < w.heap.size ∧ ∀ j, j < m → w.cell? ⟨b, o + j, none⟩ = some (cs j)
theorem lt_of_cell {w : World} {b o : Nat} {v : Value} (h : w.cell? ⟨b, o, none⟩ = some v) : b < w.heap.size := by
  rcases Nat.lt_or_ge b w.heap.size with h1 | h1
  · exact h1
  · simp [World.cell?, Array.getElem?_eq_none h1] at h
theorem below_drewN {B : Nat} {a w : World} (h : Below B a w) (n : Nat) : Below B a (w.drewN n) := h.trans ⟨rfl, rfl, rfl, Nat.le_refl _, fun _ _ => rfl⟩
end Go.Proofs.YtkjgnkmnngaioaaGreat.Mem
namespace Go.Proofs.YtkjgnkmnngaioaaGreat.Mix
/-- A world of one of the classes, from a phase on. -/
def Wd (C : Nat → World → Prop) (p : Nat) : Type := { w : World // ∃ i, p ≤ i ∧ C i w }
/-- A world of one of the classes, between two phases. -/
def Wx (C : Nat → World → Prop) (p q : Nat) : Type := { w : World // ∃ i, p ≤ i ∧ i ≤ q ∧ C i w }
/-- `i` comes ahead of `j`, at once or through others. -/
inductive Reach (md : Region.Mode) (ops : Array Oper) (i : Nat) : Nat → Prop
  | one {j : Nat} {o : Oper} {e : Edge} : ops[j]? = some o → e ∈ o.after → Region.binds md e = true → e.on = i → Reach md ops i j
  | more {j : Nat} {o : Oper} {e : Edge} : ops[j]? = some o → e ∈ o.after → Region.binds md e = true → Reach md ops i e.on → Reach md ops i j
/-- What comes ahead of an operation, as_ bits; `acc`: of those ahead of it in the text. -/
def mask (md : Region.Mode) (acc : List Nat) (o : Oper) : Nat := o.after.toList.foldl (fun s e => if Region.binds md e then (s ||| 2 ^ e.on) ||| acc.getD e.on 0 else s) 0
def masks (md : Region.Mode) : List Oper → List Nat → List Nat
  | [], acc => acc
  | o :: l, acc => masks md l (acc ++ [mask md acc o])
def waits (md : Region.Mode) (ops : Array Oper) (i j : Nat) : Bool := ((masks md ops.toList []).getD j 0).testBit i
/-- How many of the turning operations come ahead of `j`. -/
def lo (md : Region.Mode) (ops : Array Oper) (fl : Nat → Bool) (j : Nat) : Nat := (List.range ops.size).countP fun i => fl i && waits md ops i j
/-- How many of the turning operations don't wait for `j`. -/
def up (md : Region.Mode) (ops : Array Oper) (fl : Nat → Bool) (j : Nat) : Nat := (List.range ops.size).countP fun i => fl i && !waits md ops j i
section
variable (P : Program) (ops : Array Oper) (md : Region.Mode) (C : Nat → World → Prop) (fl : Nat → Bool) (lw : Nat → Nat × Nat)
/-- What an operation that leaves the very world must come to. -/
def stillUpon (w : World) (v : Value) : Result Next → Prop
  | .ok (.value u) w' => w' = w ∧ u = v
  | .ok .skip w' => w' = w ∧ undef = v
  | _ => False
/-- What an operation that turns the world must come to: a value, and a world of a class. -/
def stepUpon (D : World → Prop) (v : Value) : Result Next → Prop
  | .ok (.value u) w' => u = v ∧ D w'
  | .ok .skip w' => undef = v ∧ D w'
  | .ok (.enter f args) w' => Calls P f args w' (fun e w'' => e = .returned v ∧ D w'')
  | _ => False
/-- Operation `o`, of kind `b`, in phase `i`, frame `a`, yields `v`. -/
def Yl (p : Nat × Nat) (b : Bool) (i : Nat) (o : Oper) (a : Act) (v : Value) : Prop :=
  match b with
  | false => ∀ x : Wx C p.1 p.2, stillUpon x.1 v ((execOp a.eval o).run P x.1)
  | true => ∀ w, C i w → stepUpon P (C (i + 1)) v ((execOp a.eval o).run P w)
def nx (b : Bool) (i : Nat) : Nat := match b with | true => i + 1 | false => i
/-- An operation that is passed over. -/
def Sk (b : Bool) (i : Nat) : Prop := match b with | true => ∀ w, C i w → C (i + 1) w | false => True
def one (p : Nat × Nat) (b : Bool) (i : Nat) (o : Oper) (K : Nat → Act → Prop) (a : Act) : Prop :=
  if Region.wanted o (yielded ops a.tmps) then ∃ v, Yl P C p b i o a v ∧ K (nx b i) (a.put o.dst v) else Sk C b i ∧ K (nx b i) (a.put o.dst undef)
/-- The walk in the order of the text. -/
def wpMix (Q : Nat → Act → Prop) : List Oper → Nat → Nat → Act → Prop
  | [], _, i, a => Q i a
  | o :: l, k, i, a => one P ops C (lw k) (fl k) i o (wpMix Q l (k + 1)) a
def mOp (j : Nat) (K : Nat → Act → Prop) (i : Nat) (a : Act) : Prop :=
  match ops[j]? with
  | none => K i a
  | some o => one P ops C (lw j) (fl j) i o K a
def wpAnyM (Q : Nat → Act → Prop) : Nat → Array Bool → Nat → Act → Prop
  | 0, listed, i, a => Region.ready md ops listed = [] ∧ Q i a
  | fuel + 1, listed, i, a =>
    (Region.ready md ops listed = [] → Q i a) ∧
    ∀ j ∈ Region.ready md ops listed, mOp P ops C fl lw j (wpAnyM Q fuel (listed.setIfInBounds j true)) i a
end
section
variable {P : Program} {ops : Array Oper} {md : Region.Mode} {C : Nat → World → Prop} {fl : Nat → Bool} {lw : Nat → Nat × Nat}
/-- It is a 'wpAny', from every world of the phase. -/
theorem wpOp_of_mOp {Q' : Exit → Act → World → Prop} {j i : Nat} {a : Act} {K : Nat → Act → Prop} {K' : Act → World → Prop} {w : World} (hw : C i w) (hp : (lw j).1 ≤ i ∧ i ≤ (lw j).2)
    (h : ∀ i' a w, i' = nx (fl j) i ∨ ops[j]? = none → C i' w → K i' a → K' a w) (hh : mOp P ops C fl lw j K i a) : wpOp P ops Q' j K' a w := by
  unfold mOp at hh
  unfold wpOp
  cases ho : ops[j]? with
  | none => simp only [ho] at hh; exact h _ _ _ (.inr ho) hw hh
  | some o =>
    simp only [ho] at hh
    unfold one at hh
    simp only []
    split
    · rename_i hwant
      simp only [hwant, if_true] at hh
      refine .inl ?_
      obtain ⟨v, hy, hk⟩ := hh
      unfold Oper.wp
      cases hb : fl j with
      | false =>
        rw [hb] at hy hk
        have h3 := hy ⟨w, i, hp.1, hp.2, hw⟩
        simp only [] at h3
        generalize (execOp a.eval o).run P w = r at *
        cases r with
        | ok n w' =>
          cases n <;> simp only [stillUpon] at h3 <;> simp only [Oper.upon]
          case value u => obtain ⟨e1, e2⟩ := h3; rw [e1, e2]; exact h _ _ _ (.inl (by rw [hb]; rfl)) hw hk
          case skip => obtain ⟨e1, e2⟩ := h3; rw [e1, e2]; exact h _ _ _ (.inl (by rw [hb]; rfl)) hw hk
        | halt x w' => simp only [stillUpon] at h3
      | true =>
        rw [hb] at hy hk
        have h3 := hy w hw
        generalize (execOp a.eval o).run P w = r at *
        cases r with
        | ok n w' =>
          cases n <;> simp only [stepUpon] at h3 <;> simp only [Oper.upon]
          case value u => obtain ⟨e1, e2⟩ := h3; rw [e1]; exact h _ _ _ (.inl (by rw [hb]; rfl)) e2 hk
          case skip => obtain ⟨e1, e2⟩ := h3; rw [e1]; exact h _ _ _ (.inl (by rw [hb]; rfl)) e2 hk
          case enter f args => exact h3.mono fun e w'' ⟨he, hw''⟩ => by subst he; exact h _ _ _ (.inl (by rw [hb]; rfl)) hw'' hk
        | halt x w' => simp only [stepUpon] at h3
    · rename_i hwant
      simp only [hwant] at hh
      cases hb : fl j with
      | false => rw [hb] at hh; exact h _ _ _ (.inl (by rw [hb]; rfl)) hw hh.2
      | true => rw [hb] at hh; exact h _ _ _ (.inl (by rw [hb]; rfl)) (hh.1 w hw) hh.2
/-- What one operation yields, wanted or passed over. -/
def Out (p : Nat × Nat) (b : Bool) (i : Nat) (o : Oper) (a : Act) (v : Value) : Prop :=
  (Region.wanted o (yielded ops a.tmps) = true ∧ Yl P C p b i o a v) ∨ (Region.wanted o (yielded ops a.tmps) = false ∧ Sk C b i ∧ v = undef)
theorem out_of_one {p : Nat × Nat} {b : Bool} {i : Nat} {o : Oper} {a : Act} {K : Nat → Act → Prop} (h : one P ops C p b i o K a) : ∃ v, Out (P := P) (ops := ops) (C := C) p b i o a v ∧ K (nx b i) (a.put o.dst v) := by
  unfold one at h
  by_cases hw : Region.wanted o (yielded ops a.tmps) = true
  · simp only [hw, if_true] at h
    obtain ⟨v, h1, h2⟩ := h
    exact ⟨v, .inl ⟨hw, h1⟩, h2⟩
  · simp only [hw] at h
    exact ⟨undef, .inr ⟨by simpa using hw, h.1, rfl⟩, h.2⟩
theorem one_of_out {p : Nat × Nat} {b : Bool} {i : Nat} {o : Oper} {a : Act} {v : Value} {K : Nat → Act → Prop} (h : Out (P := P) (ops := ops) (C := C) p b i o a v) (hk : K (nx b i) (a.put o.dst v)) : one P ops C p b i o K a := by
  unfold one
  rcases h with ⟨h1, h2⟩ | ⟨h1, h2, rfl⟩
  · simp only [h1, if_true]; exact ⟨v, h2, hk⟩
  · simp only [h1, Bool.false_eq_true, if_false]; exact ⟨h2, hk⟩
theorem Out.of_same {p : Nat × Nat} {b : Bool} {i : Nat} {o : Oper} {a a' : Act} {v : Value} (hy : Out (P := P) (ops := ops) (C := C) p b i o a v) (he : execOp a'.eval o = execOp a.eval o)
    (hw : Region.wanted o (yielded ops a'.tmps) = Region.wanted o (yielded ops a.tmps)) : Out (P := P) (ops := ops) (C := C) p b i o a' v := by
  unfold Out Yl at *
  rw [he, hw]
  exact hy
theorem Out.still {p : Nat × Nat} {i i' : Nat} {o : Oper} {a : Act} {v : Value} (h : Out (P := P) (ops := ops) (C := C) p false i o a v) : Out (P := P) (ops := ops) (C := C) p false i' o a v := h
theorem mask_reach {acc : List Nat} (hacc : ∀ j i, (acc.getD j 0).testBit i = true → Reach md ops i j) {k : Nat} {o : Oper} (ho : ops[k]? = some o) {i : Nat} (h : (mask md acc o).testBit i = true) : Reach md ops i k := by
  unfold mask at h
  have key : ∀ (l : List Edge) (s : Nat), (∀ e ∈ l, e ∈ o.after) → (l.foldl (fun s e => if Region.binds md e then (s ||| 2 ^ e.on) ||| acc.getD e.on 0 else s) s).testBit i = true → s.testBit i = true ∨ Reach md ops i k := by
    intro l
    induction l with
    | nil => intro s _ h; exact .inl h
    | cons e l ih =>
      intro s hl h
      simp only [List.foldl_cons] at h
      rcases ih _ (fun e he => hl e (List.mem_cons_of_mem _ he)) h with h1 | h1
      · have hm := hl e List.mem_cons_self
        by_cases hb : Region.binds md e = true
        · rw [if_pos hb, Nat.testBit_or, Nat.testBit_or, Bool.or_eq_true, Bool.or_eq_true] at h1
          rcases h1 with (h1 | h1) | h1
          · exact .inl h1
          · rw [Nat.testBit_two_pow] at h1
            exact .inr (.one ho hm hb (by simpa using h1))
          · exact .inr (.more ho hm hb (hacc _ _ h1))
        · rw [if_neg hb] at h1; exact .inl h1
      · exact .inr h1
  rcases key o.after.toList 0 (fun e he => Array.mem_toList_iff.1 he) h with h1 | h1
  · simp at h1
  · exact h1
theorem masks_reach : ∀ (l : List Oper) (acc : List Nat), (∀ j, l[j]? = ops[acc.length + j]?) → (∀ j i, (acc.getD j 0).testBit i = true → Reach md ops i j) →
    ∀ j i, ((masks md l acc).getD j 0).testBit i = true → Reach md ops i j
  | [], _, _, hacc => hacc
  | o :: l, acc, hl, hacc => by
    refine masks_reach l (acc ++ [mask md acc o]) (fun j => by have := hl (j + 1); simpa [Nat.add_assoc, Nat.add_comm 1 j] using this) (fun j i h => ?_)
    rcases Nat.lt_trichotomy j acc.length with hj | hj | hj
    · rw [List.getD_eq_getElem?_getD, List.getElem?_append_left hj, ← List.getD_eq_getElem?_getD] at h; exact hacc j i h
    · subst hj
      have h0 : ops[acc.length]? = some o := by simpa using (hl 0).symm
      simp at h
      exact mask_reach hacc h0 h
    · rw [List.getD_eq_getElem?_getD, List.getElem?_eq_none (by simp; omega)] at h; simp at h
theorem reach_of_waits {i j : Nat} (h : waits md ops i j = true) : Reach md ops i j :=
  masks_reach ops.toList [] (by simp) (by simp) j i h
/-- What is listed, its predecessors are. -/
def Closed (md : Region.Mode) (ops : Array Oper) (listed : Array Bool) : Prop :=
  ∀ j o, ops[j]? = some o → listed.getD j false = true → ∀ e ∈ o.after, Region.binds md e = true → listed.getD e.on false = true
theorem Closed.reach {listed : Array Bool} (h : Closed md ops listed) {i j : Nat} (hr : Reach md ops i j) (hj : listed.getD j false = true) : listed.getD i false = true := by
  induction hr with
  | one ho he hb hi => rw [← hi]; exact h _ _ ho hj _ he hb
  | more ho he hb _ ih => exact ih (h _ _ ho hj _ he hb)
theorem ready_reach {listed : Array Bool} (h : Closed md ops listed) {i j : Nat} (hr : Reach md ops i j) (hj : j ∈ Region.ready md ops listed) : listed.getD i false = true := by
  obtain ⟨_, o, ho, hall⟩ := mem_ready.1 hj
  cases hr with
  | one ho' he hb hi => rw [ho] at ho'; cases ho'; rw [← hi]; exact hall _ he hb
  | more ho' he hb hm => rw [ho] at ho'; cases ho'; exact h.reach hm (hall _ he hb)
theorem Closed.set {listed : Array Bool} (h : Closed md ops listed) {j : Nat} (hj : j ∈ Region.ready md ops listed) : Closed md ops (listed.setIfInBounds j true) := by
  intro k o ho hk e he hb
  by_cases hkj : j = k
  · subst hkj
    obtain ⟨_, o', ho', hall⟩ := mem_ready.1 hj
    rw [ho] at ho'
    cases ho'
    exact getD_set_true (hall e he hb)
  · rw [getD_set_ne false hkj] at hk
    exact getD_set_true (h k o ho hk e he hb)
theorem Closed.start (n : Nat) : Closed md ops (Array.replicate n false) := by
  intro j o _ hl
  rcases Nat.lt_or_ge j n with h | h
  · simp [h] at hl
  · simp [Nat.not_lt.2 h] at hl
theorem not_ready_of_waits {listed : Array Bool} (h : Closed md ops listed) {i : Nat} (hi : listed.getD i false = false) {j : Nat} (hw : waits md ops i j = true) : j ∉ Region.ready md ops listed := by
  intro hj
  have := ready_reach h (reach_of_waits hw) hj
  rw [hi] at this
  cases this
/-- How many turning operations are listed. -/
def cnt (ops : Array Oper) (fl : Nat → Bool) (listed : Array Bool) : Nat := (List.range ops.size).countP fun j => fl j && listed.getD j false
theorem lo_le {listed : Array Bool} (h : Closed md ops listed) {j : Nat} (hj : j ∈ Region.ready md ops listed) : lo md ops fl j ≤ cnt ops fl listed := by
  unfold lo cnt
  refine List.countP_mono_left fun i _ hi => ?_
  simp only [Bool.and_eq_true] at hi ⊢
  exact ⟨hi.1, ready_reach h (reach_of_waits hi.2) hj⟩
theorem le_up {listed : Array Bool} (h : Closed md ops listed) {j : Nat} (hj : j ∈ Region.ready md ops listed) (hs : listed.size = ops.size) : cnt ops fl listed ≤ up md ops fl j := by
  unfold up cnt
  refine List.countP_mono_left fun i _ hi => ?_
  simp only [Bool.and_eq_true, Bool.not_eq_true'] at hi ⊢
  refine ⟨hi.1, ?_⟩
  cases hw : waits md ops j i with
  | false => rfl
  | true =>
    have h1 := h.reach (reach_of_waits hw) hi.2
    obtain ⟨hun, o, ho, _⟩ := mem_ready.1 hj
    have hlt : j < listed.size := by rw [hs]; exact (Array.getElem?_eq_some_iff.1 ho).1
    simp [hlt] at hun h1
    rw [hun] at h1
    cases h1
theorem countP_set (p q : Nat → Bool) (k : Nat) (hq : ∀ j, j ≠ k → q j = p j) (hpk : p k = false) : ∀ (n : Nat), (List.range n).countP q = (List.range n).countP p + (if k < n ∧ q k = true then 1 else 0)
  | 0 => by simp
  | n + 1 => by
    rw [List.range_succ, List.countP_append, List.countP_append, countP_set p q k hq hpk n]
    simp only [List.countP_singleton]
    by_cases hn : n = k
    · subst hn
      rw [hpk]
      cases q n <;> simp
    · rw [hq n hn]
      have e : (k < n + 1 ∧ q k = true) ↔ (k < n ∧ q k = true) := ⟨fun h => ⟨by omega, h.2⟩, fun h => ⟨by omega, h.2⟩⟩
      simp only [e]
      omega
theorem cnt_set {listed : Array Bool} {j : Nat} (hj : j ∈ Region.ready md ops listed) (hs : listed.size = ops.size) (i : Nat) (hi : i = cnt ops fl listed) : nx (fl j) i = cnt ops fl (listed.setIfInBounds j true) := by
  obtain ⟨hun, o, ho, _⟩ := mem_ready.1 hj
  have hlt : j < ops.size := (Array.getElem?_eq_some_iff.1 ho).1
  have hf : listed.getD j false = false := by
    rcases Nat.lt_or_ge j listed.size with h' | h'
    · simp [h'] at hun ⊢; exact hun
    · omega
  have ht : (listed.setIfInBounds j true).getD j false = true := by
    simp [show j < listed.size by omega]
  unfold cnt at *
  rw [countP_set (fun k => fl k && listed.getD k false) (fun k => fl k && (listed.setIfInBounds j true).getD k false) j (fun k hk => by rw [getD_set_ne false (Ne.symm hk)]) (by rw [hf, Bool.and_false]) ops.size, ← hi]
  simp only [ht, Bool.and_true]
  cases hfj : fl j
  · simp [nx]
  · simp [nx, hlt]
theorem wpAny_of_mix {Q : Nat → Act → Prop} {Q' : Exit → Act → World → Prop} (hl : ∀ j, (lw j).1 ≤ lo md ops fl j ∧ up md ops fl j ≤ (lw j).2) (hQ : ∀ i a w, C i w → Q i a → Q' .normal a w) :
    ∀ (fuel : Nat) (listed : Array Bool) (i : Nat) (a : Act) (w : World), Closed md ops listed → listed.size = ops.size → i = cnt ops fl listed → C i w → wpAnyM P ops md C fl lw Q fuel listed i a → wpAny P md ops Q' fuel listed a w
  | 0, _, _, _, _, _, _, _, hw, h => ⟨h.1, hQ _ _ _ hw h.2⟩
  | fuel + 1, listed, i, _, _, hc, hs, hi, hw, h => ⟨fun h0 => hQ _ _ _ hw (h.1 h0), fun j hj => by
      refine wpOp_of_mOp hw (by rw [hi]; exact ⟨Nat.le_trans (hl j).1 (lo_le hc hj), Nat.le_trans (le_up hc hj hs) (hl j).2⟩) (fun i' a' w' hi' hw' hk => ?_) (h.2 j hj)
      rcases hi' with rfl | hi'
      · exact wpAny_of_mix hl hQ fuel _ _ a' w' (hc.set hj) (by simp [hs]) (cnt_set hj hs i hi) hw' hk
      · obtain ⟨_, o, ho, _⟩ := mem_ready.1 hj
        rw [ho] at hi'; cases hi'⟩
/-- **An operation that may come up now may be taken first.** -/
theorem wpAnyM_first {Q : Nat → Act → Prop} {k : Nat} {ok : Oper} {v : Value} (hk : ops[k]? = some ok) (hsel : ∀ (j : Nat) (o : Oper) cs b, ops[j]? = some o → o.op ≠ .select cs b) :
    ∀ (fuel : Nat) (listed : Array Bool) (i : Nat) (a : Act), Closed md ops listed →
      (∀ j oj, ops[j]? = some oj → j ≠ k → listed.getD j true = false → (∀ e ∈ oj.after, Region.binds md e = true → e.on ≠ k) → ok.apart ops oj = true) →
      (fl k = true → ∀ j oj, ops[j]? = some oj → j ≠ k → listed.getD j true = false → fl j = true → waits md ops k j = true) →
      k ∈ Region.ready md ops listed → Out (P := P) (ops := ops) (C := C) (lw k) (fl k) i ok a v →
      wpAnyM P ops md C fl lw Q fuel (listed.setIfInBounds k true) (nx (fl k) i) (a.put ok.dst v) → wpAnyM P ops md C fl lw Q (fuel + 1) listed i a := by
  intro fuel
  have take : ∀ (fuel : Nat) (listed : Array Bool) (i : Nat) (a : Act), Out (P := P) (ops := ops) (C := C) (lw k) (fl k) i ok a v →
      wpAnyM P ops md C fl lw Q fuel (listed.setIfInBounds k true) (nx (fl k) i) (a.put ok.dst v) →
      mOp P ops C fl lw k (wpAnyM P ops md C fl lw Q fuel (listed.setIfInBounds k true)) i a := fun fuel listed i a hy H => by
    unfold mOp
    simp only [hk]
    exact one_of_out hy H
  induction fuel with
  | zero =>
    intro listed i a _ _ _ hr hy H
    refine ⟨fun h => (by rw [h] at hr; cases hr), fun j hj => ?_⟩
    by_cases hji : j = k
    · subst hji; exact take 0 listed i a hy H
    · have := ready_mono hj hji
      rw [H.1] at this
      cases this
  | succ fuel ih =>
    intro listed i a hcl hfree hwr hr hy H
    refine ⟨fun h => (by rw [h] at hr; cases hr), fun j hj => ?_⟩
    by_cases hji : j = k
    · subst hji; exact take _ listed i a hy H
    · have h1 := H.2 j (ready_mono hj hji)
      obtain ⟨hjun, oj, hoj, hall⟩ := mem_ready.1 hj
      have hkun : listed.getD k false = false := by
        have h0 := (mem_ready.1 hr).1
        rcases Nat.lt_or_ge k listed.size with h' | h'
        · simp [h'] at h0 ⊢; exact h0
        · simp [Array.getElem?_eq_none h'] at h0
      have hnot : ∀ e ∈ oj.after, Region.binds md e = true → e.on ≠ k := fun e he hb heq => by
        have h1 := hall e he hb
        rw [heq, hkun] at h1
        cases h1
      have hap := hfree j oj hoj hji hjun hnot
      obtain ⟨a1, a2, a3⟩ := Oper.apart_spec hap
      -- `j` turns the world only if `k` doesn't
      have hfl : fl k = true → fl j = false := fun hkf => by
        cases hjf : fl j with
        | false => rfl
        | true => exact absurd hj (not_ready_of_waits hcl hkun (hwr hkf j oj hoj hji hjun hjf))
      have hfree' : ∀ m om, ops[m]? = some om → m ≠ k → (listed.setIfInBounds j true).getD m true = false →
          (∀ e ∈ om.after, Region.binds md e = true → e.on ≠ k) → ok.apart ops om = true := fun m om hm hmk hun hno => by
        refine hfree m om hm hmk ?_ hno
        by_cases hjm : j = m
        · subst hjm; exact hjun
        · rw [getD_set_ne true hjm] at hun; exact hun
      have hwr' : fl k = true → ∀ m om, ops[m]? = some om → m ≠ k → (listed.setIfInBounds j true).getD m true = false → fl m = true → waits md ops k m = true := fun hkf m om hm hmk hun hmf => by
        refine hwr hkf m om hm hmk ?_ hmf
        by_cases hjm : j = m
        · subst hjm; exact hjun
        · rw [getD_set_ne true hjm] at hun; exact hun
      unfold mOp at h1 ⊢
      simp only [hoj] at h1 ⊢
      obtain ⟨u, hu, hK⟩ := out_of_one h1
      have hu' : Out (P := P) (ops := ops) (C := C) (lw j) (fl j) i oj a u := by
        have e1 := execOp_put oj (fun cs b => hsel j oj cs b hoj) a ok.dst v a1
        have e2 := wanted_put oj a ok.dst v a1
        have hh := hu.of_same (a' := a) e1.symm e2.symm
        cases hkf : fl k with
        | false => rw [hkf] at hh; exact hh
        | true => rw [hkf, hfl hkf] at hh; rw [hfl hkf]; exact hh.still
      refine one_of_out hu' (ih (listed.setIfInBounds j true) (nx (fl j) i) (a.put oj.dst u) (hcl.set hj) hfree' hwr' (ready_mono hr (Ne.symm hji)) ?_ ?_)
      · have hh := hy.of_same (a' := a.put oj.dst u) (execOp_put ok (fun cs b => hsel k ok cs b hk) a oj.dst u a3) (wanted_put ok a oj.dst u a3)
        cases hkf : fl k with
        | false => rw [hkf] at hh; exact hh.still
        | true => rw [hkf] at hh; rw [hfl hkf]; exact hh
      · rw [Act.put_comm a v u a2] at hK
        have e : nx (fl j) (nx (fl k) i) = nx (fl k) (nx (fl j) i) := by cases fl j <;> cases fl k <;> rfl
        rw [e] at hK
        rw [Array.setIfInBounds_comm _ _ hji]
        exact hK
/-- The turning operations are in one order. -/
def inOrder (md : Region.Mode) (ops : Array Oper) (fl : Nat → Bool) : Bool :=
  (List.range ops.size).all fun k => !fl k || (List.range ops.size).all fun j => decide (j ≤ k) || !fl j || waits md ops k j
theorem inOrder_spec (h : inOrder md ops fl = true) {k j : Nat} (hk : fl k = true) (hj : fl j = true) (hkj : k < j) (hs : j < ops.size) : waits md ops k j = true := by
  unfold inOrder at h
  rw [List.all_eq_true] at h
  have h1 := h k (List.mem_range.2 (by omega))
  rw [hk, Bool.not_true, Bool.false_or, List.all_eq_true] at h1
  have h2 := h1 j (List.mem_range.2 hs)
  rw [decide_eq_false (by omega), hj, Bool.not_true, Bool.false_or, Bool.false_or] at h2
  exact h2
theorem wpAnyM_lex {Q : Nat → Act → Prop} (hs : Region.noSelect ops = true) (ho : inOrder md ops fl = true) : ∀ (l : List Oper) (k : Nat) (listed : Array Bool) (i : Nat) (a : Act), (∀ j, l[j]? = ops[k + j]?) →
    Closed md ops listed → (∀ j, j < k → j < ops.size → listed.getD j true = true) →
    Region.lexFrom md ops l.length k listed = true → wpMix P ops C fl lw Q l k i a → wpAnyM P ops md C fl lw Q l.length listed i a
  | [], _, _, _, _, _, _, _, hB, h => ⟨by simpa [Region.lexFrom] using hB, h⟩
  | o :: l, k, listed, i, a, hl, hc, hd, hB, h => by
    have h0 : ops[k]? = some o := by simpa using (hl 0).symm
    simp only [List.length_cons, Region.lexFrom, Bool.and_eq_true] at hB
    obtain ⟨⟨hr, hf⟩, hB'⟩ := hB
    have hr' : k ∈ Region.ready md ops listed := by simpa using hr
    obtain ⟨v, hy, hK⟩ := out_of_one h
    refine wpAnyM_first h0 (Region.noSelect_spec hs) l.length listed i a hc (Region.free_spec h0 hf) ?_ hr' hy
      (wpAnyM_lex hs ho l (k + 1) _ _ _ (fun j => by have := hl (j + 1); simpa [Nat.add_assoc, Nat.add_comm 1 j] using this) (hc.set hr') ?_ hB' hK)
    · intro hkf j oj hoj hjk hun hjf
      have hlt : j < ops.size := (Array.getElem?_eq_some_iff.1 hoj).1
      have : k < j := by
        rcases Nat.lt_trichotomy j k with h1 | h1 | h1
        · rw [hd j h1 hlt] at hun; cases hun
        · exact absurd h1 hjk
        · exact h1
      exact inOrder_spec ho hkf hjf this hlt
    · intro j hj hlt
      by_cases hjk : k = j
      · subst hjk
        rcases Nat.lt_or_ge k listed.size with h' | h'
        · simp [h']
        · simp [Nat.not_lt.2 h']
      · rw [getD_set_ne true hjk]
        exact hd j (by omega) hlt
/-- **The region**: `fl` tells which operations turn the world, `C` the classes between them. -/
theorem any_mix {Q : Exit → Act → World → Prop} {a : Act} {w : World} {l : List Oper} (C : Nat → World → Prop) (fl : List Nat)
    (hB : (Region.lexB .any l.toArray && inOrder .any l.toArray fl.contains) = true) (hC : C 0 w.drew)
    (h : wpMix P l.toArray C fl.contains (fun k => (lo .any l.toArray fl.contains k, up .any l.toArray fl.contains k)) (fun i a' => ∀ w', C i w' → Q .normal a' w') l 0 0 a) :
    wpAny P .any l.toArray Q l.toArray.size (Array.replicate l.toArray.size false) a { w with drawn := w.drawn + 1 } := by
  simp only [Bool.and_eq_true] at hB
  obtain ⟨hB, ho⟩ := hB
  simp only [Region.lexB, Bool.and_eq_true] at hB
  refine (wpAny_of_mix (C := C) (fl := fl.contains) (lw := fun k => (lo .any l.toArray fl.contains k, up .any l.toArray fl.contains k)) (md := .any) (Q := fun i a' => ∀ w', C i w' → Q .normal a' w') (fun _ => ⟨Nat.le_refl _, Nat.le_refl _⟩) (fun i a w hw h => h w hw) _ _ 0 _ _ (Closed.start _) (by simp) ?_ hC ?_)
  · unfold cnt
    rw [eq_comm, List.countP_eq_zero]
    intro j hj
    have hj' : j < l.length := by simpa using hj
    simp [hj']
  · have := wpAnyM_lex (P := P) (C := C) (md := .any) hB.1 ho l 0 (Array.replicate l.length false) 0 a (by simp) (Closed.start _) (fun j hj => absurd hj (by omega)) (by simpa using hB.2) h
    simpa using this
theorem wp_region_mix {id : Nat} {Q : Exit → Act → World → Prop} {a : Act} {w : World} {l : List Oper} (C : Nat → World → Prop) (fl : List Nat) (hm : P.follows .mixedOrders = true)
    (hB : (Region.lexB .any l.toArray && inOrder .any l.toArray fl.contains) = true) (hC : C 0 w.drew)
    (h : wpMix P l.toArray C fl.contains (fun k => (lo .any l.toArray fl.contains k, up .any l.toArray fl.contains k)) (fun i a' => ∀ w', C i w' → Q .normal a' w') l 0 0 a) : (Code.region id l.toArray true).wp P Q a w :=
  wp_region_any hm (any_mix C fl hB hC h)
theorem mix_nil {Q : Nat → Act → Prop} {k i : Nat} {a : Act} (h : Q i a) : wpMix P ops C fl lw Q [] k i a := h
/-- An operation that leaves the very world, in the phases from `p` to `q`. -/
theorem mix_in (p q : Nat) [Nonempty (Wx C p q)] {Q : Nat → Act → Prop} {k i : Nat} {a : Act} {o : Oper} {l : List Oper} (hf : fl k = false) (hp : (Nat.ble p (lw k).1 && Nat.ble (lw k).2 q) = true)
    (h : ∀ K : Act → Prop, (∀ a, wpMix P ops C fl lw Q l (k + 1) i a → K a) →
      if Region.wanted o (yielded ops a.tmps) then ∃ v, (∀ x : Wx C p q, stillUpon x.1 v ((execOp a.eval o).run P x.1)) ∧ K (a.put o.dst v) else K (a.put o.dst undef)) : wpMix P ops C fl lw Q (o :: l) k i a := by
  have h' := h (fun a => wpMix P ops C fl lw Q l (k + 1) i a) (fun _ h => h)
  show one P ops C (lw k) (fl k) i o (wpMix P ops C fl lw Q l (k + 1)) a
  rw [hf]
  unfold one
  rw [Bool.and_eq_true] at hp
  split
  · rename_i hw
    rw [if_pos hw] at h'
    obtain ⟨v, h1, h2⟩ := h'
    exact ⟨v, fun x => h1 ⟨x.1, x.2.imp fun i hi => ⟨Nat.le_trans (Nat.le_of_ble_eq_true hp.1) hi.1, Nat.le_trans hi.2.1 (Nat.le_of_ble_eq_true hp.2), hi.2.2⟩⟩, h2⟩
  · rename_i hw; rw [if_neg hw] at h'; exact ⟨trivial, h'⟩
/-- An operation that leaves the very world, in all phases from `p` on. -/
theorem mix_from (p : Nat) [Nonempty (Wd C p)] {Q : Nat → Act → Prop} {k i : Nat} {a : Act} {o : Oper} {l : List Oper} (hf : fl k = false) (hp : Nat.ble p (lw k).1 = true)
    (h : ∀ K : Act → Prop, (∀ a, wpMix P ops C fl lw Q l (k + 1) i a → K a) →
      if Region.wanted o (yielded ops a.tmps) then ∃ v, (∀ x : Wd C p, stillUpon x.1 v ((execOp a.eval o).run P x.1)) ∧ K (a.put o.dst v) else K (a.put o.dst undef)) : wpMix P ops C fl lw Q (o :: l) k i a := by
  have h' := h (fun a => wpMix P ops C fl lw Q l (k + 1) i a) (fun _ h => h)
  show one P ops C (lw k) (fl k) i o (wpMix P ops C fl lw Q l (k + 1)) a
  rw [hf]
  unfold one
  split
  · rename_i hw
    rw [if_pos hw] at h'
    obtain ⟨v, h1, h2⟩ := h'
    exact ⟨v, fun x => h1 ⟨x.1, x.2.imp fun i hi => ⟨Nat.le_trans (Nat.le_of_ble_eq_true hp) hi.1, hi.2.2⟩⟩, h2⟩
  · rename_i hw; rw [if_neg hw] at h'; exact ⟨trivial, h'⟩
/-- An operation that leaves the very world, in all phases. -/
theorem mix_still [Nonempty (Wd C 0)] {Q : Nat → Act → Prop} {k i : Nat} {a : Act} {o : Oper} {l : List Oper} (hf : fl k = false)
    (h : ∀ K : Act → Prop, (∀ a, wpMix P ops C fl lw Q l (k + 1) i a → K a) →
      if Region.wanted o (yielded ops a.tmps) then ∃ v, (∀ x : Wd C 0, stillUpon x.1 v ((execOp a.eval o).run P x.1)) ∧ K (a.put o.dst v) else K (a.put o.dst undef)) : wpMix P ops C fl lw Q (o :: l) k i a :=
  mix_from 0 hf rfl h
/-- An operation that turns the world. -/
theorem mix_turn {Q : Nat → Act → Prop} {k i : Nat} {a : Act} {o : Oper} {l : List Oper} (hf : fl k = true)
    (h : ∀ K : Act → Prop, (∀ a, wpMix P ops C fl lw Q l (k + 1) (i + 1) a → K a) →
      if Region.wanted o (yielded ops a.tmps) then ∃ v, (∀ w, C i w → stepUpon P (C (i + 1)) v ((execOp a.eval o).run P w)) ∧ K (a.put o.dst v) else (∀ w, C i w → C (i + 1) w) ∧ K (a.put o.dst undef)) : wpMix P ops C fl lw Q (o :: l) k i a := by
  have h' := h (fun a => wpMix P ops C fl lw Q l (k + 1) (i + 1) a) (fun _ h => h)
  show one P ops C (lw k) (fl k) i o (wpMix P ops C fl lw Q l (k + 1)) a
  rw [hf]
  unfold one
  split
  · rename_i hw; rw [if_pos hw] at h'; exact h'
  · rename_i hw; rw [if_neg hw] at h'; exact h'
end
attribute [go_sem] stillUpon stepUpon
end Go.Proofs.YtkjgnkmnngaioaaGreat.Mix
namespace Go.Proofs.YtkjgnkmnngaioaaGreat.Mix
open Go.RowKit Go.Proofs.YtkjgnkmnngaioaaGreatW.PrintWords
/-- The worlds, by their places. -/
def CL (L : List World) (i : Nat) (w : World) : Prop := L[i]? = some w
end Go.Proofs.YtkjgnkmnngaioaaGreat.Mix
namespace Go.Proofs.YtkjgnkmnngaioaaGreat.Mix
open Go.RowKit Go.Proofs.YtkjgnkmnngaioaaGreat.Mem
set_option linter.unusedVariables false
section
variable {P : Program}
theorem blk_setRow {w : World} {g : Nat} {cs cells : Array Value} {T : TypeId} (h : Blk w g cs T) : Blk (w.setRow g cells) g cells T := setRow_heap w g cs cells T (0, 0) h
theorem but_setRow (w : World) (g : Nat) (cells : Array Value) : But g w (w.setRow g cells) := ⟨rfl, rfl, rfl, by simp [World.setRow], fun k _ hk => setRow_other _ _ _ _ hk⟩
theorem setRow_size (w : World) (g : Nat) (cells : Array Value) : (w.setRow g cells).heap.size = w.heap.size := by simp [World.setRow]
/-- The next operation stores a value of type t: a gate that fails at once elsewhere. -/
theorem at_st {ops : Array Oper} {rest : List Oper} {x y : Operand} {t ty : TypeId} {pos : String} {af : Array Edge} {gd : Option (Tmp × Bool)} {a : Act} {w : World} {Q : Exit → Act → World → Prop}
    (h : wpList P ops Q (⟨none, .store t x y, ty, pos, af, gd⟩ :: rest) a w) : wpList P ops Q (⟨none, .store t x y, ty, pos, af, gd⟩ :: rest) a w := h
theorem wpList_store_blk {ops : Array Oper} {rest : List Oper} {o : Oper} {a : Act} {w : World} {Q : Exit → Act → World → Prop} (hgd : o.guard = none) (ty : TypeId) (x y : Operand) (ho : o.op = .store ty x y)
    (g : Nat) (cells : Array Value) (hx : a.eval x = .pointer (some ⟨g, 0, none⟩)) (hy : a.eval y = .agg cells)
    (T : TypeId) (old : Array Value) (hB : Blk w g old T) (hi : (P.info? ty).map (·.size) = some cells.size)
    (hold : old.size = cells.size) (h1 : cells.all (·.oneCell') = true)
    (h : ∀ W, Blk W g cells T → But g w W → W.heap.size = w.heap.size → wpList P ops Q rest (a.put o.dst undef) W) : wpList P ops Q (o :: rest) a w :=
  wpList_store_row hgd ty x y ho g cells hx hy T old hB hi hold h1 (h _ (blk_setRow hB) (but_setRow w g cells) (setRow_size w g cells))
theorem mix_store {ops : Array Oper} {C : Nat → World → Prop} {fl : Nat → Bool} {lw : Nat → Nat × Nat} {Q : Nat → Act → Prop} {k i : Nat} {a : Act} {o : Oper} {l : List Oper}
    (hf : fl k = true) (hgd : o.guard = none) (ty : TypeId) (x y : Operand) (ho : o.op = .store ty x y)
    (g : Nat) (cells : Array Value) (hx : a.eval x = .pointer (some ⟨g, 0, none⟩)) (hy : a.eval y = .agg cells)
    (hi : (P.info? ty).map (·.size) = some cells.size) (h1 : cells.all (·.oneCell') = true)
    (hC : ∀ w, C i w → ∃ T old, Blk w g old T ∧ old.size = cells.size ∧ C (i + 1) (w.setRow g cells))
    (h : wpMix P ops C fl lw Q l (k + 1) (i + 1) (a.put o.dst undef)) : wpMix P ops C fl lw Q (o :: l) k i a := by
  refine mix_turn hf (fun K hK => ?_)
  have hw : Region.wanted o (yielded ops a.tmps) = true := by simp [Region.wanted, hgd]
  rw [if_pos hw]
  refine ⟨undef, fun w hw_ => ?_, hK _ h⟩
  obtain ⟨T, old, hB, hs, hc⟩ := hC w hw_
  unfold execOp
  simp only [ho, hx, hy, Instr.storeAt, Instr.sureAddr, Sem.run_bind, Sem.run_pure, Result.andThen_ok, run_storeVar_row w g T ty old cells hB hi hs h1]
  exact ⟨rfl, hc⟩
end
end Go.Proofs.YtkjgnkmnngaioaaGreat.Mix
