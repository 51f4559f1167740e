/- What the proof of treeMay_holds needs, of the texts that this work has written and of the words that the kit's print lends. -/
import Derived.Test.YtkjgnkmnngaioaaGreatZda
import Derived.Below
import Derived.Deep.Draws
import Derived.Lib.Hide
import Derived.Still
import Derived.Tactics2
import Derived.Maps.AppendAt
import Derived.Laws.Tables
import Derived.Laws.CopyRow
import Derived.Test.YtkjgnkmnngaioaaGreatProg
import Derived.Lib.SliceRun
import Derived.IntWalk
import Derived.WalkSpells
import Derived.Laws.IdiomStrings
import Derived.Lib.Bytealg
import Derived.BigQuiet
import Derived.Deep.QuietTactic
import Derived.StillTailTactics
import Derived.Deep.DeepCutAuto
import Derived.Deep.CutBlock
import Derived.Lib.SlBytesRow
import Derived.WalkKit
import Derived.Defers
import Derived.Laws.Pointers
import Derived.Laws.LoneSync
import Derived.RegionTactic
import Derived.RegionCalls
import Derived.KernelRfl
namespace Go.Proofs.YtkjgnkmnngaioaaGreat.Mem
open Go.RowKit
/-- Block `b` is cells, not frozen. -/
def Blk (w : World) (b : Nat) (cs : Array Value) (T : TypeId) : Prop := w.heap[b]? = some (.cells cs T (0, 0))
theorem Blk.cell {w : World} {b : Nat} {cs : Array Value} {T : TypeId} (h : Blk w b cs T) (i : Nat) : w.cell? ⟨b, i, none⟩ = cs[i]? := by
  unfold Blk at h; simp [World.cell?, h]
theorem Blk.free {w : World} {b : Nat} {cs : Array Value} {T : TypeId} (h : Blk w b cs T) (i : Nat) : w.frozen? ⟨b, i, none⟩ = false := by
  unfold Blk at h; simp [World.frozen?, h]
theorem Blk.set {w : World} {b : Nat} {cs : Array Value} {T : TypeId} (h : Blk w b cs T) (i : Nat) (v : Value) : Blk (w.setCell ⟨b, i, none⟩ v) b (cs.setIfInBounds i v) T := by
  unfold Blk at *; simp [World.setCell, Array.getElem?_modify, h]
theorem Blk.lt {w : World} {b : Nat} {cs : Array Value} {T : TypeId} (h : Blk w b cs T) : b < w.heap.size := by
  unfold Blk at h
  by_cases hb : b < w.heap.size
  · exact hb
  · rw [Array.getElem?_eq_none (by omega)] at h; simp at h
theorem Blk.of_block {w w' : World} {b : Nat} {cs : Array Value} {T : TypeId} (h : Blk w b cs T) (k : w'.heap[b]? = w.heap[b]?) : Blk w' b cs T := k.trans h
theorem Blk.drew {w : World} {b : Nat} {cs : Array Value} {T : TypeId} (h : Blk w b cs T) : Blk w.drew b cs T := h
theorem Blk.below {w w' : World} {b B : Nat} {cs : Array Value} {T : TypeId} (h : Blk w b cs T) (k : Below B w w') (hb : b < B) : Blk w' b cs T := (k.block b hb).trans h
theorem Blk.alloc (w : World) (cs : Array Value) (T : TypeId) : Blk (w.alloc (.cells cs T)) w.heap.size cs T := by
  unfold Blk
  show (w.heap.push _)[w.heap.size]? = _
  simp
theorem Blk.alloc_at (w : World) {b : Nat} (cs : Array Value) (T : TypeId) (h : b = w.heap.size) : Blk (w.alloc (.cells cs T)) b cs T := h ▸ Blk.alloc w cs T
theorem Blk.alloc_old {w : World} {b : Nat} {cs : Array Value} {T : TypeId} (h : Blk w b cs T) (o : Obj) : Blk (w.alloc o) b cs T :=
  (Below.heap_alloc w o b h.lt).trans h
theorem Blk.setCell_other {w : World} {b : Nat} {cs : Array Value} {T : TypeId} (h : Blk w b cs T) {a : Addr} (v : Value) (hn : b ≠ a.block) : Blk (w.setCell a v) b cs T :=
  (Below.heap_setCell w a v b hn).trans h
/-- `w'` is as_ `w` was, but for block `b` and new ones. -/
structure But (b : Nat) (w w' : World) : Prop where
  os : w'.os = w.os
  tape : w'.tape = w.tape
  output : w'.output = w.output
  size : w.heap.size ≤ w'.heap.size
  block : ∀ k, k < w.heap.size → k ≠ b → w'.heap[k]? = w.heap[k]?
theorem But.refl (b : Nat) (w : World) : But b w w := ⟨rfl, rfl, rfl, Nat.le_refl _, fun _ _ _ => rfl⟩
theorem But.trans {b : Nat} {x y z : World} (h : But b x y) (k : But b y z) : But b x z :=
  ⟨k.os.trans h.os, k.tape.trans h.tape, k.output.trans h.output, Nat.le_trans h.size k.size, fun i hi e => (k.block i (Nat.lt_of_lt_of_le hi h.size) e).trans (h.block i hi e)⟩
theorem But.setCell {b : Nat} {x w : World} (h : But b x w) (i : Nat) (v : Value) : But b x (w.setCell ⟨b, i, none⟩ v) :=
  h.trans ⟨rfl, rfl, rfl, by simp [World.setCell], fun k _ e => Below.heap_setCell _ _ _ _ e⟩
theorem But.drewN {b : Nat} {x w : World} (h : But b x w) (n : Nat) : But b x (w.drewN n) :=
  h.trans ⟨rfl, rfl, rfl, Nat.le_refl _, fun _ _ _ => rfl⟩
theorem But.below {b B : Nat} {w w' : World} (h : But b w w') (hB : B ≤ b) (hs : B ≤ w.heap.size) : Below B w w' :=
  ⟨h.os, h.tape, h.output, h.size, fun k hk => h.block k (by omega) (by omega)⟩
theorem But.blk {b c : Nat} {w w' : World} (h : But b w w') {cs : Array Value} {T : TypeId} (hb : Blk w c cs T) (hn : c ≠ b) : Blk w' c cs T :=
  hb.of_block (h.block c hb.lt hn)
theorem But.of_below {b : Nat} {w w' : World} (h : Below w.heap.size w w') : But b w w' := ⟨h.os, h.tape, h.output, h.size, fun k hk _ => h.block k hk⟩
/-- A row of so many cells that are known. -/
def Arr (w : World) (a : Option Addr) (m : Nat) (cs : Nat → Value) : Prop := m = 0 ∨ ∃ b o, a = some ⟨b, o, none⟩ ∧ b < w.heap.size ∧ ∀ j, j < m → w.cell? ⟨b, o + j, none⟩ = some (cs j)
theorem lt_of_cell {w : World} {b o : Nat} {v : Value} (h : w.cell? ⟨b, o, none⟩ = some v) : b < w.heap.size := by
  rcases Nat.lt_or_ge b w.heap.size with h1 | h1
  · exact h1
  · simp [World.cell?, Array.getElem?_eq_none h1] at h
theorem below_drewN {B : Nat} {a w : World} (h : Below B a w) (n : Nat) : Below B a (w.drewN n) := h.trans ⟨rfl, rfl, rfl, Nat.le_refl _, fun _ _ => rfl⟩
end Go.Proofs.YtkjgnkmnngaioaaGreat.Mem
namespace Go.Proofs.YtkjgnkmnngaioaaGreat.Mix
/-- A world of one of the classes, from a phase on. -/
def Wd (C : Nat → World → Prop) (p : Nat) : Type := { w : World // ∃ i, p ≤ i ∧ C i w }
/-- A world of one of the classes, between two phases. -/
def Wx (C : Nat → World → Prop) (p q : Nat) : Type := { w : World // ∃ i, p ≤ i ∧ i ≤ q ∧ C i w }
/-- `i` comes ahead of `j`, at once or through others. -/
inductive Reach (md : Region.Mode) (ops : Array Oper) (i : Nat) : Nat → Prop
  | one {j : Nat} {o : Oper} {e : Edge} : ops[j]? = some o → e ∈ o.after → Region.binds md e = true → e.on = i → Reach md ops i j
  | more {j : Nat} {o : Oper} {e : Edge} : ops[j]? = some o → e ∈ o.after → Region.binds md e = true → Reach md ops i e.on → Reach md ops i j
/-- What comes ahead of an operation, as_ bits; `acc`: of those ahead of it in the text. -/
def mask (md : Region.Mode) (acc : List Nat) (o : Oper) : Nat := o.after.toList.foldl (fun s e => if Region.binds md e then (s ||| 2 ^ e.on) ||| acc.getD e.on 0 else s) 0
def masks (md : Region.Mode) : List Oper → List Nat → List Nat
  | [], acc => acc
  | o :: l, acc => masks md l (acc ++ [mask md acc o])
def waits (md : Region.Mode) (ops : Array Oper) (i j : Nat) : Bool := ((masks md ops.toList []).getD j 0).testBit i
/-- How many of the turning operations come ahead of `j`. -/
def lo (md : Region.Mode) (ops : Array Oper) (fl : Nat → Bool) (j : Nat) : Nat := (List.range ops.size).countP fun i => fl i && waits md ops i j
/-- How many of the turning operations don't wait for `j`. -/
def up (md : Region.Mode) (ops : Array Oper) (fl : Nat → Bool) (j : Nat) : Nat := (List.range ops.size).countP fun i => fl i && !waits md ops j i
section
variable (P : Program) (ops : Array Oper) (md : Region.Mode) (C : Nat → World → Prop) (fl : Nat → Bool) (lw : Nat → Nat × Nat)
/-- What an operation that leaves the very world must come to. -/
def stillUpon (w : World) (v : Value) : Result Next → Prop
  | .ok (.value u) w' => w' = w ∧ u = v
  | .ok .skip w' => w' = w ∧ undef = v
  | _ => False
/-- What an operation that turns the world must come to: a value, and a world of a class. -/
def stepUpon (D : World → Prop) (v : Value) : Result Next → Prop
  | .ok (.value u) w' => u = v ∧ D w'
  | .ok .skip w' => undef = v ∧ D w'
  | .ok (.enter f args) w' => Calls P f args w' (fun e w'' => e = .returned v ∧ D w'')
  | _ => False
/-- Operation `o`, of kind `b`, in phase `i`, frame `a`, yields `v`. -/
def Yl (p : Nat × Nat) (b : Bool) (i : Nat) (o : Oper) (a : Act) (v : Value) : Prop :=
  match b with
  | false => ∀ x : Wx C p.1 p.2, stillUpon x.1 v ((execOp a.eval o).run P x.1)
  | true => ∀ w, C i w → stepUpon P (C (i + 1)) v ((execOp a.eval o).run P w)
def nx (b : Bool) (i : Nat) : Nat := match b with | true => i + 1 | false => i
/-- An operation that is passed over. -/
def Sk (b : Bool) (i : Nat) : Prop := match b with | true => ∀ w, C i w → C (i + 1) w | false => True
def one (p : Nat × Nat) (b : Bool) (i : Nat) (o : Oper) (K : Nat → Act → Prop) (a : Act) : Prop :=
  if Region.wanted o (yielded ops a.tmps) then ∃ v, Yl P C p b i o a v ∧ K (nx b i) (a.put o.dst v) else Sk C b i ∧ K (nx b i) (a.put o.dst undef)
/-- The walk in the order of the text. -/
def wpMix (Q : Nat → Act → Prop) : List Oper → Nat → Nat → Act → Prop
  | [], _, i, a => Q i a
  | o :: l, k, i, a => one P ops C (lw k) (fl k) i o (wpMix Q l (k + 1)) a
def mOp (j : Nat) (K : Nat → Act → Prop) (i : Nat) (a : Act) : Prop :=
  match ops[j]? with
  | none => K i a
  | some o => one P ops C (lw j) (fl j) i o K a
def wpAnyM (Q : Nat → Act → Prop) : Nat → Array Bool → Nat → Act → Prop
  | 0, listed, i, a => Region.ready md ops listed = [] ∧ Q i a
  | fuel + 1, listed, i, a =>
    (Region.ready md ops listed = [] → Q i a) ∧
    ∀ j ∈ Region.ready md ops listed, mOp P ops C fl lw j (wpAnyM Q fuel (listed.setIfInBounds j true)) i a
end
section
variable {P : Program} {ops : Array Oper} {md : Region.Mode} {C : Nat → World → Prop} {fl : Nat → Bool} {lw : Nat → Nat × Nat}
/-- It is a 'wpAny', from every world of the phase. -/
theorem wpOp_of_mOp {Q' : Exit → Act → World → Prop} {j i : Nat} {a : Act} {K : Nat → Act → Prop} {K' : Act → World → Prop} {w : World} (hw : C i w) (hp : (lw j).1 ≤ i ∧ i ≤ (lw j).2)
    (h : ∀ i' a w, i' = nx (fl j) i ∨ ops[j]? = none → C i' w → K i' a → K' a w) (hh : mOp P ops C fl lw j K i a) : wpOp P ops Q' j K' a w := by
  unfold mOp at hh
  unfold wpOp
  cases ho : ops[j]? with
  | none => simp only [ho] at hh; exact h _ _ _ (.inr ho) hw hh
  | some o =>
    simp only [ho] at hh
    unfold one at hh
    simp only []
    split
    · rename_i hwant
      simp only [hwant, if_true] at hh
      refine .inl ?_
      obtain ⟨v, hy, hk⟩ := hh
      unfold Oper.wp
      cases hb : fl j with
      | false =>
        rw [hb] at hy hk
        have h3 := hy ⟨w, i, hp.1, hp.2, hw⟩
        simp only [] at h3
        generalize (execOp a.eval o).run P w = r at *
        cases r with
        | ok n w' =>
          cases n <;> simp only [stillUpon] at h3 <;> simp only [Oper.upon]
          case value u => obtain ⟨e1, e2⟩ := h3; rw [e1, e2]; exact h _ _ _ (.inl (by rw [hb]; rfl)) hw hk
          case skip => obtain ⟨e1, e2⟩ := h3; rw [e1, e2]; exact h _ _ _ (.inl (by rw [hb]; rfl)) hw hk
        | halt x w' => simp only [stillUpon] at h3
      | true =>
        rw [hb] at hy hk
        have h3 := hy w hw
        generalize (execOp a.eval o).run P w = r at *
        cases r with
        | ok n w' =>
          cases n <;> simp only [stepUpon] at h3 <;> simp only [Oper.upon]
          case value u => obtain ⟨e1, e2⟩ := h3; rw [e1]; exact h _ _ _ (.inl (by rw [hb]; rfl)) e2 hk
          case skip => obtain ⟨e1, e2⟩ := h3; rw [e1]; exact h _ _ _ (.inl (by rw [hb]; rfl)) e2 hk
          case enter f args => exact h3.mono fun e w'' ⟨he, hw''⟩ => by subst he; exact h _ _ _ (.inl (by rw [hb]; rfl)) hw'' hk
        | halt x w' => simp only [stepUpon] at h3
    · rename_i hwant
      simp only [hwant] at hh
      cases hb : fl j with
      | false => rw [hb] at hh; exact h _ _ _ (.inl (by rw [hb]; rfl)) hw hh.2
      | true => rw [hb] at hh; exact h _ _ _ (.inl (by rw [hb]; rfl)) (hh.1 w hw) hh.2
/-- What one operation yields, wanted or passed over. -/
def Out (p : Nat × Nat) (b : Bool) (i : Nat) (o : Oper) (a : Act) (v : Value) : Prop :=
  (Region.wanted o (yielded ops a.tmps) = true ∧ Yl P C p b i o a v) ∨ (Region.wanted o (yielded ops a.tmps) = false ∧ Sk C b i ∧ v = undef)
theorem out_of_one {p : Nat × Nat} {b : Bool} {i : Nat} {o : Oper} {a : Act} {K : Nat → Act → Prop} (h : one P ops C p b i o K a) : ∃ v, Out (P := P) (ops := ops) (C := C) p b i o a v ∧ K (nx b i) (a.put o.dst v) := by
  unfold one at h
  by_cases hw : Region.wanted o (yielded ops a.tmps) = true
  · simp only [hw, if_true] at h
    obtain ⟨v, h1, h2⟩ := h
    exact ⟨v, .inl ⟨hw, h1⟩, h2⟩
  · simp only [hw] at h
    exact ⟨undef, .inr ⟨by simpa using hw, h.1, rfl⟩, h.2⟩
theorem one_of_out {p : Nat × Nat} {b : Bool} {i : Nat} {o : Oper} {a : Act} {v : Value} {K : Nat → Act → Prop} (h : Out (P := P) (ops := ops) (C := C) p b i o a v) (hk : K (nx b i) (a.put o.dst v)) : one P ops C p b i o K a := by
  unfold one
  rcases h with ⟨h1, h2⟩ | ⟨h1, h2, rfl⟩
  · simp only [h1, if_true]; exact ⟨v, h2, hk⟩
  · simp only [h1, Bool.false_eq_true, if_false]; exact ⟨h2, hk⟩
theorem Out.of_same {p : Nat × Nat} {b : Bool} {i : Nat} {o : Oper} {a a' : Act} {v : Value} (hy : Out (P := P) (ops := ops) (C := C) p b i o a v) (he : execOp a'.eval o = execOp a.eval o)
    (hw : Region.wanted o (yielded ops a'.tmps) = Region.wanted o (yielded ops a.tmps)) : Out (P := P) (ops := ops) (C := C) p b i o a' v := by
  unfold Out Yl at *
  rw [he, hw]
  exact hy
theorem Out.still {p : Nat × Nat} {i i' : Nat} {o : Oper} {a : Act} {v : Value} (h : Out (P := P) (ops := ops) (C := C) p false i o a v) : Out (P := P) (ops := ops) (C := C) p false i' o a v := h
theorem mask_reach {acc : List Nat} (hacc : ∀ j i, (acc.getD j 0).testBit i = true → Reach md ops i j) {k : Nat} {o : Oper} (ho : ops[k]? = some o) {i : Nat} (h : (mask md acc o).testBit i = true) : Reach md ops i k := by
  unfold mask at h
  have key : ∀ (l : List Edge) (s : Nat), (∀ e ∈ l, e ∈ o.after) → (l.foldl (fun s e => if Region.binds md e then (s ||| 2 ^ e.on) ||| acc.getD e.on 0 else s) s).testBit i = true → s.testBit i = true ∨ Reach md ops i k := by
    intro l
    induction l with
    | nil => intro s _ h; exact .inl h
    | cons e l ih =>
      intro s hl h
      simp only [List.foldl_cons] at h
      rcases ih _ (fun e he => hl e (List.mem_cons_of_mem _ he)) h with h1 | h1
      · have hm := hl e List.mem_cons_self
        by_cases hb : Region.binds md e = true
        · rw [if_pos hb, Nat.testBit_or, Nat.testBit_or, Bool.or_eq_true, Bool.or_eq_true] at h1
          rcases h1 with (h1 | h1) | h1
          · exact .inl h1
          · rw [Nat.testBit_two_pow] at h1
            exact .inr (.one ho hm hb (by simpa using h1))
          · exact .inr (.more ho hm hb (hacc _ _ h1))
        · rw [if_neg hb] at h1; exact .inl h1
      · exact .inr h1
  rcases key o.after.toList 0 (fun e he => Array.mem_toList_iff.1 he) h with h1 | h1
  · simp at h1
  · exact h1
theorem masks_reach : ∀ (l : List Oper) (acc : List Nat), (∀ j, l[j]? = ops[acc.length + j]?) → (∀ j i, (acc.getD j 0).testBit i = true → Reach md ops i j) →
    ∀ j i, ((masks md l acc).getD j 0).testBit i = true → Reach md ops i j
  | [], _, _, hacc => hacc
  | o :: l, acc, hl, hacc => by
    refine masks_reach l (acc ++ [mask md acc o]) (fun j => by have := hl (j + 1); simpa [Nat.add_assoc, Nat.add_comm 1 j] using this) (fun j i h => ?_)
    rcases Nat.lt_trichotomy j acc.length with hj | hj | hj
    · rw [List.getD_eq_getElem?_getD, List.getElem?_append_left hj, ← List.getD_eq_getElem?_getD] at h; exact hacc j i h
    · subst hj
      have h0 : ops[acc.length]? = some o := by simpa using (hl 0).symm
      simp at h
      exact mask_reach hacc h0 h
    · rw [List.getD_eq_getElem?_getD, List.getElem?_eq_none (by simp; omega)] at h; simp at h
theorem reach_of_waits {i j : Nat} (h : waits md ops i j = true) : Reach md ops i j :=
  masks_reach ops.toList [] (by simp) (by simp) j i h
/-- What is listed, its predecessors are. -/
def Closed (md : Region.Mode) (ops : Array Oper) (listed : Array Bool) : Prop :=
  ∀ j o, ops[j]? = some o → listed.getD j false = true → ∀ e ∈ o.after, Region.binds md e = true → listed.getD e.on false = true
theorem Closed.reach {listed : Array Bool} (h : Closed md ops listed) {i j : Nat} (hr : Reach md ops i j) (hj : listed.getD j false = true) : listed.getD i false = true := by
  induction hr with
  | one ho he hb hi => rw [← hi]; exact h _ _ ho hj _ he hb
  | more ho he hb _ ih => exact ih (h _ _ ho hj _ he hb)
theorem ready_reach {listed : Array Bool} (h : Closed md ops listed) {i j : Nat} (hr : Reach md ops i j) (hj : j ∈ Region.ready md ops listed) : listed.getD i false = true := by
  obtain ⟨_, o, ho, hall⟩ := mem_ready.1 hj
  cases hr with
  | one ho' he hb hi => rw [ho] at ho'; cases ho'; rw [← hi]; exact hall _ he hb
  | more ho' he hb hm => rw [ho] at ho'; cases ho'; exact h.reach hm (hall _ he hb)
theorem Closed.set {listed : Array Bool} (h : Closed md ops listed) {j : Nat} (hj : j ∈ Region.ready md ops listed) : Closed md ops (listed.setIfInBounds j true) := by
  intro k o ho hk e he hb
  by_cases hkj : j = k
  · subst hkj
    obtain ⟨_, o', ho', hall⟩ := mem_ready.1 hj
    rw [ho] at ho'
    cases ho'
    exact getD_set_true (hall e he hb)
  · rw [getD_set_ne false hkj] at hk
    exact getD_set_true (h k o ho hk e he hb)
theorem Closed.start (n : Nat) : Closed md ops (Array.replicate n false) := by
  intro j o _ hl
  rcases Nat.lt_or_ge j n with h | h
  · simp [h] at hl
  · simp [Nat.not_lt.2 h] at hl
theorem not_ready_of_waits {listed : Array Bool} (h : Closed md ops listed) {i : Nat} (hi : listed.getD i false = false) {j : Nat} (hw : waits md ops i j = true) : j ∉ Region.ready md ops listed := by
  intro hj
  have := ready_reach h (reach_of_waits hw) hj
  rw [hi] at this
  cases this
/-- How many turning operations are listed. -/
def cnt (ops : Array Oper) (fl : Nat → Bool) (listed : Array Bool) : Nat := (List.range ops.size).countP fun j => fl j && listed.getD j false
theorem lo_le {listed : Array Bool} (h : Closed md ops listed) {j : Nat} (hj : j ∈ Region.ready md ops listed) : lo md ops fl j ≤ cnt ops fl listed := by
  unfold lo cnt
  refine List.countP_mono_left fun i _ hi => ?_
  simp only [Bool.and_eq_true] at hi ⊢
  exact ⟨hi.1, ready_reach h (reach_of_waits hi.2) hj⟩
theorem le_up {listed : Array Bool} (h : Closed md ops listed) {j : Nat} (hj : j ∈ Region.ready md ops listed) (hs : listed.size = ops.size) : cnt ops fl listed ≤ up md ops fl j := by
  unfold up cnt
  refine List.countP_mono_left fun i _ hi => ?_
  simp only [Bool.and_eq_true, Bool.not_eq_true'] at hi ⊢
  refine ⟨hi.1, ?_⟩
  cases hw : waits md ops j i with
  | false => rfl
  | true =>
    have h1 := h.reach (reach_of_waits hw) hi.2
    obtain ⟨hun, o, ho, _⟩ := mem_ready.1 hj
    have hlt : j < listed.size := by rw [hs]; exact (Array.getElem?_eq_some_iff.1 ho).1
    simp [hlt] at hun h1
    rw [hun] at h1
    cases h1
theorem countP_set (p q : Nat → Bool) (k : Nat) (hq : ∀ j, j ≠ k → q j = p j) (hpk : p k = false) : ∀ (n : Nat), (List.range n).countP q = (List.range n).countP p + (if k < n ∧ q k = true then 1 else 0)
  | 0 => by simp
  | n + 1 => by
    rw [List.range_succ, List.countP_append, List.countP_append, countP_set p q k hq hpk n]
    simp only [List.countP_singleton]
    by_cases hn : n = k
    · subst hn
      rw [hpk]
      cases q n <;> simp
    · rw [hq n hn]
      have e : (k < n + 1 ∧ q k = true) ↔ (k < n ∧ q k = true) := ⟨fun h => ⟨by omega, h.2⟩, fun h => ⟨by omega, h.2⟩⟩
      simp only [e]
      omega
theorem cnt_set {listed : Array Bool} {j : Nat} (hj : j ∈ Region.ready md ops listed) (hs : listed.size = ops.size) (i : Nat) (hi : i = cnt ops fl listed) : nx (fl j) i = cnt ops fl (listed.setIfInBounds j true) := by
  obtain ⟨hun, o, ho, _⟩ := mem_ready.1 hj
  have hlt : j < ops.size := (Array.getElem?_eq_some_iff.1 ho).1
  have hf : listed.getD j false = false := by
    rcases Nat.lt_or_ge j listed.size with h' | h'
    · simp [h'] at hun ⊢; exact hun
    · omega
  have ht : (listed.setIfInBounds j true).getD j false = true := by
    simp [show j < listed.size by omega]
  unfold cnt at *
  rw [countP_set (fun k => fl k && listed.getD k false) (fun k => fl k && (listed.setIfInBounds j true).getD k false) j (fun k hk => by rw [getD_set_ne false (Ne.symm hk)]) (by rw [hf, Bool.and_false]) ops.size, ← hi]
  simp only [ht, Bool.and_true]
  cases hfj : fl j
  · simp [nx]
  · simp [nx, hlt]
theorem wpAny_of_mix {Q : Nat → Act → Prop} {Q' : Exit → Act → World → Prop} (hl : ∀ j, (lw j).1 ≤ lo md ops fl j ∧ up md ops fl j ≤ (lw j).2) (hQ : ∀ i a w, C i w → Q i a → Q' .normal a w) :
    ∀ (fuel : Nat) (listed : Array Bool) (i : Nat) (a : Act) (w : World), Closed md ops listed → listed.size = ops.size → i = cnt ops fl listed → C i w → wpAnyM P ops md C fl lw Q fuel listed i a → wpAny P md ops Q' fuel listed a w
  | 0, _, _, _, _, _, _, _, hw, h => ⟨h.1, hQ _ _ _ hw h.2⟩
  | fuel + 1, listed, i, _, _, hc, hs, hi, hw, h => ⟨fun h0 => hQ _ _ _ hw (h.1 h0), fun j hj => by
      refine wpOp_of_mOp hw (by rw [hi]; exact ⟨Nat.le_trans (hl j).1 (lo_le hc hj), Nat.le_trans (le_up hc hj hs) (hl j).2⟩) (fun i' a' w' hi' hw' hk => ?_) (h.2 j hj)
      rcases hi' with rfl | hi'
      · exact wpAny_of_mix hl hQ fuel _ _ a' w' (hc.set hj) (by simp [hs]) (cnt_set hj hs i hi) hw' hk
      · obtain ⟨_, o, ho, _⟩ := mem_ready.1 hj
        rw [ho] at hi'; cases hi'⟩
/-- **An operation that may come up now may be taken first.** -/
theorem wpAnyM_first {Q : Nat → Act → Prop} {k : Nat} {ok : Oper} {v : Value} (hk : ops[k]? = some ok) (hsel : ∀ (j : Nat) (o : Oper) cs b, ops[j]? = some o → o.op ≠ .select cs b) :
    ∀ (fuel : Nat) (listed : Array Bool) (i : Nat) (a : Act), Closed md ops listed →
      (∀ j oj, ops[j]? = some oj → j ≠ k → listed.getD j true = false → (∀ e ∈ oj.after, Region.binds md e = true → e.on ≠ k) → ok.apart ops oj = true) →
      (fl k = true → ∀ j oj, ops[j]? = some oj → j ≠ k → listed.getD j true = false → fl j = true → waits md ops k j = true) →
      k ∈ Region.ready md ops listed → Out (P := P) (ops := ops) (C := C) (lw k) (fl k) i ok a v →
      wpAnyM P ops md C fl lw Q fuel (listed.setIfInBounds k true) (nx (fl k) i) (a.put ok.dst v) → wpAnyM P ops md C fl lw Q (fuel + 1) listed i a := by
  intro fuel
  have take : ∀ (fuel : Nat) (listed : Array Bool) (i : Nat) (a : Act), Out (P := P) (ops := ops) (C := C) (lw k) (fl k) i ok a v →
      wpAnyM P ops md C fl lw Q fuel (listed.setIfInBounds k true) (nx (fl k) i) (a.put ok.dst v) →
      mOp P ops C fl lw k (wpAnyM P ops md C fl lw Q fuel (listed.setIfInBounds k true)) i a := fun fuel listed i a hy H => by
    unfold mOp
    simp only [hk]
    exact one_of_out hy H
  induction fuel with
  | zero =>
    intro listed i a _ _ _ hr hy H
    refine ⟨fun h => (by rw [h] at hr; cases hr), fun j hj => ?_⟩
    by_cases hji : j = k
    · subst hji; exact take 0 listed i a hy H
    · have := ready_mono hj hji
      rw [H.1] at this
      cases this
  | succ fuel ih =>
    intro listed i a hcl hfree hwr hr hy H
    refine ⟨fun h => (by rw [h] at hr; cases hr), fun j hj => ?_⟩
    by_cases hji : j = k
    · subst hji; exact take _ listed i a hy H
    · have h1 := H.2 j (ready_mono hj hji)
      obtain ⟨hjun, oj, hoj, hall⟩ := mem_ready.1 hj
      have hkun : listed.getD k false = false := by
        have h0 := (mem_ready.1 hr).1
        rcases Nat.lt_or_ge k listed.size with h' | h'
        · simp [h'] at h0 ⊢; exact h0
        · simp [Array.getElem?_eq_none h'] at h0
      have hnot : ∀ e ∈ oj.after, Region.binds md e = true → e.on ≠ k := fun e he hb heq => by
        have h1 := hall e he hb
        rw [heq, hkun] at h1
        cases h1
      have hap := hfree j oj hoj hji hjun hnot
      obtain ⟨a1, a2, a3⟩ := Oper.apart_spec hap
      -- `j` turns the world only if `k` doesn't
      have hfl : fl k = true → fl j = false := fun hkf => by
        cases hjf : fl j with
        | false => rfl
        | true => exact absurd hj (not_ready_of_waits hcl hkun (hwr hkf j oj hoj hji hjun hjf))
      have hfree' : ∀ m om, ops[m]? = some om → m ≠ k → (listed.setIfInBounds j true).getD m true = false →
          (∀ e ∈ om.after, Region.binds md e = true → e.on ≠ k) → ok.apart ops om = true := fun m om hm hmk hun hno => by
        refine hfree m om hm hmk ?_ hno
        by_cases hjm : j = m
        · subst hjm; exact hjun
        · rw [getD_set_ne true hjm] at hun; exact hun
      have hwr' : fl k = true → ∀ m om, ops[m]? = some om → m ≠ k → (listed.setIfInBounds j true).getD m true = false → fl m = true → waits md ops k m = true := fun hkf m om hm hmk hun hmf => by
        refine hwr hkf m om hm hmk ?_ hmf
        by_cases hjm : j = m
        · subst hjm; exact hjun
        · rw [getD_set_ne true hjm] at hun; exact hun
      unfold mOp at h1 ⊢
      simp only [hoj] at h1 ⊢
      obtain ⟨u, hu, hK⟩ := out_of_one h1
      have hu' : Out (P := P) (ops := ops) (C := C) (lw j) (fl j) i oj a u := by
        have e1 := execOp_put oj (fun cs b => hsel j oj cs b hoj) a ok.dst v a1
        have e2 := wanted_put oj a ok.dst v a1
        have hh := hu.of_same (a' := a) e1.symm e2.symm
        cases hkf : fl k with
        | false => rw [hkf] at hh; exact hh
        | true => rw [hkf, hfl hkf] at hh; rw [hfl hkf]; exact hh.still
      refine one_of_out hu' (ih (listed.setIfInBounds j true) (nx (fl j) i) (a.put oj.dst u) (hcl.set hj) hfree' hwr' (ready_mono hr (Ne.symm hji)) ?_ ?_)
      · have hh := hy.of_same (a' := a.put oj.dst u) (execOp_put ok (fun cs b => hsel k ok cs b hk) a oj.dst u a3) (wanted_put ok a oj.dst u a3)
        cases hkf : fl k with
        | false => rw [hkf] at hh; exact hh.still
        | true => rw [hkf] at hh; rw [hfl hkf]; exact hh
      · rw [Act.put_comm a v u a2] at hK
        have e : nx (fl j) (nx (fl k) i) = nx (fl k) (nx (fl j) i) := by cases fl j <;> cases fl k <;> rfl
        rw [e] at hK
        rw [Array.setIfInBounds_comm _ _ hji]
        exact hK
/-- The turning operations are in one order. -/
def inOrder (md : Region.Mode) (ops : Array Oper) (fl : Nat → Bool) : Bool :=
  (List.range ops.size).all fun k => !fl k || (List.range ops.size).all fun j => decide (j ≤ k) || !fl j || waits md ops k j
theorem inOrder_spec (h : inOrder md ops fl = true) {k j : Nat} (hk : fl k = true) (hj : fl j = true) (hkj : k < j) (hs : j < ops.size) : waits md ops k j = true := by
  unfold inOrder at h
  rw [List.all_eq_true] at h
  have h1 := h k (List.mem_range.2 (by omega))
  rw [hk, Bool.not_true, Bool.false_or, List.all_eq_true] at h1
  have h2 := h1 j (List.mem_range.2 hs)
  rw [decide_eq_false (by omega), hj, Bool.not_true, Bool.false_or, Bool.false_or] at h2
  exact h2
theorem wpAnyM_lex {Q : Nat → Act → Prop} (hs : Region.noSelect ops = true) (ho : inOrder md ops fl = true) : ∀ (l : List Oper) (k : Nat) (listed : Array Bool) (i : Nat) (a : Act), (∀ j, l[j]? = ops[k + j]?) →
    Closed md ops listed → (∀ j, j < k → j < ops.size → listed.getD j true = true) →
    Region.lexFrom md ops l.length k listed = true → wpMix P ops C fl lw Q l k i a → wpAnyM P ops md C fl lw Q l.length listed i a
  | [], _, _, _, _, _, _, _, hB, h => ⟨by simpa [Region.lexFrom] using hB, h⟩
  | o :: l, k, listed, i, a, hl, hc, hd, hB, h => by
    have h0 : ops[k]? = some o := by simpa using (hl 0).symm
    simp only [List.length_cons, Region.lexFrom, Bool.and_eq_true] at hB
    obtain ⟨⟨hr, hf⟩, hB'⟩ := hB
    have hr' : k ∈ Region.ready md ops listed := by simpa using hr
    obtain ⟨v, hy, hK⟩ := out_of_one h
    refine wpAnyM_first h0 (Region.noSelect_spec hs) l.length listed i a hc (Region.free_spec h0 hf) ?_ hr' hy
      (wpAnyM_lex hs ho l (k + 1) _ _ _ (fun j => by have := hl (j + 1); simpa [Nat.add_assoc, Nat.add_comm 1 j] using this) (hc.set hr') ?_ hB' hK)
    · intro hkf j oj hoj hjk hun hjf
      have hlt : j < ops.size := (Array.getElem?_eq_some_iff.1 hoj).1
      have : k < j := by
        rcases Nat.lt_trichotomy j k with h1 | h1 | h1
        · rw [hd j h1 hlt] at hun; cases hun
        · exact absurd h1 hjk
        · exact h1
      exact inOrder_spec ho hkf hjf this hlt
    · intro j hj hlt
      by_cases hjk : k = j
      · subst hjk
        rcases Nat.lt_or_ge k listed.size with h' | h'
        · simp [h']
        · simp [Nat.not_lt.2 h']
      · rw [getD_set_ne true hjk]
        exact hd j (by omega) hlt
/-- **The region**: `fl` tells which operations turn the world, `C` the classes between them. -/
theorem any_mix {Q : Exit → Act → World → Prop} {a : Act} {w : World} {l : List Oper} (C : Nat → World → Prop) (fl : List Nat)
    (hB : (Region.lexB .any l.toArray && inOrder .any l.toArray fl.contains) = true) (hC : C 0 w.drew)
    (h : wpMix P l.toArray C fl.contains (fun k => (lo .any l.toArray fl.contains k, up .any l.toArray fl.contains k)) (fun i a' => ∀ w', C i w' → Q .normal a' w') l 0 0 a) :
    wpAny P .any l.toArray Q l.toArray.size (Array.replicate l.toArray.size false) a { w with drawn := w.drawn + 1 } := by
  simp only [Bool.and_eq_true] at hB
  obtain ⟨hB, ho⟩ := hB
  simp only [Region.lexB, Bool.and_eq_true] at hB
  refine (wpAny_of_mix (C := C) (fl := fl.contains) (lw := fun k => (lo .any l.toArray fl.contains k, up .any l.toArray fl.contains k)) (md := .any) (Q := fun i a' => ∀ w', C i w' → Q .normal a' w') (fun _ => ⟨Nat.le_refl _, Nat.le_refl _⟩) (fun i a w hw h => h w hw) _ _ 0 _ _ (Closed.start _) (by simp) ?_ hC ?_)
  · unfold cnt
    rw [eq_comm, List.countP_eq_zero]
    intro j hj
    have hj' : j < l.length := by simpa using hj
    simp [hj']
  · have := wpAnyM_lex (P := P) (C := C) (md := .any) hB.1 ho l 0 (Array.replicate l.length false) 0 a (by simp) (Closed.start _) (fun j hj => absurd hj (by omega)) (by simpa using hB.2) h
    simpa using this
theorem wp_region_mix {id : Nat} {Q : Exit → Act → World → Prop} {a : Act} {w : World} {l : List Oper} (C : Nat → World → Prop) (fl : List Nat) (hm : P.follows .mixedOrders = true)
    (hB : (Region.lexB .any l.toArray && inOrder .any l.toArray fl.contains) = true) (hC : C 0 w.drew)
    (h : wpMix P l.toArray C fl.contains (fun k => (lo .any l.toArray fl.contains k, up .any l.toArray fl.contains k)) (fun i a' => ∀ w', C i w' → Q .normal a' w') l 0 0 a) : (Code.region id l.toArray true).wp P Q a w :=
  wp_region_any hm (any_mix C fl hB hC h)
theorem mix_nil {Q : Nat → Act → Prop} {k i : Nat} {a : Act} (h : Q i a) : wpMix P ops C fl lw Q [] k i a := h
/-- An operation that leaves the very world, in the phases from `p` to `q`. -/
theorem mix_in (p q : Nat) [Nonempty (Wx C p q)] {Q : Nat → Act → Prop} {k i : Nat} {a : Act} {o : Oper} {l : List Oper} (hf : fl k = false) (hp : (Nat.ble p (lw k).1 && Nat.ble (lw k).2 q) = true)
    (h : ∀ K : Act → Prop, (∀ a, wpMix P ops C fl lw Q l (k + 1) i a → K a) →
      if Region.wanted o (yielded ops a.tmps) then ∃ v, (∀ x : Wx C p q, stillUpon x.1 v ((execOp a.eval o).run P x.1)) ∧ K (a.put o.dst v) else K (a.put o.dst undef)) : wpMix P ops C fl lw Q (o :: l) k i a := by
  have h' := h (fun a => wpMix P ops C fl lw Q l (k + 1) i a) (fun _ h => h)
  show one P ops C (lw k) (fl k) i o (wpMix P ops C fl lw Q l (k + 1)) a
  rw [hf]
  unfold one
  rw [Bool.and_eq_true] at hp
  split
  · rename_i hw
    rw [if_pos hw] at h'
    obtain ⟨v, h1, h2⟩ := h'
    exact ⟨v, fun x => h1 ⟨x.1, x.2.imp fun i hi => ⟨Nat.le_trans (Nat.le_of_ble_eq_true hp.1) hi.1, Nat.le_trans hi.2.1 (Nat.le_of_ble_eq_true hp.2), hi.2.2⟩⟩, h2⟩
  · rename_i hw; rw [if_neg hw] at h'; exact ⟨trivial, h'⟩
/-- An operation that leaves the very world, in all phases from `p` on. -/
theorem mix_from (p : Nat) [Nonempty (Wd C p)] {Q : Nat → Act → Prop} {k i : Nat} {a : Act} {o : Oper} {l : List Oper} (hf : fl k = false) (hp : Nat.ble p (lw k).1 = true)
    (h : ∀ K : Act → Prop, (∀ a, wpMix P ops C fl lw Q l (k + 1) i a → K a) →
      if Region.wanted o (yielded ops a.tmps) then ∃ v, (∀ x : Wd C p, stillUpon x.1 v ((execOp a.eval o).run P x.1)) ∧ K (a.put o.dst v) else K (a.put o.dst undef)) : wpMix P ops C fl lw Q (o :: l) k i a := by
  have h' := h (fun a => wpMix P ops C fl lw Q l (k + 1) i a) (fun _ h => h)
  show one P ops C (lw k) (fl k) i o (wpMix P ops C fl lw Q l (k + 1)) a
  rw [hf]
  unfold one
  split
  · rename_i hw
    rw [if_pos hw] at h'
    obtain ⟨v, h1, h2⟩ := h'
    exact ⟨v, fun x => h1 ⟨x.1, x.2.imp fun i hi => ⟨Nat.le_trans (Nat.le_of_ble_eq_true hp) hi.1, hi.2.2⟩⟩, h2⟩
  · rename_i hw; rw [if_neg hw] at h'; exact ⟨trivial, h'⟩
/-- An operation that leaves the very world, in all phases. -/
theorem mix_still [Nonempty (Wd C 0)] {Q : Nat → Act → Prop} {k i : Nat} {a : Act} {o : Oper} {l : List Oper} (hf : fl k = false)
    (h : ∀ K : Act → Prop, (∀ a, wpMix P ops C fl lw Q l (k + 1) i a → K a) →
      if Region.wanted o (yielded ops a.tmps) then ∃ v, (∀ x : Wd C 0, stillUpon x.1 v ((execOp a.eval o).run P x.1)) ∧ K (a.put o.dst v) else K (a.put o.dst undef)) : wpMix P ops C fl lw Q (o :: l) k i a :=
  mix_from 0 hf rfl h
/-- An operation that turns the world. -/
theorem mix_turn {Q : Nat → Act → Prop} {k i : Nat} {a : Act} {o : Oper} {l : List Oper} (hf : fl k = true)
    (h : ∀ K : Act → Prop, (∀ a, wpMix P ops C fl lw Q l (k + 1) (i + 1) a → K a) →
      if Region.wanted o (yielded ops a.tmps) then ∃ v, (∀ w, C i w → stepUpon P (C (i + 1)) v ((execOp a.eval o).run P w)) ∧ K (a.put o.dst v) else (∀ w, C i w → C (i + 1) w) ∧ K (a.put o.dst undef)) : wpMix P ops C fl lw Q (o :: l) k i a := by
  have h' := h (fun a => wpMix P ops C fl lw Q l (k + 1) (i + 1) a) (fun _ h => h)
  show one P ops C (lw k) (fl k) i o (wpMix P ops C fl lw Q l (k + 1)) a
  rw [hf]
  unfold one
  split
  · rename_i hw; rw [if_pos hw] at h'; exact h'
  · rename_i hw; rw [if_neg hw] at h'; exact h'
end
attribute [go_sem] stillUpon stepUpon
end Go.Proofs.YtkjgnkmnngaioaaGreat.Mix
namespace Go.Proofs.YtkjgnkmnngaioaaGreat.Mix
open Go.RowKit Go.Proofs.YtkjgnkmnngaioaaGreatW.PrintWords
/-- The worlds, by their places. -/
def CL (L : List World) (i : Nat) (w : World) : Prop := L[i]? = some w
theorem CL.eq {L : List World} {W w : World} {i : Nat} (h : L[i]? = some W) (hw : CL L i w) : w = W := Option.some.inj (hw.symm.trans h)
theorem CL.ne {L : List World} {W : World} (h : L[0]? = some W) : Nonempty (Wd (CL L) 0) := ⟨⟨W, 0, Nat.le_refl _, h⟩⟩
theorem CL.nx {L : List World} {W : World} {p q : Nat} (h : L[p]? = some W) (hp : p ≤ q) : Nonempty (Wx (CL L) p q) := ⟨⟨W, p, Nat.le_refl _, hp, h⟩⟩
theorem CL.at0 {L : List World} {W : World} {a : Addr} {v : Value} (h : L[0]? = some W) (hc : W.cell? a = some v) : ∀ q : Wx (CL L) 0 0, q.1.cell? a = some v := fun ⟨w, i, _, hi, hw⟩ => by
  obtain rfl : i = 0 := by omega
  show w.cell? a = some v
  rw [CL.eq h hw]; exact hc
theorem CL.at1 {L : List World} {W W' : World} {a : Addr} {v : Value} (h : L[0]? = some W) (h' : L[1]? = some W') (hc : W.cell? a = some v) (hc' : W'.cell? a = some v) : ∀ q : Wx (CL L) 0 1, q.1.cell? a = some v := fun ⟨w, i, _, hi, hw⟩ => by
  rcases (show i = 0 ∨ i = 1 by omega) with rfl | rfl
  · show w.cell? a = some v
    rw [CL.eq h hw]; exact hc
  · show w.cell? a = some v
    rw [CL.eq h' hw]; exact hc'
theorem CL.at_all {L : List World} {a : Addr} {v : Value} (h : ∀ W ∈ L, W.cell? a = some v) : ∀ q : Wd (CL L) 0, q.1.cell? a = some v := fun ⟨w, _, _, hw⟩ => h w (List.mem_of_getElem? hw)
section
variable {P : Program} {α : Type}
/-- append of one element that lies in a block of its own: one run, what it gives. -/
theorem app_run (d : Kd α) {w0 W : World} (base : Nat) (t ty e : TypeId) (z : Value) (bytes : Nat) (ht : P.underlying t = some (.slice e)) (hinfo : (P.info? e).map (fun i => (i.zero, i.size, i.bytes)) = some (some z, d.sz, bytes)) (hz : z.cells.size = d.sz) (hs0 : 0 < d.sz) (hb0 : 0 < bytes)
    (v : Value) (xs : List α) (p : α) (cs : List Value) (ok okp : Nat → Prop) (hp : d.M W base okp p cs) (hokp : ∀ k, okp k → ok k ∧ some k ≠ v.ownBlock) (hfresh : ∀ k, W.heap.size ≤ k → ok k)
    (HO : d.R e W base ok v xs) (HB : Below base w0 W) (hbase : base ≤ W.heap.size) (hl : (xs.length + 1) * bytes ≤ 140737488355328) :
    ∃ v1 w1, (Builtin.append_ #[t, t] ty #[v, .slice (some ⟨W.heap.size, 0, none⟩) 1 1]).run P (W.alloc (.cells cs.toArray e)) = .ok v1 w1 ∧ d.R e w1 base ok v1 (xs ++ [p]) ∧ Below base w0 w1 ∧ W.grownBy w1 v.ownBlock := by
  obtain ⟨i0, hi, hzz⟩ := Option.map_eq_some_iff.1 hinfo
  simp only [Prod.mk.injEq] at hzz
  obtain ⟨hz0, hz1, hz2⟩ := hzz
  obtain ⟨h0, inner, hown, hr⟩ := HO
  have hcl : cs.length = d.sz := d.K_len (d.K_of_M hp)
  have hlen : xs.length + 1 ≤ 140737488355328 := Nat.le_trans (Nat.le_mul_of_pos_right _ hb0) hl
  obtain ⟨v1, w1, hrun, hown1, hg1, -, hat1⟩ := run_append_own_at (P := P) (w := W.alloc (.cells cs.toArray e)) base t ty e i0 z d.sz bytes ht hi hz0 hz1 hz2 hz hs0 v xs.length inner (hown.alloc _) ⟨W.heap.size, 0, none⟩ 1 1 cs (by rw [hcl, Nat.one_mul])
    (fun j u hu => by
      rw [add_plain]
      have hk : (W.alloc (.cells cs.toArray e)).heap[W.heap.size]? = some (.cells cs.toArray e (0, 0)) := by show (W.heap.push _)[W.heap.size]? = _; simp
      rw [blk_cell hk, List.getElem?_toArray]; exact hu)
    (d.K_one (d.K_of_M hp)) (by unfold maxLen; omega) hl (by simp; omega)
  have hg : W.grownBy w1 v.ownBlock := World.grownBy.trans (grown_of_below ((Below.refl _ _).alloc (Nat.le_refl _) _) _) hg1
  have hat : v1.ownBlock = v.ownBlock ∨ ∃ b, v1.ownBlock = some b ∧ W.heap.size ≤ b := by
    rcases hat1 with h | h
    · exact .inl h
    · exact .inr ⟨_, h, by simp⟩
  refine ⟨v1, w1, hrun, Kd.R_appended h0 hr hp hokp hfresh hown1 hg hat, HB.grown hg (Nat.le_trans ?_ (Nat.le_refl _)) (fun k hk => own_base hown k hk), hg⟩
  exact hbase
/-- append in a region, its run told by an equation. -/
theorem mix_append {ops : Array Oper} {fl : Nat → Bool} {lw : Nat → Nat × Nat} {Q : Nat → Act → Prop} {k i : Nat} {a : Act} {o : Oper} {l : List Oper} {L : List World} {W W1 : World} {v x u : Value} (s y : Operand) (t : TypeId)
    (hf : fl k = true) (hg : o.guard = none) (ho : o.op = .call { callee := .builtin .append, args := #[s, y], argTypes := #[t, t] }) (hs : a.eval s = v) (hx : a.eval y = x)
    (hL : L[i]? = some W) (hL' : L[i + 1]? = some W1) (hrun : (Builtin.append_ #[t, t] o.type #[v, x]).run P W = .ok u W1) (h : wpMix P ops (CL L) fl lw Q l (k + 1) (i + 1) (a.put o.dst u)) : wpMix P ops (CL L) fl lw Q (o :: l) k i a := by
  refine mix_turn hf (fun K hK => ?_)
  have hw : Region.wanted o (yielded ops a.tmps) = true := by simp [Region.wanted, hg]
  rw [if_pos hw]
  refine ⟨u, fun w hw_ => ?_, hK _ h⟩
  rw [CL.eq hL hw_]
  unfold execOp
  simp only [ho, resolve, invoke, builtin, Sem.run_bind, Sem.run_pure, Result.andThen_ok, List.map_toArray, List.map_cons, List.map_nil, hs, hx, hrun]
  exact ⟨rfl, hL'⟩
end
end Go.Proofs.YtkjgnkmnngaioaaGreat.Mix
namespace Go.Proofs.YtkjgnkmnngaioaaGreat.Mix
open Go.RowKit Go.Proofs.YtkjgnkmnngaioaaGreat.Mem
set_option linter.unusedVariables false
section
variable {P : Program}
theorem blk_setRow {w : World} {g : Nat} {cs cells : Array Value} {T : TypeId} (h : Blk w g cs T) : Blk (w.setRow g cells) g cells T := setRow_heap w g cs cells T (0, 0) h
theorem but_setRow (w : World) (g : Nat) (cells : Array Value) : But g w (w.setRow g cells) := ⟨rfl, rfl, rfl, by simp [World.setRow], fun k _ hk => setRow_other _ _ _ _ hk⟩
theorem setRow_size (w : World) (g : Nat) (cells : Array Value) : (w.setRow g cells).heap.size = w.heap.size := by simp [World.setRow]
/-- The next operation stores a value of type t: a gate that fails at once elsewhere. -/
theorem at_st {ops : Array Oper} {rest : List Oper} {x y : Operand} {t ty : TypeId} {pos : String} {af : Array Edge} {gd : Option (Tmp × Bool)} {a : Act} {w : World} {Q : Exit → Act → World → Prop}
    (h : wpList P ops Q (⟨none, .store t x y, ty, pos, af, gd⟩ :: rest) a w) : wpList P ops Q (⟨none, .store t x y, ty, pos, af, gd⟩ :: rest) a w := h
theorem wpList_store_blk {ops : Array Oper} {rest : List Oper} {o : Oper} {a : Act} {w : World} {Q : Exit → Act → World → Prop} (hgd : o.guard = none) (ty : TypeId) (x y : Operand) (ho : o.op = .store ty x y)
    (g : Nat) (cells : Array Value) (hx : a.eval x = .pointer (some ⟨g, 0, none⟩)) (hy : a.eval y = .agg cells)
    (T : TypeId) (old : Array Value) (hB : Blk w g old T) (hi : (P.info? ty).map (·.size) = some cells.size)
    (hold : old.size = cells.size) (h1 : cells.all (·.oneCell') = true)
    (h : ∀ W, Blk W g cells T → But g w W → W.heap.size = w.heap.size → wpList P ops Q rest (a.put o.dst undef) W) : wpList P ops Q (o :: rest) a w :=
  wpList_store_row hgd ty x y ho g cells hx hy T old hB hi hold h1 (h _ (blk_setRow hB) (but_setRow w g cells) (setRow_size w g cells))
theorem mix_store {ops : Array Oper} {C : Nat → World → Prop} {fl : Nat → Bool} {lw : Nat → Nat × Nat} {Q : Nat → Act → Prop} {k i : Nat} {a : Act} {o : Oper} {l : List Oper}
    (hf : fl k = true) (hgd : o.guard = none) (ty : TypeId) (x y : Operand) (ho : o.op = .store ty x y)
    (g : Nat) (cells : Array Value) (hx : a.eval x = .pointer (some ⟨g, 0, none⟩)) (hy : a.eval y = .agg cells)
    (hi : (P.info? ty).map (·.size) = some cells.size) (h1 : cells.all (·.oneCell') = true)
    (hC : ∀ w, C i w → ∃ T old, Blk w g old T ∧ old.size = cells.size ∧ C (i + 1) (w.setRow g cells))
    (h : wpMix P ops C fl lw Q l (k + 1) (i + 1) (a.put o.dst undef)) : wpMix P ops C fl lw Q (o :: l) k i a := by
  refine mix_turn hf (fun K hK => ?_)
  have hw : Region.wanted o (yielded ops a.tmps) = true := by simp [Region.wanted, hgd]
  rw [if_pos hw]
  refine ⟨undef, fun w hw_ => ?_, hK _ h⟩
  obtain ⟨T, old, hB, hs, hc⟩ := hC w hw_
  unfold execOp
  simp only [ho, hx, hy, Instr.storeAt, Instr.sureAddr, Sem.run_bind, Sem.run_pure, Result.andThen_ok, run_storeVar_row w g T ty old cells hB hi hs h1]
  exact ⟨rfl, hc⟩
end
end Go.Proofs.YtkjgnkmnngaioaaGreat.Mix
namespace Go.Proofs.YtkjgnkmnngaioaaGreat.Q
open Go.RowKit Go.IntWalk Go.Proofs.YtkjgnkmnngaioaaGreat.Mem
set_option linter.unusedVariables false
set_option linter.unusedSimpArgs false
def ltr (c : UInt8) : Bool := decide (97 ≤ (c ||| 32).toNat) && decide ((c ||| 32).toNat ≤ 122)
def inN (c : UInt8) : Bool := ltr c || (decide (48 ≤ c.toNat) && decide (c.toNat ≤ 57)) || decide (c.toNat = 45)
def low (c : UInt8) : UInt8 := if ltr c then c ||| 32 else c
def st (l : List UInt8) : ByteArray := ⟨l.toArray⟩
/-- How many bytes of a name stand first. -/
def nmLen (l : List UInt8) : Nat := (l.takeWhile inN).length
/-- How many bytes the name has that stands first; none: none does. -/
def nmF (l : List UInt8) : Option Nat := if nmLen l = 0 ∨ 20 < nmLen l ∨ (l.headD 0 |> ltr) = false then none else some (nmLen l)
def lows (l : List UInt8) : List UInt8 := l.map low
theorem bits_or (c : UInt8) : bits .or .u8 (c.toNat : Int) 32 = ((c ||| 32).toNat : Int) := by
  have h : ∀ n : Fin 256, bits .or .u8 ((UInt8.ofNat n.val).toNat : Int) 32 = (((UInt8.ofNat n.val) ||| 32).toNat : Int) := by decide +kernel
  have := h ⟨c.toNat, c.toNat_lt⟩
  simpa using this
theorem nmLen_le (l : List UInt8) : nmLen l ≤ l.length := by
  unfold nmLen
  exact (List.takeWhile_prefix _).length_le
theorem nmLen_drop {l : List UInt8} {n : Nat} (h : ∀ c ∈ l.take n, inN c = true) (hn : n ≤ l.length) (hs : n = l.length ∨ ∃ h : n < l.length, inN l[n] = false) : nmLen l = n := by
  unfold nmLen
  induction l generalizing n with
  | nil => simp at hn; simp [hn]
  | cons c l ih =>
    cases n with
    | zero =>
      rcases hs with h0 | ⟨h0, h1⟩
      · simp at h0
      · simp at h1; simp [List.takeWhile_cons, h1]
    | succ n =>
      have h1 := h c (by simp)
      rw [List.takeWhile_cons, if_pos h1, List.length_cons, ih (n := n) (fun d hd => h d (by simp [hd])) (by simpa using hn) ?_]
      rcases hs with h0 | ⟨h0, h2⟩
      · left; simpa using h0
      · right; exact ⟨by simpa using h0, by simpa using h2⟩
set_option maxRecDepth 100000 in
set_option maxHeartbeats 1600000 in
theorem letter_calls (c : UInt8) (w : World) : Calls Tryz.prog 89 #[.int .u8 (c.toNat : Int)] w fun e w' => e = .returned (.bool (ltr c)) ∧ w = w' := by
  have hb := bits_or c
  have HB := Lib.hid hb
  obtain ⟨d, hd⟩ : ∃ d, d = (c ||| 32).toNat := ⟨_, rfl⟩
  have HL := Lib.hid (show ltr c = (decide (97 ≤ d) && decide (d ≤ 122)) by rw [hd]; rfl)
  rw [← hd] at hb
  clear hd
  by_cases h1 : 97 ≤ d
  · have u1' : (97 : Int) ≤ (d : Int) := by omega
    go_enter Tryz.func89, Tryz.ntmps89
    go_wp2_with fail
    go_ret
    have e : decide ((d : Int) ≤ 122) = decide (d ≤ 122) := by rw [decide_eq_decide]; omega
    exact ⟨by rw [HL.out]; simp [h1, e], rfl⟩
  · have u1 : ¬ (97 : Int) ≤ (d : Int) := by omega
    go_enter Tryz.func89, Tryz.ntmps89
    go_wp2_with fail
    go_ret
    refine ⟨?_, rfl⟩
    rw [HL.out]
    first | (simp [h1]; done) | (simp; omega)
set_option maxRecDepth 100000 in
set_option maxHeartbeats 1600000 in
theorem inName_calls (c : UInt8) (w : World) : Calls Tryz.prog 88 #[.int .u8 (c.toNat : Int)] w fun e w' => e = .returned (.bool (inN c)) ∧ w = w' := by
  have HC := Lib.hid (show inN c = (ltr c || (decide (48 ≤ c.toNat) && decide (c.toNat ≤ 57)) || decide (c.toNat = 45)) from rfl)
  obtain ⟨b, hb⟩ : ∃ b, ltr c = b := ⟨_, rfl⟩
  rw [hb] at HC
  have HL := Lib.hid (show Calls Tryz.prog 89 #[.int .u8 (c.toNat : Int)] w fun e w' => e = .returned (.bool b) ∧ w = w' by rw [← hb]; exact letter_calls c w)
  clear hb
  obtain ⟨d, hd⟩ : ∃ d, c.toNat = d := ⟨_, rfl⟩
  rw [hd] at HL HC ⊢
  clear hd
  obtain ⟨r, hr⟩ : ∃ r, inN c = r := ⟨_, rfl⟩
  rw [hr] at HC ⊢
  clear hr
  cases b with
  | true =>
    go_enter Tryz.func88, Tryz.ntmps88
    go_wp2_with (go_at_call 89; refine HL.out.mono ?_; rintro e w' ⟨rfl, rfl⟩)
    go_ret
    exact ⟨by rw [HC.out]; simp, rfl⟩
  | false =>
    by_cases h1 : 48 ≤ d
    · have u1 : (48 : Int) ≤ (d : Int) := by omega
      by_cases h2 : d ≤ 57
      · have u2 : (d : Int) ≤ 57 := by omega
        go_enter Tryz.func88, Tryz.ntmps88
        go_wp2_with (go_at_call 89; refine HL.out.mono ?_; rintro e w' ⟨rfl, rfl⟩)
        go_ret
        exact ⟨by rw [HC.out]; simp [h1, h2], rfl⟩
      · have u2 : ¬ (d : Int) ≤ 57 := by omega
        have u3 : ((d : Int) == 45) = false := by simp; omega
        go_enter Tryz.func88, Tryz.ntmps88
        go_wp2_with (go_at_call 89; refine HL.out.mono ?_; rintro e w' ⟨rfl, rfl⟩)
        go_ret
        exact ⟨by rw [HC.out]; simp [h1, h2]; omega, rfl⟩
    · have u1 : ¬ (48 : Int) ≤ (d : Int) := by omega
      by_cases h2 : d = 45
      · subst h2
        go_enter Tryz.func88, Tryz.ntmps88
        go_wp2_with (go_at_call 89; refine HL.out.mono ?_; rintro e w' ⟨rfl, rfl⟩)
        go_ret
        exact ⟨by rw [HC.out]; rfl, rfl⟩
      · have u3 : ((d : Int) == 45) = false := by simp; omega
        go_enter Tryz.func88, Tryz.ntmps88
        go_wp2_with (go_at_call 89; refine HL.out.mono ?_; rintro e w' ⟨rfl, rfl⟩)
        go_ret
        exact ⟨by rw [HC.out]; simp [h1, h2], rfl⟩
/-- A block of cells that may be marked. -/
def Blz (w : World) (g : Nat) (cs : Array Value) (fz : Nat × Nat) : Prop := w.heap[g]? = some (.cells cs 5 fz)
theorem Blz.cell {w : World} {g : Nat} {cs : Array Value} {fz : Nat × Nat} (h : Blz w g cs fz) (i : Nat) : w.cell? ⟨g, i, none⟩ = cs[i]? := by
  unfold Blz at h; simp [World.cell?, h]
theorem Blz.free {w : World} {g : Nat} {cs : Array Value} {fz : Nat × Nat} (h : Blz w g cs fz) {i : Nat} (hi : i < fz.1) : w.frozen? ⟨g, i, none⟩ = false := by
  unfold Blz at h; simp [World.frozen?, h]; omega
theorem Blz.set {w : World} {g : Nat} {cs : Array Value} {fz : Nat × Nat} (h : Blz w g cs fz) (i : Nat) (v : Value) : Blz (w.setCell ⟨g, i, none⟩ v) g (cs.setIfInBounds i v) fz := by
  unfold Blz at *; simp [World.setCell, Array.getElem?_modify, h]
theorem Blz.lt {w : World} {g : Nat} {cs : Array Value} {fz : Nat × Nat} (h : Blz w g cs fz) : g < w.heap.size := by
  unfold Blz at h
  rcases Nat.lt_or_ge g w.heap.size with h1 | h1
  · exact h1
  · rw [Array.getElem?_eq_none h1] at h; cases h
/-- Bytes as_ cells. -/
def by8' (l : List UInt8) : List Value := l.map fun b => Value.int .u8 b.toNat
theorem by8'_at {l : List UInt8} {i : Nat} (h : i < l.length) : (by8' l)[i]? = some (.int .u8 (l[i].toNat : Int)) := by
  unfold by8'; rw [List.getElem?_map, List.getElem?_eq_getElem h]; rfl
set_option maxRecDepth 100000 in
set_option maxHeartbeats 1600000 in
theorem lower_calls (s : ByteArray) (w : World) (hs : s.size ≤ 600000) : Calls Tryz.prog 90 #[.string s] w fun e w' => e = .returned (.string (st (lows s.data.toList))) ∧ Below w.heap.size w w' := by
  have hbs : ∀ W : World, (convert 9 72 (.string s)).run Tryz.prog W = _ := fun W => run_bytes_of_string (P := Tryz.prog) W 9 72 5 s Tryz.underlying9 Tryz.underlying72 Tryz.underlying5
  go_enter Tryz.func90, Tryz.ntmps90
  go_wp2_with fail
  clear hbs
  obtain ⟨g, hg⟩ : ∃ g, g = w.heap.size := ⟨_, rfl⟩
  obtain ⟨cp, hcp⟩ : ∃ cp, cp = grownCap w s.size 0 5 := ⟨_, rfl⟩
  rw [← hcp]
  have HB0 := Lib.hid (show Blz ((w.alloc (.cells (bytesRow s cp) 5 ((bytesRow s cp).size, (bytesRow s cp).size + 1))).drew) g (bytesRow s cp) ((bytesRow s cp).size, (bytesRow s cp).size + 1) from by
    rw [hg]; exact heap_alloc_new w _)
  have HW0 := Lib.hid (show Below w.heap.size w ((w.alloc (.cells (bytesRow s cp) 5 ((bytesRow s cp).size, (bytesRow s cp).size + 1))).drew) from below_drewN ((Below.refl _ _).alloc (Nat.le_refl _) _) 1)
  have HG := Lib.hid hg
  rw [← hg]
  clear hg hcp
  obtain ⟨N, hN⟩ : ∃ N, N = (bytesRow s cp).size := ⟨_, rfl⟩
  have HN := Lib.hid (show s.size ≤ N from by rw [hN]; unfold bytesRow; simp)
  go_loopw [10] (fun iv wr => ∃ (i : Nat) (cur : Array Value), i ≤ s.size ∧ iv = .int .i64 (i : Int) ∧ Hid (Blz wr g cur (N, N + 1)) ∧ Hid (cur.size = N) ∧ Hid (cur.toList.take s.size = by8' (lows (s.data.toList.take i) ++ s.data.toList.drop i)) ∧ Hid (Below w.heap.size w wr)) (fun iv _ => s.size - (intOf iv).toNat)
  case atStart => exact ⟨0, _, by omega, rfl, Lib.hid (by rw [hN]; exact HB0.out), Lib.hid hN.symm, Lib.hid (by unfold bytesRow by8' lows; simp), by first | exact HW0 | (rw [hN]; exact HW0)⟩
  case round =>
    clear HB0 HW0 hN
    obtain ⟨i, cur, hi, rfl, HB, HC, HT, HW⟩ := hrel
    have hl : s.data.toList.length = s.size := by simp
    by_cases hlt : i < s.size
    · have v1 : (i : Int) < (s.size : Int) := by omega
      have v2 : (0 : Int) ≤ (i : Int) := by omega
      obtain ⟨c, hc⟩ : ∃ c, c = s.data.toList[i]'(by omega) := ⟨_, rfl⟩
      have d0 : wr.cell? ⟨g, i, none⟩ = some (.int .u8 (c.toNat : Int)) := by
        rw [HB.out.cell]
        have h := by8'_at (l := lows (s.data.toList.take i) ++ s.data.toList.drop i) (i := i) (by simp [lows]; omega)
        rw [← HT.out, List.getElem?_take_of_lt hlt] at h
        rw [← Array.getElem?_toList, h, hc]
        congr 3
        rw [List.getElem_append_right (by simp [lows]; omega)]
        simp [lows, hi]
      have d1 : wr.frozen? ⟨g, i, none⟩ = false := HB.out.free (by have := HN.out; show i < N; omega)
      have HS := Lib.hid (show by8' (lows (s.data.toList.take (i + 1)) ++ s.data.toList.drop (i + 1)) = (cur.toList.take s.size).set i (.int .u8 ((low c).toNat : Int)) from by
        have e1 : s.data.toList.drop i = c :: s.data.toList.drop (i + 1) := by rw [hc]; exact List.drop_eq_getElem_cons (by omega)
        have e2 : s.data.toList.take (i + 1) = s.data.toList.take i ++ [c] := by rw [hc]; exact List.take_succ_eq_append_getElem (by omega)
        rw [HT.out, e1, e2]
        simp only [by8', lows, List.map_append, List.map_cons, List.map_nil]
        rw [List.set_append_right _ _ (by simp; omega)]
        simp [hi])
      have HBO := Lib.hid (bits_or c)
      obtain ⟨b, hb⟩ : ∃ b, ltr c = b := ⟨_, rfl⟩
      have HLT := Lib.hid hb
      have HL := Lib.hid (show Calls Tryz.prog 89 #[.int .u8 (c.toNat : Int)] wr fun e w' => e = .returned (.bool b) ∧ wr = w' by rw [← hb]; exact letter_calls c wr)
      have v5 : ((c.toNat : Nat) : Int) < 256 := by have := c.toNat_lt; omega
      clear hb hc hl
      cases b with
      | true =>
        go_wp2_with (go_at_call 89; refine HL.out.mono ?_; rintro e w' ⟨rfl, rfl⟩)
        go_roundw
        case rel =>
          refine ⟨i + 1, cur.setIfInBounds i (.int .u8 (bits .or .u8 (c.toNat : Int) 32)), by omega, rfl, Lib.hid (HB.out.set _ _), Lib.hid (by rw [Array.size_setIfInBounds]; exact HC.out), Lib.hid ?_, Lib.hid (HW.out.trans ⟨rfl, rfl, rfl, by simp [World.setCell], fun k hk => Below.heap_setCell _ _ _ _ (by show k ≠ g; have := HG.out; omega)⟩)⟩
          rw [HS.out, Array.toList_setIfInBounds, List.take_set, HBO.out]
          unfold low
          rw [if_pos HLT.out]
        case measure => simp [intOf]; omega
      | false =>
        go_wp2_with (go_at_call 89; refine HL.out.mono ?_; rintro e w' ⟨rfl, rfl⟩)
        go_roundw
        case rel =>
          refine ⟨i + 1, cur, by omega, rfl, HB, HC, Lib.hid ?_, HW⟩
          rw [HS.out]
          unfold low
          rw [if_neg (by rw [HLT.out]; decide)]
          have h : (cur.toList.take s.size)[i]? = some (.int .u8 (c.toNat : Int)) := by
            rw [List.getElem?_take_of_lt hlt, Array.getElem?_toList, ← HB.out.cell, d0]
          rw [List.getElem?_eq_some_iff] at h
          obtain ⟨h1, h2⟩ := h
          rw [← h2]; exact (List.set_getElem_self h1).symm
        case measure => simp [intOf]; omega
    · have v1 : ¬ (i : Int) < (s.size : Int) := by omega
      have hi' : i = s.size := by omega
      have hT := HT.out
      rw [hi', List.take_of_length_le (l := s.data.toList) (by omega), List.drop_of_length_le (by omega), List.append_nil] at hT
      have hlen : (lows s.data.toList).length = s.size := by simp [lows]
      have hcv := run_convert_bytes_back (P := Tryz.prog) wr 72 9 5 ⟨g, 0, none⟩ cp (lows s.data.toList) Tryz.underlying72 Tryz.underlying5 Tryz.underlying9 (fun k hk => by
        have e : (⟨g, 0, none⟩ : Addr).add k = ⟨g, k, none⟩ := by unfold Addr.add; split <;> simp_all
        rw [e, HB.out.cell, ← Array.getElem?_toList]
        have h1 := by8'_at hk
        rw [← hT, List.getElem?_take_of_lt (by omega)] at h1
        exact h1)
      rw [hlen] at hcv
      clear hT hlen hl
      go_wp2_with fail
      refine bodyPost_ret (v := .string ⟨(lows s.data.toList).toArray⟩) (by simp [results, Tryz.results90, go_sem]) rfl ⟨rfl, HW.out⟩
end Go.Proofs.YtkjgnkmnngaioaaGreat.Q
namespace Go.Proofs.YtkjgnkmnngaioaaGreat.Q
open Go.RowKit Go.IntWalk Go.Proofs.YtkjgnkmnngaioaaGreat.Mem
set_option linter.unusedVariables false
set_option linter.unusedSimpArgs false
/-- A row of bytes: in block g from place a on. -/
structure Bt (w : World) (g a n c : Nat) (l : List UInt8) : Prop where
  len : l.length = n
  cap : n ≤ c
  cell : ∀ i (h : i < l.length), w.cell? ⟨g, a + i, none⟩ = some (.int .u8 (l[i].toNat : Int))
theorem Bt.below {w w' : World} {g a n c : Nat} {l : List UInt8} (h : Bt w g a n c l) (hb : Below w.heap.size w w') : Bt w' g a n c l :=
  ⟨h.len, h.cap, fun i hi => by rw [hb.cell (p := ⟨g, a + i, none⟩) (lt_of_cell (h.cell i hi))]; exact h.cell i hi⟩
theorem Bt.keep {w w' : World} {g a n c : Nat} {l : List UInt8} (h : Bt w g a n c l) (hb : w'.heap[g]? = w.heap[g]?) : Bt w' g a n c l :=
  ⟨h.len, h.cap, fun i hi => (World.cell?_of_block hb).trans (h.cell i hi)⟩
theorem Bt.drop {w : World} {g a n c : Nat} {l : List UInt8} (h : Bt w g a n c l) {k a' c' : Nat} (hk : k ≤ n) (ha : k < n → a' = a + k) (hc : n - k ≤ c') : Bt w g a' (n - k) c' (l.drop k) := by
  have hl := h.len
  refine ⟨by simp [hl], hc, fun i hi => ?_⟩
  rw [List.length_drop] at hi
  rw [ha (by omega), Nat.add_assoc, List.getElem_drop]
  exact h.cell (k + i) (by omega)
/-- Where 'b[k:len(b):len(b)]' stands. -/
def bof (a n k : Nat) : Nat := if n = k then a else a + k
theorem bof_lt {a n k : Nat} (h : k < n) : bof a n k = a + k := by unfold bof; rw [if_neg (by omega)]
theorem add_at' (g a k : Nat) : (⟨g, a, none⟩ : Addr).add k = ⟨g, a + k, none⟩ := by unfold Addr.add; split <;> simp_all
/-- 'b[k:len(b):len(b)]'. -/
theorem slice_lhm (W : World) (g a n c k : Nat) (hk : k ≤ n) (hn : n ≤ c) :
    (Instr.slice 72 (.slice (some ⟨g, a, none⟩) n c) (some (.int .i64 (k : Int))) (some (.int .i64 (n : Int))) (some (.int .i64 (n : Int)))).run Tryz.prog W = .ok (.slice (some ⟨g, bof a n k, none⟩) (n - k) (n - k)) W := by
  have hz : ∀ w, (Go.sizeOf 5).run Tryz.prog w = .ok 1 w := fun _ => by kernel_rfl
  have he : Tryz.prog.elem 72 = 5 := by simp [Program.elem, Tryz.underlying72]
  rw [run_slice_lhm W 72 _ n c (by rw [he]; exact Tryz.underlying72) .i64 .i64 .i64 k n n (by omega) (by omega) (by omega) (by omega), he, hz]
  simp only [Result.andThen, sliced, Int.toNat_natCast, Nat.mul_one, Option.map_some, add_at']
  unfold bof
  by_cases h : n = k
  · rw [if_pos h, if_pos h]
  · rw [if_neg h, if_neg h]
/-- 'b[k:]'. -/
theorem slice_l (W : World) (g a n c k : Nat) (hk : k ≤ n) (hn : n ≤ c) :
    (Instr.slice 72 (.slice (some ⟨g, a, none⟩) n c) (some (.int .i64 (k : Int))) none none).run Tryz.prog W = .ok (.slice (some ⟨g, bof a c k, none⟩) (n - k) (c - k)) W := by
  have hz : ∀ w, (Go.sizeOf 5).run Tryz.prog w = .ok 1 w := fun _ => by kernel_rfl
  have he : Tryz.prog.elem 72 = 5 := by simp [Program.elem, Tryz.underlying72]
  rw [run_slice_l W 72 _ n c (by rw [he]; exact Tryz.underlying72) .i64 k (by omega) (by omega), he, hz]
  simp only [Result.andThen, sliced, Int.toNat_natCast, Nat.mul_one, Option.map_some, add_at']
  unfold bof
  by_cases h : c = k
  · rw [if_pos h, if_pos h]
  · rw [if_neg h, if_neg h]
/-- 'b[:k]'. -/
theorem slice_h (W : World) (g a n c k : Nat) (hk : k ≤ n) (hn : n ≤ c) :
    (Instr.slice 72 (.slice (some ⟨g, a, none⟩) n c) none (some (.int .i64 (k : Int))) none).run Tryz.prog W = .ok (.slice (some ⟨g, a, none⟩) k c) W := by
  have hz : ∀ w, (Go.sizeOf 5).run Tryz.prog w = .ok 1 w := fun _ => by kernel_rfl
  have he : Tryz.prog.elem 72 = 5 := by simp [Program.elem, Tryz.underlying72]
  rw [run_slice_h W 72 _ n c (by rw [he]; exact Tryz.underlying72) .i64 k (by omega) (by omega), he, hz]
  simp only [Result.andThen, sliced, Int.toNat_natCast, Nat.zero_mul, Option.map_some, add_at', Nat.sub_zero, Nat.add_zero, ite_self]
/-- 'string(b)', read. -/
theorem conv_bt {w : World} {g a n c : Nat} {l : List UInt8} (h : Bt w g a n c l) {k c' : Nat} (hk : k ≤ n) : (convert 72 9 (.slice (some ⟨g, a, none⟩) k c')).run Tryz.prog w = .ok (.string (st (l.take k))) w := by
  have hl := h.len
  have h1 := run_convert_bytes_back (P := Tryz.prog) w 72 9 5 ⟨g, a, none⟩ c' (l.take k) Tryz.underlying72 Tryz.underlying5 Tryz.underlying9 (fun j hj => by
    rw [List.length_take] at hj
    rw [add_at', h.cell j (by omega), List.getElem_take])
  rw [List.length_take, Nat.min_eq_left (by omega)] at h1
  exact h1
theorem nmF_some {l : List UInt8} {k : Nat} (h : nmF l = some k) : k = nmLen l ∧ 0 < k ∧ k ≤ 20 ∧ k ≤ l.length ∧ ltr (l.headD 0) = true := by
  unfold nmF at h
  split at h
  · cases h
  · rename_i hc
    injection h with h
    have := nmLen_le l
    have h3 : ltr (l.headD 0) = true := by
      cases he : ltr (l.headD 0) with
      | true => rfl
      | false => exact absurd (.inr (.inr he)) hc
    exact ⟨h.symm, by omega, by omega, by omega, h3⟩
/-- What 'name' tells. -/
def NmPost (g a n : Nat) (l : List UInt8) (w : World) (e : Ending) (w' : World) : Prop :=
  (match nmF l with
    | none => e = .returned (.tuple #[.string ⟨#[]⟩, .slice none 0 0, .bool false])
    | some k => e = .returned (.tuple #[.string (st (lows (l.take k))), .slice (some ⟨g, bof a n k, none⟩) (n - k) (n - k), .bool true])) ∧ Below w.heap.size w w'
/-- Ahead of the call, and behind it. -/
def NmC (w0 w1 : World) : Nat → World → Prop
  | 0, y => y = w1
  | _, y => Below w0.heap.size w0 y
set_option maxRecDepth 100000 in
set_option maxHeartbeats 1600000 in
theorem name_calls (g a n c : Nat) (l : List UInt8) (w : World) (hB : Bt w g a n c l) (hn : n ≤ 9223372036854775807) :
    Calls Tryz.prog 53 #[.slice (some ⟨g, a, none⟩) n c] w (NmPost g a n l w) := by
  have HB := Lib.hid hB
  have HLN := Lib.hid hB.len
  have HCP := Lib.hid hB.cap
  clear hB
  go_enter Tryz.func53, Tryz.ntmps53
  go_wp2_with fail
  go_loop [5] (fun iv => ∃ k : Nat, k ≤ n ∧ iv = .int .i64 (k : Int) ∧ Hid (∀ c ∈ l.take k, inN c = true)) (fun iv => n - (intOf iv).toNat)
  case atStart => exact ⟨0, by omega, rfl, Lib.hid (by simp)⟩
  case round =>
    obtain ⟨k, hk, rfl, HA⟩ := hrel
    by_cases hlt : k < n
    · have v1 : (k : Int) < (n : Int) := by omega
      have v2 : (0 : Int) ≤ (k : Int) := by omega
      obtain ⟨d, hd⟩ : ∃ d, d = l[k]'(by have := HLN.out; omega) := ⟨_, rfl⟩
      have d0 : w.cell? ⟨g, a + k, none⟩ = some (.int .u8 (d.toNat : Int)) := by rw [hd]; exact HB.out.cell k (by have := HLN.out; omega)
      have HTK := Lib.hid (show l.take (k + 1) = l.take k ++ [d] by rw [hd]; exact List.take_succ_eq_append_getElem (by have := HLN.out; omega))
      have HD := Lib.hid hd
      obtain ⟨b, hb⟩ : ∃ b, inN d = b := ⟨_, rfl⟩
      have HBD := Lib.hid hb
      have HL := Lib.hid (show Calls Tryz.prog 88 #[.int .u8 (d.toNat : Int)] w fun e w' => e = .returned (.bool b) ∧ w = w' by rw [← hb]; exact inName_calls d w)
      have v5 : ((d.toNat : Nat) : Int) < 256 := by have := d.toNat_lt; omega
      clear hb hd
      cases b with
      | true =>
        go_wp2_with (go_at_call 88; refine HL.out.mono ?_; rintro e w' ⟨rfl, rfl⟩)
        go_round
        case rel =>
          refine ⟨k + 1, by omega, by go_num, Lib.hid (fun c hc => ?_)⟩
          rw [HTK.out, List.mem_append] at hc
          rcases hc with h | h
          · exact HA.out c h
          · rw [List.mem_singleton] at h; rw [h]; exact HBD.out
        case measure => simp [intOf]; omega
      | false =>
        have HK := Lib.hid (show nmLen l = k from nmLen_drop HA.out (by have := HLN.out; omega) (.inr ⟨by have := HLN.out; omega, by rw [← HD.out]; exact HBD.out⟩))
        by_cases h0 : k = 0
        · have HN0 := Lib.hid (show nmF l = none from by unfold nmF; rw [if_pos (.inl (by rw [HK.out, h0]))])
          subst h0
          rw [Nat.add_zero] at d0
          clear HK
          go_wp2_with (go_at_call 88; refine HL.out.mono ?_; rintro e w' ⟨rfl, rfl⟩)
          refine bodyPost_ret (v := .tuple #[.string ⟨#[]⟩, .slice none 0 0, .bool false]) (by simp [results, Tryz.results53, go_sem]) rfl ⟨by rw [HN0.out], Below.refl _ _⟩
        · have w0 : ((k : Int) == 0) = false := by simp; omega
          by_cases h1 : 20 < k
          · have HN0 := Lib.hid (show nmF l = none from by unfold nmF; rw [if_pos (.inr (.inl (by rw [HK.out]; exact h1)))])
            have w1 : (20 : Int) < (k : Int) := by omega
            clear HK
            go_wp2_with (go_at_call 88; refine HL.out.mono ?_; rintro e w' ⟨rfl, rfl⟩)
            refine bodyPost_ret (v := .tuple #[.string ⟨#[]⟩, .slice none 0 0, .bool false]) (by simp [results, Tryz.results53, go_sem]) rfl ⟨by rw [HN0.out], Below.refl _ _⟩
          · have w1 : ¬ (20 : Int) < (k : Int) := by omega
            have hn0 : 0 < n := by omega
            obtain ⟨d2, hd2⟩ : ∃ d2, d2 = l[0]'(by have := HLN.out; omega) := ⟨_, rfl⟩
            have d3 : w.cell? ⟨g, a, none⟩ = some (.int .u8 (d2.toNat : Int)) := by rw [hd2]; exact HB.out.cell 0 (by have := HLN.out; omega)
            have HHD := Lib.hid (show l.headD 0 = d2 from by
              rw [hd2]
              have := HLN.out
              cases l with
              | nil => simp at this; omega
              | cons x l => rfl)
            obtain ⟨b2, hb2⟩ : ∃ b, ltr d2 = b := ⟨_, rfl⟩
            have HBD2 := Lib.hid hb2
            have HL2 := Lib.hid (show Calls Tryz.prog 89 #[.int .u8 (d2.toNat : Int)] w fun e w' => e = .returned (.bool b2) ∧ w = w' by rw [← hb2]; exact letter_calls d2 w)
            have v6 : ((d2.toNat : Nat) : Int) < 256 := by have := d2.toNat_lt; omega
            clear hb2 hd2
            cases b2 with
            | false =>
              have HN0 := Lib.hid (show nmF l = none from by unfold nmF; rw [if_pos (.inr (.inr (by rw [HHD.out]; exact HBD2.out)))])
              clear HK HHD
              go_wp2_with (first | (go_at_call 88; refine HL.out.mono ?_; rintro e w' ⟨rfl, rfl⟩) | (go_at_call 89; refine HL2.out.mono ?_; rintro e w' ⟨rfl, rfl⟩))
              refine bodyPost_ret (v := .tuple #[.string ⟨#[]⟩, .slice none 0 0, .bool false]) (by simp [results, Tryz.results53, go_sem]) rfl ⟨by rw [HN0.out], Below.refl _ _⟩
            | true =>
              have HN0 := Lib.hid (show nmF l = some k from by
                unfold nmF
                rw [HK.out, HHD.out, HBD2.out, if_neg (by
                  rintro (h | h | h)
                  · omega
                  · omega
                  · cases h)])
              clear HK HHD
              go_upto_region 6 with (first | (go_at_call 88; refine HL.out.mono ?_; rintro e w' ⟨rfl, rfl⟩) | (go_at_call 89; refine HL2.out.mono ?_; rintro e w' ⟨rfl, rfl⟩))
              have hC0 : NmC w w.drew 0 w.drew := rfl
              have ne : Nonempty (Mix.Wd (NmC w w.drew) 0) := ⟨⟨w.drew, 0, Nat.le_refl _, hC0⟩⟩
              have ne0 : Nonempty (Mix.Wx (NmC w w.drew) 0 0) := ⟨⟨w.drew, 0, Nat.le_refl _, Nat.le_refl _, hC0⟩⟩
              have hsh : ∀ W : World, _ = Result.ok _ W := fun W => slice_h W g a n c k (by omega) HCP.out
              have hsl : ∀ W : World, _ = Result.ok _ W := fun W => slice_lhm W g a n c k (by omega) HCP.out
              have hcv : ∀ x : Mix.Wx (NmC w w.drew) 0 0, (convert 72 9 (.slice (some ⟨g, a, none⟩) k c)).run Tryz.prog x.1 = .ok (.string (st (l.take k))) x.1 := fun x => by
                obtain ⟨y, i, h1, h2, h3⟩ := x
                obtain rfl : i = 0 := by omega
                have h3' : y = w.drew := h3
                subst h3'
                exact conv_bt (w := w.drew) (HB.out.keep rfl) (by omega)
              have hltk : (l.take k).length = k := by rw [List.length_take]; have := HLN.out; omega
              have HLT := Lib.hid hltk
              clear hltk
              refine Mix.wp_region_mix (C := NmC w w.drew) [4] (by kernel_rfl) (by kernel_rfl) hC0 ?_
              iterate 3 (refine Mix.mix_still (by decide) (fun K hK => ?_); go_simp; refine hK _ ?_; clear hK K)
              (refine Mix.mix_in 0 0 (by decide) (by kernel_rfl) (fun K hK => ?_); go_simp; refine hK _ ?_; clear hK K)
              refine Mix.mix_turn (by decide) (fun K hK => ?_)
              go_simp
              refine ⟨_, fun y hy => (lower_calls (st (l.take k)) y (by show (l.take k).toArray.size ≤ 600000; rw [List.size_toArray, HLT.out]; omega)).mono fun e w' h => ⟨h.1, by have hy' : y = w.drew := hy; rw [hy'] at h; exact Below.trans (b := w.drew) ⟨rfl, rfl, rfl, Nat.le_refl _, fun _ _ => rfl⟩ h.2⟩, hK _ ?_⟩
              clear hK K
              iterate 10 (refine Mix.mix_still (by decide) (fun K hK => ?_); go_simp; refine hK _ ?_; clear hK K)
              refine Mix.mix_nil ?_
              intro w6 hw6
              have HW6 := Lib.hid (show Below w.heap.size w w6 from hw6)
              clear hw6 ne ne0 hC0 hcv hsh hsl
              show Exit.then _ _ _ _ w6
              go_wp2_with fail
              refine bodyPost_ret (v := .tuple #[.string (st (lows (st (l.take k)).data.toList)), .slice (some ⟨g, bof a n k, none⟩) (n - k) (n - k), .bool true]) (by simp [results, Tryz.results53, go_sem]) rfl ⟨by rw [HN0.out]; rfl, HW6.out⟩
    · have v1 : ¬ (k : Int) < (n : Int) := by omega
      have HK := Lib.hid (show nmLen l = k from nmLen_drop HA.out (by have := HLN.out; omega) (.inl (by have := HLN.out; omega)))
      by_cases h0 : k = 0
      · have HN0 := Lib.hid (show nmF l = none from by unfold nmF; rw [if_pos (.inl (by rw [HK.out, h0]))])
        subst h0
        clear HK
        go_wp2_with fail
        refine bodyPost_ret (v := .tuple #[.string ⟨#[]⟩, .slice none 0 0, .bool false]) (by simp [results, Tryz.results53, go_sem]) rfl ⟨by rw [HN0.out], Below.refl _ _⟩
      · have w0 : ((k : Int) == 0) = false := by simp; omega
        by_cases h1 : 20 < k
        · have HN0 := Lib.hid (show nmF l = none from by unfold nmF; rw [if_pos (.inr (.inl (by rw [HK.out]; exact h1)))])
          have w1 : (20 : Int) < (k : Int) := by omega
          clear HK
          go_wp2_with fail
          refine bodyPost_ret (v := .tuple #[.string ⟨#[]⟩, .slice none 0 0, .bool false]) (by simp [results, Tryz.results53, go_sem]) rfl ⟨by rw [HN0.out], Below.refl _ _⟩
        · have w1 : ¬ (20 : Int) < (k : Int) := by omega
          have hn0 : 0 < n := by omega
          obtain ⟨d2, hd2⟩ : ∃ d2, d2 = l[0]'(by have := HLN.out; omega) := ⟨_, rfl⟩
          have d3 : w.cell? ⟨g, a, none⟩ = some (.int .u8 (d2.toNat : Int)) := by rw [hd2]; exact HB.out.cell 0 (by have := HLN.out; omega)
          have HHD := Lib.hid (show l.headD 0 = d2 from by
            rw [hd2]
            have := HLN.out
            cases l with
            | nil => simp at this; omega
            | cons x l => rfl)
          obtain ⟨b2, hb2⟩ : ∃ b, ltr d2 = b := ⟨_, rfl⟩
          have HBD2 := Lib.hid hb2
          have HL2 := Lib.hid (show Calls Tryz.prog 89 #[.int .u8 (d2.toNat : Int)] w fun e w' => e = .returned (.bool b2) ∧ w = w' by rw [← hb2]; exact letter_calls d2 w)
          have v6 : ((d2.toNat : Nat) : Int) < 256 := by have := d2.toNat_lt; omega
          clear hb2 hd2
          cases b2 with
          | false =>
            have HN0 := Lib.hid (show nmF l = none from by unfold nmF; rw [if_pos (.inr (.inr (by rw [HHD.out]; exact HBD2.out)))])
            clear HK HHD
            go_wp2_with (go_at_call 89; refine HL2.out.mono ?_; rintro e w' ⟨rfl, rfl⟩)
            refine bodyPost_ret (v := .tuple #[.string ⟨#[]⟩, .slice none 0 0, .bool false]) (by simp [results, Tryz.results53, go_sem]) rfl ⟨by rw [HN0.out], Below.refl _ _⟩
          | true =>
            have HN0 := Lib.hid (show nmF l = some k from by
              unfold nmF
              rw [HK.out, HHD.out, HBD2.out, if_neg (by
                rintro (h | h | h)
                · omega
                · omega
                · cases h)])
            clear HK HHD
            go_upto_region 6 with (go_at_call 89; refine HL2.out.mono ?_; rintro e w' ⟨rfl, rfl⟩)
            have hC0 : NmC w w.drew 0 w.drew := rfl
            have ne : Nonempty (Mix.Wd (NmC w w.drew) 0) := ⟨⟨w.drew, 0, Nat.le_refl _, hC0⟩⟩
            have ne0 : Nonempty (Mix.Wx (NmC w w.drew) 0 0) := ⟨⟨w.drew, 0, Nat.le_refl _, Nat.le_refl _, hC0⟩⟩
            have hsh : ∀ W : World, _ = Result.ok _ W := fun W => slice_h W g a n c k (by omega) HCP.out
            have hsl : ∀ W : World, _ = Result.ok _ W := fun W => slice_lhm W g a n c k (by omega) HCP.out
            have hcv : ∀ x : Mix.Wx (NmC w w.drew) 0 0, (convert 72 9 (.slice (some ⟨g, a, none⟩) k c)).run Tryz.prog x.1 = .ok (.string (st (l.take k))) x.1 := fun x => by
              obtain ⟨y, i, h1, h2, h3⟩ := x
              obtain rfl : i = 0 := by omega
              have h3' : y = w.drew := h3
              subst h3'
              exact conv_bt (w := w.drew) (HB.out.keep rfl) (by omega)
            have hltk : (l.take k).length = k := by rw [List.length_take]; have := HLN.out; omega
            have HLT := Lib.hid hltk
            clear hltk
            refine Mix.wp_region_mix (C := NmC w w.drew) [4] (by kernel_rfl) (by kernel_rfl) hC0 ?_
            iterate 3 (refine Mix.mix_still (by decide) (fun K hK => ?_); go_simp; refine hK _ ?_; clear hK K)
            (refine Mix.mix_in 0 0 (by decide) (by kernel_rfl) (fun K hK => ?_); go_simp; refine hK _ ?_; clear hK K)
            refine Mix.mix_turn (by decide) (fun K hK => ?_)
            go_simp
            refine ⟨_, fun y hy => (lower_calls (st (l.take k)) y (by show (l.take k).toArray.size ≤ 600000; rw [List.size_toArray, HLT.out]; omega)).mono fun e w' h => ⟨h.1, by have hy' : y = w.drew := hy; rw [hy'] at h; exact Below.trans (b := w.drew) ⟨rfl, rfl, rfl, Nat.le_refl _, fun _ _ => rfl⟩ h.2⟩, hK _ ?_⟩
            clear hK K
            iterate 10 (refine Mix.mix_still (by decide) (fun K hK => ?_); go_simp; refine hK _ ?_; clear hK K)
            refine Mix.mix_nil ?_
            intro w6 hw6
            have HW6 := Lib.hid (show Below w.heap.size w w6 from hw6)
            clear hw6 ne ne0 hC0 hcv hsh hsl
            show Exit.then _ _ _ _ w6
            go_wp2_with fail
            refine bodyPost_ret (v := .tuple #[.string (st (lows (st (l.take k)).data.toList)), .slice (some ⟨g, bof a n k, none⟩) (n - k) (n - k), .bool true]) (by simp [results, Tryz.results53, go_sem]) rfl ⟨by rw [HN0.out]; rfl, HW6.out⟩
/-- How many that pass stand first. -/
theorem twl {p : UInt8 → Bool} {l : List UInt8} {n : Nat} (h : ∀ c ∈ l.take n, p c = true) (hn : n ≤ l.length) (hs : n = l.length ∨ ∃ h : n < l.length, p l[n] = false) : (l.takeWhile p).length = n := by
  induction l generalizing n with
  | nil => simp at hn; simp [hn]
  | cons c l ih =>
    cases n with
    | zero =>
      rcases hs with h0 | ⟨h0, h1⟩
      · simp at h0
      · simp at h1; simp [List.takeWhile_cons, h1]
    | succ n =>
      have h1 := h c (by simp)
      rw [List.takeWhile_cons, if_pos h1, List.length_cons, ih (n := n) (fun d hd => h d (by simp [hd])) (by simpa using hn) ?_]
      rcases hs with h0 | ⟨h0, h2⟩
      · left; simpa using h0
      · right; exact ⟨by simpa using h0, by simpa using h2⟩
/-- A blank. -/
def bl (c : UInt8) : Bool := decide (c.toNat = 32) || decide (c.toNat = 9) || decide (c.toNat = 10) || decide (c.toNat = 13)
def spLen (l : List UInt8) : Nat := (l.takeWhile bl).length
theorem spLen_le (l : List UInt8) : spLen l ≤ l.length := (List.takeWhile_prefix _).length_le
theorem bl_idx (c : UInt8) : (bl c = true → 0 ≤ Lib.indexByte [32, 9, 10, 13] c) ∧ (bl c = false → Lib.indexByte [32, 9, 10, 13] c = -1) := by
  have h : ∀ n : Fin 256, (bl (UInt8.ofNat n.val) = true → 0 ≤ Lib.indexByte [32, 9, 10, 13] (UInt8.ofNat n.val)) ∧ (bl (UInt8.ofNat n.val) = false → Lib.indexByte [32, 9, 10, 13] (UInt8.ofNat n.val) = -1) := by decide +kernel
  have := h ⟨c.toNat, c.toNat_lt⟩
  simpa using this
set_option maxRecDepth 100000 in
set_option maxHeartbeats 1600000 in
theorem sidx_calls (s : ByteArray) (c : Int) (w : World) :
    Calls Tryz.prog 130 #[.string s, .int .u8 c] w fun e w' => e = .returned (.int .i64 (Lib.indexByte s.data.toList c.toNat.toUInt8)) ∧ w = w' := by
  go_enter Tryz.func130, Tryz.ntmps130
  go_wp2_with fail
  rw [run_callFunc_extern Tryz.func140 (by kernel_rfl) (by kernel_rfl) (by kernel_rfl) (e := Extern.BytealgIndexByte.indexByte) (by kernel_rfl), Lib.run_indexByteString]
  simp only [Result.andThen]
  rw [Oper.upon_value]
  go_wp2_with fail
  go_ret
  exact ⟨rfl, rfl⟩
set_option maxHeartbeats 1600000 in
theorem idx_calls (s : ByteArray) (c : Int) (w : World) :
    Calls Tryz.prog 120 #[.string s, .int .u8 c] w fun e w' => e = .returned (.int .i64 (Lib.indexByte s.data.toList c.toNat.toUInt8)) ∧ w = w' := by
  go_enter Tryz.func120, Tryz.ntmps120
  go_wp2_with (go_at_call 130; refine (sidx_calls _ _ _).mono ?_; rintro e w' ⟨rfl, rfl⟩)
  go_ret
  exact ⟨rfl, rfl⟩
/-- What 'space' tells. -/
def SpPost (g a n : Nat) (l : List UInt8) (w : World) (e : Ending) (w' : World) : Prop :=
  e = .returned (.tuple #[.slice (some ⟨g, bof a n (spLen l), none⟩) (n - spLen l) (n - spLen l), .bool (decide (0 < spLen l))]) ∧ w = w'
set_option maxRecDepth 100000 in
set_option maxHeartbeats 1600000 in
theorem space_calls (g a n c : Nat) (l : List UInt8) (w : World) (hB : Bt w g a n c l) (hn : n ≤ 600000) :
    Calls Tryz.prog 106 #[.slice (some ⟨g, a, none⟩) n c] w (SpPost g a n l w) := by
  have HB := Lib.hid hB
  have HLN := Lib.hid hB.len
  have HCP := Lib.hid hB.cap
  clear hB
  go_enter Tryz.func106, Tryz.ntmps106
  go_wp2_with fail
  go_loop [4] (fun iv => ∃ k : Nat, k ≤ n ∧ iv = .int .i64 (k : Int) ∧ Hid (∀ c ∈ l.take k, bl c = true)) (fun iv => n - (intOf iv).toNat)
  case atStart => exact ⟨0, by omega, rfl, Lib.hid (by simp)⟩
  case round =>
    obtain ⟨k, hk, rfl, HA⟩ := hrel
    have hsl : ∀ W : World, _ = Result.ok _ W := fun W => slice_lhm W g a n c k (by omega) HCP.out
    have hfin : spLen l = k → SpPost g a n l w (.returned (.tuple #[.slice (some ⟨g, bof a n k, none⟩) (n - k) (n - k), .bool (decide ((k : Int) > 0))])) w := fun h => by
      unfold SpPost
      rw [h, show decide ((k : Int) > 0) = decide (0 < k) by rw [decide_eq_decide]; omega]
      exact ⟨rfl, rfl⟩
    have HF := Lib.hid hfin
    clear hfin
    by_cases hlt : k < n
    · have v1 : (k : Int) < (n : Int) := by omega
      have v2 : (0 : Int) ≤ (k : Int) := by omega
      obtain ⟨d, hd⟩ : ∃ d, d = l[k]'(by have := HLN.out; omega) := ⟨_, rfl⟩
      have d0 : w.cell? ⟨g, a + k, none⟩ = some (.int .u8 (d.toNat : Int)) := by rw [hd]; exact HB.out.cell k (by have := HLN.out; omega)
      have HTK := Lib.hid (show l.take (k + 1) = l.take k ++ [d] by rw [hd]; exact List.take_succ_eq_append_getElem (by have := HLN.out; omega))
      have HD := Lib.hid hd
      have hbi := bl_idx d
      obtain ⟨x, hx⟩ : ∃ x, Lib.indexByte [32, 9, 10, 13] d = x := ⟨_, rfl⟩
      rw [hx] at hbi
      have HL := Lib.hid (show Calls Tryz.prog 120 #[.string ⟨#[32, 9, 10, 13]⟩, .int .u8 (d.toNat : Int)] w fun e w' => e = .returned (.int .i64 x) ∧ w = w' by
        have h := idx_calls ⟨#[32, 9, 10, 13]⟩ (d.toNat : Int) w
        have e1 : ((d.toNat : Int).toNat).toUInt8 = d := by simp
        rw [e1, show (⟨#[32, 9, 10, 13]⟩ : ByteArray).data.toList = [32, 9, 10, 13] from rfl, hx] at h
        exact h)
      obtain ⟨b, hb⟩ : ∃ b, bl d = b := ⟨_, rfl⟩
      have HBD := Lib.hid hb
      have v5 : ((d.toNat : Nat) : Int) < 256 := by have := d.toNat_lt; omega
      cases b with
      | true =>
        have v6 : 0 ≤ x := hbi.1 hb
        clear hb hd hbi hx
        go_wp2_with (go_at_call 120; refine HL.out.mono ?_; rintro e w' ⟨rfl, rfl⟩)
        go_round
        case rel =>
          refine ⟨k + 1, by omega, by go_num, Lib.hid (fun c hc => ?_)⟩
          rw [HTK.out, List.mem_append] at hc
          rcases hc with h | h
          · exact HA.out c h
          · rw [List.mem_singleton] at h; rw [h]; exact HBD.out
        case measure => simp [intOf]; omega
      | false =>
        have v6 : x = -1 := hbi.2 hb
        subst v6
        have HK := Lib.hid (show spLen l = k from twl HA.out (by have := HLN.out; omega) (.inr ⟨by have := HLN.out; omega, by rw [← HD.out]; exact HBD.out⟩))
        clear hb hd hbi hx
        go_wp2_with (go_at_call 120; refine HL.out.mono ?_; rintro e w' ⟨rfl, rfl⟩)
        refine bodyPost_ret (v := .tuple #[.slice (some ⟨g, bof a n k, none⟩) (n - k) (n - k), .bool (decide ((k : Int) > 0))]) (by simp [results, Tryz.results106, go_sem]) rfl (HF.out HK.out)
    · have v1 : ¬ (k : Int) < (n : Int) := by omega
      have HK := Lib.hid (show spLen l = k from twl HA.out (by have := HLN.out; omega) (.inl (by have := HLN.out; omega)))
      go_wp2_with fail
      refine bodyPost_ret (v := .tuple #[.slice (some ⟨g, bof a n k, none⟩) (n - k) (n - k), .bool (decide ((k : Int) > 0))]) (by simp [results, Tryz.results106, go_sem]) rfl (HF.out HK.out)
end Go.Proofs.YtkjgnkmnngaioaaGreat.Q
namespace Go.Proofs.YtkjgnkmnngaioaaGreat.Q
open Go.RowKit Go.Proofs.YtkjgnkmnngaioaaGreat.Mem
set_option linter.unusedVariables false
set_option linter.unusedSimpArgs false
theorem disable (w : World) : (callFunc 143 #[]).run Tryz.prog w = .ok (.value (.tuple #[])) w := run_call_mark0 Tryz.func143 (by kernel_rfl) (by kernel_rfl) (by kernel_rfl) .disable (by kernel_rfl) w
theorem enable (w : World) : (callFunc 145 #[]).run Tryz.prog w = .ok (.value (.tuple #[])) w := run_call_mark0 Tryz.func145 (by kernel_rfl) (by kernel_rfl) (by kernel_rfl) .enable (by kernel_rfl) w
theorem acquire (a : Addr) (w : World) : (callFunc 146 #[.pointer (some a)]).run Tryz.prog w = .ok (.value (.tuple #[])) w := run_call_marked Tryz.func146 (by kernel_rfl) (by kernel_rfl) (by kernel_rfl) .acquire (by kernel_rfl) a w
theorem releaseMerge (a : Addr) (w : World) : (callFunc 148 #[.pointer (some a)]).run Tryz.prog w = .ok (.value (.tuple #[])) w := run_call_marked Tryz.func148 (by kernel_rfl) (by kernel_rfl) (by kernel_rfl) .releaseMerge (by kernel_rfl) a w
theorem store_deferred (a : Addr) (x : Value) (u : FrameMode) (w : World) (hc : w.cell? a = some x) (hz : w.frozen? a = false) :
    CallsD Tryz.prog 126 #[.pointer (some a), .bool true] u w fun e u' w' => u' = u ∧ (e = .returned (.tuple #[]) ∧ w' = w.drew.setCell a (.int .u32 1)) := by
  have hc' : w.drew.cell? a = some x := by go_simp
  have hz' : w.drew.frozen? a = false := by go_simp
  have hst := run_call_store (P := Tryz.prog) Tryz.func135 (by kernel_rfl) (by kernel_rfl) (by kernel_rfl) (by kernel_rfl) (k := .u32) (y := 1) hc' hz'
  go_enter_d Tryz.func126, Tryz.ntmps126
  go_wp2
  go_region_calls
  all_goals (go_end0; exact ⟨rfl, rfl⟩)
set_option maxRecDepth 100000 in
theorem unlock_deferred (a : Addr) (u : FrameMode) (w : World) (hc : w.cell? a = some (.int .i32 1)) (hz : w.frozen? a = false) :
    CallsD Tryz.prog 125 #[.pointer (some a)] u w fun e u' w' => u' = u ∧ (e = .returned (.tuple #[]) ∧ w' = w.setCell a (.int .i32 0)) := by
  have hd := disable
  have he := enable
  have hr := releaseMerge
  have hadd := run_call_add (P := Tryz.prog) Tryz.func149 (by kernel_rfl) (by kernel_rfl) (by kernel_rfl) .i32 (by kernel_rfl) (y := -1) (s := 0) hc hz (by simp [go_sem]; rfl)
  have hcv := run_convert_to_unsafe (P := Tryz.prog) (src := 198) (dst := 157) Tryz.underlying198 Tryz.underlying157 (by kernel_rfl) hc
  go_enter_d Tryz.func125, Tryz.ntmps125
  go_wp2
  go_end0
  go_wp2
  go_end0
  exact ⟨rfl, rfl⟩
set_option maxRecDepth 100000 in
theorem lock_free (a : Addr) (w : World) (hc : w.cell? a = some (.int .i32 0)) (hz : w.frozen? a = false) :
    Calls Tryz.prog 124 #[.pointer (some a)] w fun e w' => e = .returned (.tuple #[]) ∧ w' = w.setCell a (.int .i32 1) := by
  have hd := disable
  have he := enable
  have ha := acquire
  have hcas := run_call_cas_hit (P := Tryz.prog) Tryz.func144 (by kernel_rfl) (by kernel_rfl) (by kernel_rfl) .i32 (by kernel_rfl) (y := 1) hc hz
  have hc' : (w.setCell a (.int .i32 1)).cell? a = some (.int .i32 1) := World.cell?_setCell_same w a _ hc
  have hcv := run_convert_to_unsafe (P := Tryz.prog) (src := 198) (dst := 157) Tryz.underlying198 Tryz.underlying157 (by kernel_rfl) hc'
  go_enter Tryz.func124, Tryz.ntmps124
  go_wp2
  first | go_end0 | (simp only [Exit.inBlock, Exit.then]; refine bodyPost_ret (results_none rfl _ _ _) rfl ?_) | refine bodyPost_ret (results_none rfl _ _ _) rfl ?_
  go_wp2
  go_end0
  exact ⟨rfl, rfl⟩
/-- The Replacer's block. -/
abbrev RB (d m : Int) (c3 c4 : Value) : Array Value := #[.int .u32 d, .int .i32 m, .int .u32 0, c3, c4]
set_option maxRecDepth 100000 in
set_option maxHeartbeats 1600000 in
/-- '(*sync.Once).doSlow': 'Q' is what buildOnce leaves. -/
theorem slow_build (b : Nat) (c3 c4 : Value) (Q : World → Prop) (w : World) (hB : Blk w b (RB 0 0 c3 c4) 139)
    (hQ : ∀ w', Q w' → ∃ d3 d4, Blk w' b (RB 0 1 d3 d4) 139)
    (hF : Calls Tryz.prog 93 #[.pointer (some ⟨b, 0, none⟩)] (w.setCell ⟨b, 1, none⟩ (.int .i32 1)) fun e w' => e = .returned (.tuple #[]) ∧ Q w') :
    Calls Tryz.prog 111 #[.pointer (some ⟨b, 0, none⟩), .func (.func 93) #[.pointer (some ⟨b, 0, none⟩)] #[]] w fun e w' => e = .returned (.tuple #[]) ∧
      ∃ w2, Q w2 ∧ w' = (w2.drew.setCell ⟨b, 0, none⟩ (.int .u32 1)).setCell ⟨b, 1, none⟩ (.int .i32 0) := by
  have h0 : w.cell? ⟨b, 0, none⟩ = some (.int .u32 0) := hB.cell 0
  have h1 : w.cell? ⟨b, 1, none⟩ = some (.int .i32 0) := hB.cell 1
  have f0 := hB.free 0
  have f1 := hB.free 1
  have hl := run_call_load (P := Tryz.prog) Tryz.func123 (by kernel_rfl) (by kernel_rfl) (by kernel_rfl) .u32 (by kernel_rfl) (w := w.setCell ⟨b, 1, none⟩ (.int .i32 1)) (a := ⟨b, 0, none⟩) (x := 0) ((World.cell?_setCell_other _ ⟨b, 1, none⟩ ⟨b, 0, none⟩ _ (by simp)).trans h0)
  have hnot : ∀ (x : Bool) (w : World), (Op.unary .not (.bool x)).run Tryz.prog w = .ok (.bool (!x)) w := fun _ _ => rfl
  go_enter_defers Tryz.func111, Tryz.ntmps111
  go_wp2_with (first | (go_at_call 124; refine (lock_free ⟨b, 1, none⟩ _ (by go_simp) (by go_simp)).mono ?_; rintro e w' ⟨rfl, rfl⟩) | (go_at_call 110; go_in) | (go_at_call 93; refine hF.mono ?_; rintro e w2 ⟨rfl, hq⟩))
  obtain ⟨d3, d4, hB2⟩ := hQ _ hq
  have hB3 : Blk w2.drew b (RB 0 1 d3 d4) 139 := hB2.drew
  have hB4 := hB3.set 0 (.int .u32 1)
  refine leaves_cons (f := 126) (args := #[.pointer (some ⟨b, 0, none⟩), .bool true]) (by simp) (by simp [go_sem]) ?_
  refine (store_deferred ⟨b, 0, none⟩ (.int .u32 0) .returning _ (hB2.cell 0) (hB2.free 0)).mono ?_
  rintro e u' w'' ⟨rfl, rfl, rfl⟩
  refine leaves_cons (f := 125) (args := #[.pointer (some ⟨b, 1, none⟩)]) (by simp [settle]) (by simp [go_sem]) ?_
  refine (unlock_deferred ⟨b, 1, none⟩ _ _ (hB4.cell 1) (hB4.free 1)).mono ?_
  rintro e u' w'' ⟨rfl, rfl, rfl⟩
  simp [Leaves, settle, results, Tryz.results111]
  exact ⟨w2, hq, rfl⟩
set_option maxRecDepth 100000 in
set_option maxHeartbeats 1600000 in
/-- '(*sync.Once).Do', not yet done. -/
theorem do_build (b : Nat) (c3 c4 : Value) (Q : World → Prop) (w : World) (hB : Blk w b (RB 0 0 c3 c4) 139)
    (hQ : ∀ w', Q w' → ∃ d3 d4, Blk w' b (RB 0 1 d3 d4) 139)
    (hF : Calls Tryz.prog 93 #[.pointer (some ⟨b, 0, none⟩)] (w.setCell ⟨b, 1, none⟩ (.int .i32 1)) fun e w' => e = .returned (.tuple #[]) ∧ Q w') :
    Calls Tryz.prog 92 #[.pointer (some ⟨b, 0, none⟩), .func (.func 93) #[.pointer (some ⟨b, 0, none⟩)] #[]] w fun e w' => e = .returned (.tuple #[]) ∧
      ∃ w2, Q w2 ∧ w' = (w2.drew.setCell ⟨b, 0, none⟩ (.int .u32 1)).setCell ⟨b, 1, none⟩ (.int .i32 0) := by
  have h0 : w.cell? ⟨b, 0, none⟩ = some (.int .u32 0) := hB.cell 0
  have hl := run_call_load (P := Tryz.prog) Tryz.func123 (by kernel_rfl) (by kernel_rfl) (by kernel_rfl) .u32 (by kernel_rfl) h0
  have hnot : ∀ (x : Bool) (w : World), (Op.unary .not (.bool x)).run Tryz.prog w = .ok (.bool (!x)) w := fun _ _ => rfl
  have hQ' := Lib.hid hQ
  clear hQ
  go_enter Tryz.func92, Tryz.ntmps92
  go_wp2_with (first | (go_at_call 111; refine (slow_build b c3 c4 Q _ hB hQ'.out hF).mono ?_; rintro e w' ⟨rfl, h⟩; have H := Lib.hid h; clear h) | (go_at_call 110; go_in))
  go_end0
  exact ⟨rfl, H.out⟩
end Go.Proofs.YtkjgnkmnngaioaaGreat.Q
