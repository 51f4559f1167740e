/- Arguments of whatever depth, opened by their kinds: what a reading of a slice, a struct, a slice of structs says of memory. -/
import Derived.Test.YtkjgnkmnngaioaaWWords
import Derived.Deep.Slices
import Derived.OpenShut
import Derived.ChangeSame
import Derived.Lib.SmallJoins
namespace Go.Proofs.Ytkjgnkmnngaioaa.Open
open Go.RowKit Go.Proofs.YtkjgnkmnngaioaaW.PrintWords Go.Deep

/-- A reading of type `T` is a value of the kind `d`, and is good. -/
def Opens {α : Type} (P : Program) (T : TypeId) (d : Kd α) (g : α → Prop) : Prop :=
  ∀ {H : Type} {enc : TypeId × Value → H} {w : World} {base : Nat} {spare : Nat → Bool} {held : Bool} {fuel : Nat} {cs : List Value} {x : DataW H × List MemPlace},
    DataW.trod enc P w base spare held fuel T cs = some x → ∃ v : α, d.K w v cs ∧ g v

section
variable {P : Program} {T e : TypeId}
theorem opens_int {k : IntKind} (ht : P.underlying T = some (.int k)) : Opens P T (Kd.int k) (fun n => (Lit.int k n).wf = true) := fun h => by
  obtain ⟨n, rfl, _, hw⟩ := DataW.trod_int ht h
  exact ⟨n, rfl, hw⟩
theorem opens_bool (ht : P.underlying T = some .bool) : Opens P T Kd.bool (fun _ => True) := fun h => by
  obtain ⟨b, rfl, _⟩ := DataW.trod_bool ht h
  exact ⟨b, rfl, trivial⟩
theorem opens_string (ht : P.underlying T = some .string) : Opens P T Kd.string (fun s => s.size ≤ maxLen) := fun h => by
  obtain ⟨s, rfl, _, hs⟩ := DataW.trod_string ht h
  exact ⟨s, rfl, hs⟩

theorem add_add (a : Addr) (x y : Nat) : (a.add x).add y = a.add (x + y) := by
  unfold Addr.add
  by_cases hx : x = 0
  · subst hx; rw [if_pos rfl, Nat.zero_add]
  · by_cases hy : y = 0
    · subst hy; rw [if_pos rfl, Nat.add_zero]
    · have h3 : x + y ≠ 0 := by omega
      rw [if_neg hx, if_neg hy, if_neg h3, Nat.add_assoc]

theorem cells_get {w : World} {base : Nat} {a : Addr} {n : Nat} {l : List Value} (h : w.cells? base a n = some l) : l.length = n ∧ ∀ i u, l[i]? = some u → w.cell? (a.add i) = some u := by
  unfold World.cells? at h
  split at h
  · have hl := mapM_some_length h
    rw [List.length_range] at hl
    refine ⟨hl, fun i u hu => ?_⟩
    have hi : i < l.length := (List.getElem?_eq_some_iff.1 hu).1
    have := mapM_some_get h i i (List.getElem?_range (by omega))
    rw [this, hu]
  · cases h

theorem opens_slice {α : Type} {d : Kd α} {g : α → Prop} (ht : P.underlying T = some (.slice e)) (hc : P.cellsOf e = d.sz) (hd : Opens P e d g) :
    Opens P T (Kd.slice e d) (fun xs => (∀ x ∈ xs, g x) ∧ xs.length ≤ maxLen) := fun {H enc w base spare held fuel cs x} h => by
  rcases open_slice ht h with ⟨rfl, _⟩ | ⟨a, len, cap, m, n, D, Pl, rfl, _, hl, hm, hmm, _, hel⟩
  · exact ⟨[], ⟨none, 0, rfl, Nat.le_refl _, rfl, Nat.zero_le _, fun h => absurd h (Nat.lt_irrefl 0)⟩, ⟨fun x hx => absurd hx List.not_mem_nil, Nat.zero_le _⟩⟩
  · have hlm : len ≤ m := by rw [hmm]; split <;> omega
    have key : ∀ i, i < len → ∃ v : α, g v ∧ ∃ c, c.length = d.sz ∧ d.K w v c ∧ ∀ j u, c[j]? = some u → w.cell? (a.add (i * d.sz + j)) = some u := fun i hi => by
      obtain ⟨cs', h1, h2⟩ := hel i (by omega)
      obtain ⟨v, hv, hg⟩ := hd h2
      obtain ⟨k1, k2⟩ := cells_get h1
      rw [hc] at k1 k2
      exact ⟨v, hg, cs', k1, hv, fun j u hu => by rw [← add_add]; exact k2 j u hu⟩
    have hne : len = 0 ∨ Nonempty α := by
      rcases Nat.eq_zero_or_pos len with h0 | h0
      · exact .inl h0
      · obtain ⟨v, _⟩ := key 0 h0
        exact .inr ⟨v⟩
    rcases hne with rfl | hne
    · exact ⟨[], ⟨some a, cap, rfl, Nat.zero_le _, rfl, Nat.zero_le _, fun h => absurd h (Nat.lt_irrefl 0)⟩, ⟨fun x hx => absurd hx List.not_mem_nil, Nat.zero_le _⟩⟩
    · have key' : ∀ i, ∃ v : α, i < len → (g v ∧ ∃ c, c.length = d.sz ∧ d.K w v c ∧ ∀ j u, c[j]? = some u → w.cell? (a.add (i * d.sz + j)) = some u) := fun i => by
        by_cases hi : i < len
        · obtain ⟨v, hv⟩ := key i hi
          exact ⟨v, fun _ => hv⟩
        · exact ⟨Classical.choice hne, fun h => absurd h hi⟩
      let V := fun i => Classical.choose (key' i)
      have hV := fun i => Classical.choose_spec (key' i)
      refine ⟨(List.range len).map V, ⟨some a, cap, by simp, by simpa using hl, rfl, ?_, fun _ => ⟨a, rfl, fun j p hp => ?_⟩⟩, ⟨fun x hx => ?_, ?_⟩⟩
      · simp; unfold maxLen at hm; omega
      · rw [List.getElem?_map] at hp
        have hj : j < len := by
          rcases Nat.lt_or_ge j len with h1 | h1
          · exact h1
          · rw [List.getElem?_eq_none (by simpa using h1)] at hp; cases hp
        rw [List.getElem?_range hj] at hp
        simp only [Option.map_some, Option.some.injEq] at hp
        subst hp
        obtain ⟨_, c, h1, h2, h3⟩ := hV j hj
        exact ⟨c, h1, h2, h3⟩
      · rw [List.mem_map] at hx
        obtain ⟨j, hj, rfl⟩ := hx
        exact (hV j (List.mem_range.1 hj)).1
      · simp; omega
/-- The fields from the `o`-th cell on are values of the kind `d`. -/
def OpensL {β : Type} (P : Program) (fs : List Field) (o : Nat) (d : Kd β) (g : β → Prop) : Prop :=
  ∀ {H : Type} {enc : TypeId × Value → H} {w : World} {base : Nat} {spare : Nat → Bool} {held : Bool} {n : Nat} {cs : List Value},
    (∀ (i : Nat) (f : Field), fs[i]? = some f → ∃ y, DataW.trod enc P w base spare held n f.type ((cs.drop f.offset).take (P.cellsOf f.type)) = some y) → cs.length = o + d.sz → ∃ v : β, d.K w v (cs.drop o) ∧ g v
theorem opensL_one {β : Type} {f : Field} {o : Nat} {d : Kd β} {g : β → Prop} (ho : f.offset = o) (hc : P.cellsOf f.type = d.sz) (h : Opens P f.type d g) : OpensL P [f] o d g := fun hf hl => by
  obtain ⟨y, hy⟩ := hf 0 f rfl
  rw [ho, hc, List.take_of_length_le (by rw [List.length_drop]; omega)] at hy
  exact h hy
theorem opensL_cons {α β : Type} {f : Field} {fs : List Field} {o : Nat} {d : Kd α} {e : Kd β} {g : α → Prop} {g' : β → Prop} (ho : f.offset = o) (hc : P.cellsOf f.type = d.sz) (h : Opens P f.type d g)
    (hs : OpensL P fs (o + d.sz) e g') : OpensL P (f :: fs) o (Kd.pair d e) (fun x => g x.1 ∧ g' x.2) := fun {H enc w base spare held n cs} hf hl => by
  obtain ⟨y, hy⟩ := hf 0 f rfl
  rw [ho, hc] at hy
  obtain ⟨v, hv, hg⟩ := h hy
  obtain ⟨u, hu, hg'⟩ := hs (fun i f' hi => hf (i + 1) f' (by simpa using hi)) (by rw [hl]; simp [Kd.pair]; omega)
  refine ⟨(v, u), ⟨(cs.drop o).take d.sz, (cs.drop o).drop d.sz, (List.take_append_drop _ _).symm, hv, ?_⟩, hg, hg'⟩
  rw [List.drop_drop]
  exact hu
theorem opens_struct {β : Type} {fs : Array Field} {l : List Field} {d : Kd β} {g : β → Prop} (ht : P.underlying T = some (.struct fs)) (hc : P.cellsOf T = d.sz) (he : fs.toList = l) (hl : OpensL P l 0 d g) : Opens P T d g := fun {H enc w base spare held fuel cs x} h => by
  obtain ⟨xs, n, _, _, h1, h2, h3⟩ := DataW.trod_struct ht h
  have key : ∀ (i : Nat) (f : Field), l[i]? = some f → ∃ y, DataW.trod enc P w base spare held n f.type ((cs.drop f.offset).take (P.cellsOf f.type)) = some y := fun i f hi => by
    have hi' : fs[i]? = some f := by rw [← Array.getElem?_toList, he]; exact hi
    have hlt : i < xs.length := by rw [h2]; exact (Array.getElem?_eq_some_iff.1 hi').1
    exact ⟨xs[i], by rw [h3 i f hi', List.getElem?_eq_getElem hlt]⟩
  have := hl key (by rw [h1, hc]; omega)
  rwa [List.drop_zero] at this
theorem opens_iso {α β : Type} {d : Kd β} {g : β → Prop} {f : α → β} (k : β → α) (hk : ∀ b, f (k b) = b) (h : Opens P T d g) : Opens P T (Kd.iso d f) (fun x => g (f x)) := fun h' => by
  obtain ⟨v, hv, hg⟩ := h h'
  exact ⟨k v, by show d.K _ (f (k v)) _; rw [hk]; exact hv, by show g (f (k v)); rw [hk]; exact hg⟩
theorem Opens.mono {α : Type} {d : Kd α} {g g' : α → Prop} (h : Opens P T d g) (hg : ∀ x, g x → g' x) : Opens P T d g' := fun h' => by
  obtain ⟨v, hv, hgv⟩ := h h'
  exact ⟨v, hv, hg v hgv⟩
theorem Opens.of {α : Type} {d : Kd α} {g : α → Prop} {H : Type} {enc : TypeId × Value → H} {w : World} {base : Nat} {sp : Nat → Bool} {held : Bool} {v : Value} {x : DataW H} {ps : List MemPlace} (h : Opens P T d g)
    (ht : DataW.Trod enc P w base sp held T v x ps) : ∃ y, d.K w y v.cells.toList ∧ g y := by
  obtain ⟨m, hm⟩ := ht
  exact h hm
end
end Go.Proofs.Ytkjgnkmnngaioaa.Open
