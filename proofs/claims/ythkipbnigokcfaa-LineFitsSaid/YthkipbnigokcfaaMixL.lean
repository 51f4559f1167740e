/- Regions that draw their order, their worlds written down one behind the other (Mix); append as one run. -/
import Derived.Test.YthkipbnigokcfaaMix
import Derived.Test.YthkipbnigokcfaaMem
import Derived.Test.YthkipbnigokcfaaWWords
import Derived.Maps.AppendAt
namespace Go.Proofs.Ythkipbnigokcfaa.Mix
open Go.RowKit Go.Proofs.YthkipbnigokcfaaW.PrintWords

/-- The worlds, by their places. -/
def CL (L : List World) (i : Nat) (w : World) : Prop := L[i]? = some w
theorem CL.eq {L : List World} {W w : World} {i : Nat} (h : L[i]? = some W) (hw : CL L i w) : w = W := Option.some.inj (hw.symm.trans h)
theorem CL.ne {L : List World} {W : World} (h : L[0]? = some W) : Nonempty (Wd (CL L) 0) := ⟨⟨W, 0, Nat.le_refl _, h⟩⟩
theorem CL.nx {L : List World} {W : World} {p q : Nat} (h : L[p]? = some W) (hp : p ≤ q) : Nonempty (Wx (CL L) p q) := ⟨⟨W, p, Nat.le_refl _, hp, h⟩⟩
theorem CL.at0 {L : List World} {W : World} {a : Addr} {v : Value} (h : L[0]? = some W) (hc : W.cell? a = some v) : ∀ q : Wx (CL L) 0 0, q.1.cell? a = some v := fun ⟨w, i, _, hi, hw⟩ => by
  obtain rfl : i = 0 := by omega
  show w.cell? a = some v
  rw [CL.eq h hw]; exact hc
theorem CL.at1 {L : List World} {W W' : World} {a : Addr} {v : Value} (h : L[0]? = some W) (h' : L[1]? = some W') (hc : W.cell? a = some v) (hc' : W'.cell? a = some v) : ∀ q : Wx (CL L) 0 1, q.1.cell? a = some v := fun ⟨w, i, _, hi, hw⟩ => by
  rcases (show i = 0 ∨ i = 1 by omega) with rfl | rfl
  · show w.cell? a = some v
    rw [CL.eq h hw]; exact hc
  · show w.cell? a = some v
    rw [CL.eq h' hw]; exact hc'
theorem CL.at_all {L : List World} {a : Addr} {v : Value} (h : ∀ W ∈ L, W.cell? a = some v) : ∀ q : Wd (CL L) 0, q.1.cell? a = some v := fun ⟨w, _, _, hw⟩ => h w (List.mem_of_getElem? hw)

section
variable {P : Program} {α : Type}
/-- append of one element that lies in a block of its own: one run, what it gives. -/
theorem app_run (d : Kd α) {w0 W : World} (base : Nat) (t ty e : TypeId) (z : Value) (bytes : Nat) (ht : P.underlying t = some (.slice e)) (hinfo : (P.info? e).map (fun i => (i.zero, i.size, i.bytes)) = some (some z, d.sz, bytes)) (hz : z.cells.size = d.sz) (hs0 : 0 < d.sz) (hb0 : 0 < bytes)
    (v : Value) (xs : List α) (p : α) (cs : List Value) (ok okp : Nat → Prop) (hp : d.M W base okp p cs) (hokp : ∀ k, okp k → ok k ∧ some k ≠ v.ownBlock) (hfresh : ∀ k, W.heap.size ≤ k → ok k)
    (HO : d.R e W base ok v xs) (HB : Below base w0 W) (hbase : base ≤ W.heap.size) (hl : (xs.length + 1) * bytes ≤ 140737488355328) :
    ∃ v1 w1, (Builtin.append_ #[t, t] ty #[v, .slice (some ⟨W.heap.size, 0, none⟩) 1 1]).run P (W.alloc (.cells cs.toArray e)) = .ok v1 w1 ∧ d.R e w1 base ok v1 (xs ++ [p]) ∧ Below base w0 w1 ∧ W.grownBy w1 v.ownBlock := by
  obtain ⟨i0, hi, hzz⟩ := Option.map_eq_some_iff.1 hinfo
  simp only [Prod.mk.injEq] at hzz
  obtain ⟨hz0, hz1, hz2⟩ := hzz
  obtain ⟨h0, inner, hown, hr⟩ := HO
  have hcl : cs.length = d.sz := d.K_len (d.K_of_M hp)
  have hlen : xs.length + 1 ≤ 140737488355328 := Nat.le_trans (Nat.le_mul_of_pos_right _ hb0) hl
  obtain ⟨v1, w1, hrun, hown1, hg1, -, hat1⟩ := run_append_own_at (P := P) (w := W.alloc (.cells cs.toArray e)) base t ty e i0 z d.sz bytes ht hi hz0 hz1 hz2 hz hs0 v xs.length inner (hown.alloc _) ⟨W.heap.size, 0, none⟩ 1 1 cs (by rw [hcl, Nat.one_mul])
    (fun j u hu => by
      rw [add_plain]
      have hk : (W.alloc (.cells cs.toArray e)).heap[W.heap.size]? = some (.cells cs.toArray e (0, 0)) := by show (W.heap.push _)[W.heap.size]? = _; simp
      rw [blk_cell hk, List.getElem?_toArray]; exact hu)
    (d.K_one (d.K_of_M hp)) (by unfold maxLen; omega) hl (by simp; omega)
  have hg : W.grownBy w1 v.ownBlock := World.grownBy.trans (grown_of_below ((Below.refl _ _).alloc (Nat.le_refl _) _) _) hg1
  have hat : v1.ownBlock = v.ownBlock ∨ ∃ b, v1.ownBlock = some b ∧ W.heap.size ≤ b := by
    rcases hat1 with h | h
    · exact .inl h
    · exact .inr ⟨_, h, by simp⟩
  refine ⟨v1, w1, hrun, Kd.R_appended h0 hr hp hokp hfresh hown1 hg hat, HB.grown hg (Nat.le_trans ?_ (Nat.le_refl _)) (fun k hk => own_base hown k hk), hg⟩
  exact hbase
/-- append in a region, its run told by an equation. -/
theorem mix_append {ops : Array Oper} {fl : Nat → Bool} {lw : Nat → Nat × Nat} {Q : Nat → Act → Prop} {k i : Nat} {a : Act} {o : Oper} {l : List Oper} {L : List World} {W W1 : World} {v x u : Value} (s y : Operand) (t : TypeId)
    (hf : fl k = true) (hg : o.guard = none) (ho : o.op = .call { callee := .builtin .append, args := #[s, y], argTypes := #[t, t] }) (hs : a.eval s = v) (hx : a.eval y = x)
    (hL : L[i]? = some W) (hL' : L[i + 1]? = some W1) (hrun : (Builtin.append_ #[t, t] o.type #[v, x]).run P W = .ok u W1) (h : wpMix P ops (CL L) fl lw Q l (k + 1) (i + 1) (a.put o.dst u)) : wpMix P ops (CL L) fl lw Q (o :: l) k i a := by
  refine mix_turn hf (fun K hK => ?_)
  have hw : Region.wanted o (yielded ops a.tmps) = true := by simp [Region.wanted, hg]
  rw [if_pos hw]
  refine ⟨u, fun w hw_ => ?_, hK _ h⟩
  rw [CL.eq hL hw_]
  unfold execOp
  simp only [ho, resolve, invoke, builtin, Sem.run_bind, Sem.run_pure, Result.andThen_ok, List.map_toArray, List.map_cons, List.map_nil, hs, hx, hrun]
  exact ⟨rfl, hL'⟩
end
end Go.Proofs.Ythkipbnigokcfaa.Mix
