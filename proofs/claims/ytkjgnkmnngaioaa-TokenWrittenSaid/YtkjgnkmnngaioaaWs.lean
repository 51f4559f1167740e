/- '(*strings.appendSliceWriter).WriteString': a string's bytes are appended to a row of bytes that the call owns. -/
import Derived.Test.YtkjgnkmnngaioaaOnce
import Derived.Lib.AppendStr
import Derived.Lib.SliceRun
import Derived.WalkSpells
namespace Go.Proofs.Ytkjgnkmnngaioaa.Q
open Go.RowKit Go.Proofs.Ytkjgnkmnngaioaa.Mem
set_option linter.unusedVariables false
set_option linter.unusedSimpArgs false

def byc (l : List UInt8) : List Value := l.map fun b => Value.int .u8 b.toNat
theorem byc_app (a b : List UInt8) : byc (a ++ b) = byc a ++ byc b := by unfold byc; rw [List.map_append]
theorem byc_str (s : ByteArray) : byc s.data.toList = Lib.strCells s := rfl
/-- As it was, but for what lies from `base` on. -/
structure Apart (base bb : Nat) (w w' : World) : Prop where
  os : w'.os = w.os
  tape : w'.tape = w.tape
  output : w'.output = w.output
  size : w.heap.size ≤ w'.heap.size
  block : ∀ k, k < base → w'.heap[k]? = w.heap[k]?
theorem Apart.refl (base bb : Nat) (w : World) : Apart base bb w w := ⟨rfl, rfl, rfl, Nat.le_refl _, fun _ _ => rfl⟩
theorem Apart.trans {base bb : Nat} {a b c : World} (h : Apart base bb a b) (k : Apart base bb b c) : Apart base bb a c :=
  ⟨k.os.trans h.os, k.tape.trans h.tape, k.output.trans h.output, Nat.le_trans h.size k.size, fun i h1 => (k.block i h1).trans (h.block i h1)⟩
theorem Apart.drewN {base bb : Nat} {a b : World} (h : Apart base bb a b) (n : Nat) : Apart base bb a (b.drewN n) := ⟨h.os, h.tape, h.output, h.size, h.block⟩
/-- A writer's variable, and the bytes that it has. -/
structure Buf (base bb : Nat) (w : World) (l : List UInt8) : Prop where
  own : ∃ v, Blk w bb #[v] 162 ∧ w.ownsRow base 5 1 v l.length (byc l)
  lt : base ≤ bb
  le : base ≤ w.heap.size
theorem Buf.drewN {base bb : Nat} {w : World} {l : List UInt8} (h : Buf base bb w l) (n : Nat) : Buf base bb (w.drewN n) l := ⟨h.own, h.lt, h.le⟩
theorem own_ge {w : World} {base : Nat} {e : TypeId} {v : Value} {n : Nat} {xs : List Value} (h : w.ownsRow base e 1 v n xs) : ∀ k, v.ownBlock = some k → base ≤ k := fun k hk => by
  rcases h.2 with ⟨rfl, -⟩ | ⟨g, cap, cur, rfl, hb, -⟩
  · cases hk
  · cases hk; exact hb
theorem own_ne {w : World} {base bb : Nat} {v u : Value} {n : Nat} {xs : List Value} (h : w.ownsRow base 5 1 v n xs) (hb : Blk w bb #[u] 162) : ∀ k, v.ownBlock = some k → k ≠ bb := fun k hk e => by
  rcases h.2 with ⟨rfl, -⟩ | ⟨g, cap, cur, rfl, -, hg, -⟩
  · cases hk
  · cases hk
    subst e
    unfold Blk at hb
    rw [hb] at hg
    cases hg
theorem own_slice {w : World} {base : Nat} {e : TypeId} {v : Value} {n : Nat} {xs : List Value} (h : w.ownsRow base e 1 v n xs) : ∃ A c, v = .slice A n c := by
  rcases h.2 with ⟨rfl, rfl⟩ | ⟨g, cap, cur, rfl, -⟩
  · exact ⟨_, _, rfl⟩
  · exact ⟨_, _, rfl⟩
set_option maxRecDepth 100000 in
set_option maxHeartbeats 800000 in
theorem ws_calls (base bb : Nat) (l : List UInt8) (s : ByteArray) (w : World) (hB : Buf base bb w l) (hl : l.length + s.size ≤ 1000000) :
    Calls Try.prog 117 #[.pointer (some ⟨bb, 0, none⟩), .string s] w fun e w' => e = .returned (.tuple #[.int .i64 s.size, .nilIface]) ∧ Buf base bb w' (l ++ s.data.toList) ∧ Apart base bb w w' := by
  obtain ⟨⟨v, hb, ho⟩, hlt, hle⟩ := hB
  obtain ⟨A0, c0', rfl⟩ := own_slice ho
  have HB := Lib.hid hb
  have HO := Lib.hid ho
  have HLT := Lib.hid hlt
  have HLE := Lib.hid hle
  have HL := Lib.hid hl
  have c0 : w.cell? ⟨bb, 0, none⟩ = some (.slice A0 l.length c0') := hb.cell 0
  obtain ⟨i0, hi, hzz⟩ : ∃ i0, Try.prog.info? 5 = some i0 ∧ (i0.zero, i0.size, i0.bytes) = (some (.int .u8 0), 1, 1) := Option.map_eq_some_iff.1 (show (Try.prog.info? 5).map (fun i => (i.zero, i.size, i.bytes)) = some (some (.int .u8 0), 1, 1) by kernel_rfl)
  simp only [Prod.mk.injEq] at hzz
  obtain ⟨hz0, hz1, hz2⟩ := hzz
  have HI := Lib.hid hi
  have HZ0 := Lib.hid hz0
  have HZ1 := Lib.hid hz1
  have HZ2 := Lib.hid hz2
  clear hb ho hlt hle hl hi hz0 hz1 hz2
  go_enter Try.func117, Try.ntmps117
  go_wp2_with (at_builtin; refine Lib.wpList_append_own_string _ rfl _ _ 162 9 rfl base 5 i0 Try.underlying162 Try.underlying9 HI.out HZ0.out HZ1.out HZ2.out (.slice A0 l.length c0') l.length (byc l) rfl HO.out s rfl (by have := HL.out; unfold maxLen; omega) (by have := HL.out; omega) HLE.out ?_; intro v1 w1 ho1 hg1 h1; obtain ⟨A1, c1', rfl⟩ := own_slice ho1; have HO1 := Lib.hid ho1; have HG1 := Lib.hid hg1; have HB1 := Lib.hid (show Blk w1 bb #[.slice A0 l.length c0'] 162 from HB.out.of_block (hg1.block bb HB.out.lt (fun e => own_ne HO.out HB.out bb e.symm rfl))); have d0 := HB1.out.cell 0; have d1 := HB1.out.free 0; clear ho1 hg1 h1 c0; simp only [List.getElem?_toArray, List.getElem?_cons_zero] at d0)
  refine bodyPost_ret (v := .tuple #[.int .i64 s.size, .nilIface]) (by simp [results, Try.results117, go_sem]) rfl ⟨rfl, ?_, ?_⟩
  · refine ⟨⟨_, HB1.out.set 0 _, ?_⟩, HLT.out, ?_⟩
    · have ho := HO1.out
      have hle : (l ++ s.data.toList).length = l.length + s.size := by simp
      rw [hle, byc_app, byc_str]
      refine ⟨ho.1, ?_⟩
      rcases ho.2 with h | ⟨g, cap, cur, h1, h2, h3, h4⟩
      · exact .inl h
      · exact .inr ⟨g, cap, cur, h1, h2, (Below.heap_setCell _ _ _ _ (show g ≠ bb from own_ne HO1.out HB1.out g (by rw [h1]; rfl))).trans h3, h4⟩
    · have := HG1.out.size; have := HLE.out; simp [World.setCell]; omega
  · refine ⟨HG1.out.os, HG1.out.tape, HG1.out.output, by simp [World.setCell]; exact HG1.out.size, fun k h1 => ?_⟩
    exact (Below.heap_setCell _ _ _ _ (show k ≠ bb by have := HLT.out; omega)).trans (HG1.out.block k (by have := HLE.out; omega) (fun e => by have := own_ge HO.out k e.symm; omega))
end Go.Proofs.Ytkjgnkmnngaioaa.Q
