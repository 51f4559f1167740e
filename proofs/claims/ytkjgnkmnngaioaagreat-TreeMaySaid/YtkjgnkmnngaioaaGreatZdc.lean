/- What the proof of treeMay_holds needs, of the texts that this work has written and of the words that the kit's print lends. -/
import Derived.Test.YtkjgnkmnngaioaaGreatZdb
import Derived.Lib.SliceRun
import Derived.WalkSpells
import Derived.IntWalk
import Derived.StillTailTactics
import Derived.Deep.MidRow
import Derived.Lib.AppendStr
namespace Go.Proofs.YtkjgnkmnngaioaaGreat.Q
open Go.RowKit Go.IntWalk Go.Proofs.YtkjgnkmnngaioaaGreat.Mem
set_option linter.unusedVariables false
set_option linter.unusedSimpArgs false
abbrev em : ByteArray := ⟨#[]⟩
theorem But.setNew {b c : Nat} {x w : World} (h : But b x w) (hc : x.heap.size ≤ c) (i : Nat) (v : Value) : But b x (w.setCell ⟨c, i, none⟩ v) :=
  ⟨h.os, h.tape, h.output, by simp only [World.setCell, Array.size_modify]; exact h.size, fun k hk e => (Below.heap_setCell _ _ _ _ (show k ≠ c by omega)).trans (h.block k hk e)⟩
theorem size_set (w : World) (a : Addr) (v : Value) : (w.setCell a v).heap.size = w.heap.size := by simp [World.setCell]
/-- A node's block. -/
abbrev ND (v : ByteArray) (p : Int) (x : ByteArray) (nx tb : Value) : Array Value := #[.string v, .int .i64 p, .string x, nx, tb]
abbrev N0 : Array Value := ND em 0 em (.pointer none) (.slice none 0 0)
set_option maxRecDepth 100000 in
theorem add_leaf (n : Nat) (val : ByteArray) (pr : Int) (r : Value) (w : World) (hB : Blk w n N0 191) :
    Calls Tryz.prog 138 #[.pointer (some ⟨n, 0, none⟩), .string em, .string val, .int .i64 pr, r] w fun e w' => e = .returned (.tuple #[]) ∧ w' = (w.setCell ⟨n, 0, none⟩ (.string val)).setCell ⟨n, 1, none⟩ (.int .i64 pr) := by
  have c0 : w.cell? ⟨n, 0, none⟩ = some (.string em) := hB.cell 0
  have c1 : w.cell? ⟨n, 1, none⟩ = some (.int .i64 0) := hB.cell 1
  have f0 := hB.free 0
  have f1 := hB.free 1
  go_enter Tryz.func138, Tryz.ntmps138
  go_wp2
  refine bodyPost_ret (results_none rfl _ _ _) rfl ?_
  exact ⟨rfl, rfl⟩
theorem qneq (w : World) (a : Option Addr) (n c n' c' : Nat) : (binOp .neq 189 (.slice a n c) (.slice none n' c')).run Tryz.prog w = .ok (.bool (!a.isNone)) w := run_neq_slice_nil_any w _ _ a n c n' c' Tryz.underlying189
/-- What a fresh key leaves: the node with its prefix, and its one leaf. -/
structure Fresh (n : Nat) (key val : ByteArray) (pr : Int) (w w' : World) : Prop where
  node : Blk w' n (ND em 0 key (.pointer (some ⟨w.heap.size, 0, none⟩)) (.slice none 0 0)) 191
  leaf : Blk w' w.heap.size (ND val pr em (.pointer none) (.slice none 0 0)) 191
  size : w'.heap.size = w.heap.size + 1
  but : But n w w'
set_option maxRecDepth 100000 in
set_option maxHeartbeats 800000 in
theorem add_fresh (n : Nat) (key val : ByteArray) (pr : Int) (r : Value) (w : World) (hB : Blk w n N0 191) (hk : key.toList.isEmpty = false) :
    Calls Tryz.prog 138 #[.pointer (some ⟨n, 0, none⟩), .string key, .string val, .int .i64 pr, r] w fun e w' => e = .returned (.tuple #[]) ∧ Fresh n key val pr w w' := by
  have c2 : w.cell? ⟨n, 2, none⟩ = some (.string em) := hB.cell 2
  have c3 : w.cell? ⟨n, 3, none⟩ = some (.pointer none) := hB.cell 3
  have c4 : w.cell? ⟨n, 4, none⟩ = some (.slice none 0 0) := hB.cell 4
  have f2 := hB.free 2
  have f3 := hB.free 3
  have q := qneq
  have c1 : w.cell? ⟨n, 1, none⟩ = some (.int .i64 0) := hB.cell 1
  have HB := Lib.hid hB
  clear hB
  have HZ := Lib.hid (show But n w w from But.refl n w)
  go_enter Tryz.func138, Tryz.ntmps138
  go_upto_region 33 with (fail)
  have HB1 := Lib.hid (HB.out.set 2 (.string key))
  have HZ1 := Lib.hid (HZ.out.setCell 2 (.string key))
  have HS := Lib.hid (show (w.setCell ⟨n, 2, none⟩ (.string key)).heap.size = w.heap.size by simp [World.setCell])
  clear c1 c2 c3 c4 f2 f3 HB HZ
  generalize w.setCell ⟨n, 2, none⟩ (.string key) = W1 at HB1 HZ1 HS ⊢
  have d3 : (W1.alloc (.cells N0 191)).cell? ⟨n, 3, none⟩ = some (.pointer none) := (HB1.out.alloc_old _).cell 3
  have e3 : (W1.alloc (.cells N0 191)).frozen? ⟨n, 3, none⟩ = false := (HB1.out.alloc_old _).free 3
  go_upto_region 34 with (fail)
  have HB2 := Lib.hid ((HB1.out.alloc_old (.cells N0 191)).set 3 (.pointer (some ⟨W1.heap.size, 0, none⟩)))
  have HL2 := Lib.hid ((Blk.alloc W1 N0 191).setCell_other (a := ⟨n, 3, none⟩) (.pointer (some ⟨W1.heap.size, 0, none⟩)) (Nat.ne_of_gt HB1.out.lt))
  have HZ2 := Lib.hid ((HZ1.out.trans (But.of_below ((Below.refl _ _).alloc (Nat.le_refl _) (.cells N0 191)))).setCell 3 (.pointer (some ⟨W1.heap.size, 0, none⟩)))
  have HS2 := Lib.hid (show ((W1.alloc (.cells N0 191)).setCell ⟨n, 3, none⟩ (.pointer (some ⟨W1.heap.size, 0, none⟩))).heap.size = W1.heap.size + 1 by simp [World.setCell])
  clear d3 e3 HZ1
  generalize (W1.alloc (.cells N0 191)).setCell ⟨n, 3, none⟩ (.pointer (some ⟨W1.heap.size, 0, none⟩)) = W2 at HB2 HL2 HZ2 HS2 ⊢
  have hs := HS.out
  have hn := HB1.out.lt
  generalize W1.heap.size = m at HB2 HL2 HS2 hs hn ⊢
  have d3 : W2.cell? ⟨n, 3, none⟩ = some (.pointer (some ⟨m, 0, none⟩)) := HB2.out.cell 3
  have HN := Lib.hid hn
  have HM := Lib.hid hs
  clear hs hn HB1
  go_wp2_with (go_at_call 138; refine (add_leaf m val pr r _ HL2.out).mono ?_; rintro e w' ⟨rfl, rfl⟩)
  go_end0
  have hm : n ≠ m := Nat.ne_of_lt HN.out
  have hm' := HM.out
  have hb2 := HB2.out
  have hl2 := HL2.out
  have hz2 := HZ2.out
  have hs2 := HS2.out
  clear d3 HB2 HL2 HZ2 HS2 HM HN
  subst hm'
  refine ⟨rfl, ?_, ?_, ?_, ?_⟩
  · exact (hb2.setCell_other _ hm).setCell_other _ hm
  · exact (hl2.set 0 (.string val)).set 1 (.int .i64 pr)
  · simp [World.setCell]; omega
  · refine ⟨hz2.os, hz2.tape, hz2.output, by simp [World.setCell]; omega, fun k hk hkn => ?_⟩
    refine ((Below.heap_setCell _ _ _ _ ?_).trans (Below.heap_setCell _ _ _ _ ?_)).trans (hz2.block k hk hkn) <;> (show k ≠ w.heap.size; omega)
/-- What a key leaves that was put into a table's empty place. -/
structure New (tb m : Nat) (tcs : Array Value) (T2 : TypeId) (key val : ByteArray) (pr : Int) (w w' : World) : Prop where
  tab : Blk w' tb (tcs.setIfInBounds m (.pointer (some ⟨w.heap.size, 0, none⟩))) T2
  node : Blk w' w.heap.size (ND em 0 key (.pointer (some ⟨w.heap.size + 1, 0, none⟩)) (.slice none 0 0)) 191
  leaf : Blk w' (w.heap.size + 1) (ND val pr em (.pointer none) (.slice none 0 0)) 191
  size : w'.heap.size = w.heap.size + 2
  but : But tb w w'
set_option maxRecDepth 100000 in
set_option maxHeartbeats 800000 in
/-- Into a node with a table, where nothing stands yet. -/
theorem add_new (n g tb : Nat) (key val : ByteArray) (pr : Int) (m : Nat) (tcs : Array Value) (T2 : TypeId) (w : World)
    (hk : key.toList.isEmpty = false) (h0 : 0 < key.size) (hk1 : (key.extract 1 key.size).toList.isEmpty = false) (hne : tb ≠ n)
    (n1 : w.cell? ⟨n, 1, none⟩ = some (.int .i64 0)) (n2 : w.cell? ⟨n, 2, none⟩ = some (.string em)) (n4 : w.cell? ⟨n, 4, none⟩ = some (.slice (some ⟨tb, 0, none⟩) tcs.size tcs.size))
    (hm : m < tcs.size) (hg : w.cell? ⟨g, 6 + key[0].toNat, none⟩ = some (.int .u8 m)) (hT : Blk w tb tcs T2) (ht : tcs[m]? = some (.pointer none)) :
    Calls Tryz.prog 138 #[.pointer (some ⟨n, 0, none⟩), .string key, .string val, .int .i64 pr, .pointer (some ⟨g, 0, none⟩)] w fun e w' => e = .returned (.tuple #[]) ∧ New tb m tcs T2 (key.extract 1 key.size) val pr w w' := by
  have q := qneq
  have hlt : (m : Int) < (tcs.size : Int) := by omega
  have hc : (key[0].toNat : Int) < 256 := by have := key[0].toNat_lt; omega
  have t1 : w.cell? ⟨tb, m, none⟩ = some (.pointer none) := (hT.cell m).trans ht
  have HT := Lib.hid hT
  have HI := Lib.hid ht
  clear hT ht
  go_enter Tryz.func138, Tryz.ntmps138
  go_upto_region 28 with (fail)
  go_still (by kernel_rfl)
  show Exit.then _ _ _ _ w.drew
  have d1 : w.drew.cell? ⟨tb, m, none⟩ = some (.pointer none) := (HT.out.drew.cell m).trans HI.out
  have d4 : w.drew.cell? ⟨n, 4, none⟩ = some (.slice (some ⟨tb, 0, none⟩) tcs.size tcs.size) := n4
  have HT2 := Lib.hid HT.out.drew
  have HZ1 := Lib.hid (show But tb w w.drew from (But.refl tb w).drewN 1)
  have HS1 := Lib.hid (show w.drew.heap.size = w.heap.size from rfl)
  clear n1 n2 n4 hg t1
  generalize w.drew = W1 at d1 d4 HT2 HZ1 HS1 ⊢
  have m1 : (0 : Int) ≤ (m : Int) := by omega
  have x1 : (W1.alloc (.cells N0 191)).cell? ⟨tb, m, none⟩ = some (.pointer none) := ((HT2.out.alloc_old _).cell m).trans HI.out
  have x2 : (W1.alloc (.cells N0 191)).frozen? ⟨tb, m, none⟩ = false := (HT2.out.alloc_old _).free m
  go_upto_region 31 with (fail)
  have HT3 := Lib.hid ((HT2.out.alloc_old (.cells N0 191)).set m (.pointer (some ⟨W1.heap.size, 0, none⟩)))
  have HQ3 := Lib.hid ((Blk.alloc W1 N0 191).setCell_other (a := ⟨tb, m, none⟩) (.pointer (some ⟨W1.heap.size, 0, none⟩)) (Nat.ne_of_gt HT2.out.lt))
  have HZ3 := Lib.hid ((HZ1.out.trans (But.of_below ((Below.refl _ _).alloc (Nat.le_refl _) (.cells N0 191)))).setCell m (.pointer (some ⟨W1.heap.size, 0, none⟩)))
  have HS3 := Lib.hid (show ((W1.alloc (.cells N0 191)).setCell ⟨tb, m, none⟩ (.pointer (some ⟨W1.heap.size, 0, none⟩))).heap.size = W1.heap.size + 1 by simp [World.setCell])
  have y4 : ((W1.alloc (.cells N0 191)).setCell ⟨tb, m, none⟩ (.pointer (some ⟨W1.heap.size, 0, none⟩))).cell? ⟨n, 4, none⟩ = some (.slice (some ⟨tb, 0, none⟩) tcs.size tcs.size) := by
    have hn := lt_of_cell d4
    rw [World.cell?_of_block (w := W1) ((Below.heap_setCell _ _ _ _ (Ne.symm hne)).trans (Below.heap_alloc _ _ _ hn))]
    exact d4
  clear x1 x2 d1 d4 HZ1 HT2
  generalize (W1.alloc (.cells N0 191)).setCell ⟨tb, m, none⟩ (.pointer (some ⟨W1.heap.size, 0, none⟩)) = W3 at HT3 HQ3 HZ3 HS3 y4 ⊢
  have y1 : W3.cell? ⟨tb, m, none⟩ = some (.pointer (some ⟨W1.heap.size, 0, none⟩)) := (HT3.out.cell m).trans (by simp [hm])
  have hs1 := HS1.out
  generalize W1.heap.size = qb at HT3 HQ3 HS3 y1 hs1 ⊢
  have HQB := Lib.hid hs1
  clear hs1 HS1
  have k1 : (1 : Int) ≤ (key.size : Int) := by omega
  go_still_tail 12, (by kernel_rfl)
  change wpList _ _ _ _ _ W3.drew
  have HT4 := Lib.hid HT3.out.drew
  have HQ4 := Lib.hid HQ3.out.drew
  have HZ4 := Lib.hid (show But tb w W3.drew from HZ3.out.drewN 1)
  have HS4 := Lib.hid (show W3.drew.heap.size = qb + 1 from HS3.out)
  clear y1 y4 HT3 HQ3 HZ3 HS3 k1
  generalize W3.drew = W4 at HT4 HQ4 HZ4 HS4 ⊢
  go_wp2_with (go_at_call 138; refine (add_fresh qb _ val pr _ _ HQ4.out hk1).mono ?_; rintro e w' ⟨rfl, hf⟩; have HF := Lib.hid hf; clear hf)
  first | go_end0 | refine bodyPost_ret (results_none rfl _ _ _) rfl ?_
  have hq := HQB.out
  have hs := HS4.out
  have ht := HT4.out
  have hz := HZ4.out
  obtain ⟨h1, h2, h3, h4⟩ := HF.out
  rw [hs] at h1 h2 h3
  have hlt : tb < qb := by
    have := hz.block
    have h5 := HT.out.lt
    omega
  clear HQB HS4 HT4 HZ4 HF HQ4
  subst hq
  refine ⟨rfl, h4.blk ht (Nat.ne_of_lt hlt), h1, h2, by omega, ?_⟩
  refine ⟨h4.os.trans hz.os, h4.tape.trans hz.tape, h4.output.trans hz.output, by omega, fun k hk hkn => (h4.block k (by omega) (by omega)).trans (hz.block k hk hkn)⟩
set_option maxRecDepth 100000 in
set_option maxHeartbeats 800000 in
/-- Into a node with a table, where a node stands. -/
theorem add_down (n g tb q0 : Nat) (key val : ByteArray) (pr : Int) (m ts : Nat) (Q : World → Prop) (w : World)
    (hk : key.toList.isEmpty = false) (h0 : 0 < key.size)
    (n1 : w.cell? ⟨n, 1, none⟩ = some (.int .i64 0)) (n2 : w.cell? ⟨n, 2, none⟩ = some (.string em)) (n4 : w.cell? ⟨n, 4, none⟩ = some (.slice (some ⟨tb, 0, none⟩) ts ts))
    (hm : m < ts) (hg : w.cell? ⟨g, 6 + key[0].toNat, none⟩ = some (.int .u8 m)) (t1 : w.cell? ⟨tb, m, none⟩ = some (.pointer (some ⟨q0, 0, none⟩)))
    (hF : Calls Tryz.prog 138 #[.pointer (some ⟨q0, 0, none⟩), .string (key.extract 1 key.size), .string val, .int .i64 pr, .pointer (some ⟨g, 0, none⟩)] w.drew.drew fun e w' => e = .returned (.tuple #[]) ∧ Q w') :
    Calls Tryz.prog 138 #[.pointer (some ⟨n, 0, none⟩), .string key, .string val, .int .i64 pr, .pointer (some ⟨g, 0, none⟩)] w fun e w' => e = .returned (.tuple #[]) ∧ Q w' := by
  have q := qneq
  have hlt : (m : Int) < (ts : Int) := by omega
  have hc : (key[0].toNat : Int) < 256 := by have := key[0].toNat_lt; omega
  have m1 : (0 : Int) ≤ (m : Int) := by omega
  have k1 : (1 : Int) ≤ (key.size : Int) := by omega
  have HF := Lib.hid hF
  clear hF
  go_enter Tryz.func138, Tryz.ntmps138
  go_upto_region 28 with (fail)
  go_still (by kernel_rfl)
  show Exit.then _ _ _ _ w.drew
  have d1 : w.drew.cell? ⟨tb, m, none⟩ = some (.pointer (some ⟨q0, 0, none⟩)) := t1
  have d4 : w.drew.cell? ⟨n, 4, none⟩ = some (.slice (some ⟨tb, 0, none⟩) ts ts) := n4
  clear n1 n2 n4 hg t1
  generalize w.drew = W1 at d1 d4 HF ⊢
  go_upto_region 31 with (fail)
  go_still_tail 12, (by kernel_rfl)
  change wpList _ _ _ _ _ W1.drew
  clear d1 d4
  generalize W1.drew = W2 at HF ⊢
  go_wp2_with (go_at_call 138; refine HF.out.mono ?_; rintro e w' ⟨rfl, hf⟩; have HQ := Lib.hid hf; clear hf)
  first | go_end0 | refine bodyPost_ret (results_none rfl _ _ _) rfl ?_
  exact ⟨rfl, HQ.out⟩
/-- A table, empty. -/
abbrev P11 : Array Value := #[.pointer none, .pointer none, .pointer none, .pointer none, .pointer none, .pointer none, .pointer none, .pointer none, .pointer none, .pointer none, .pointer none]
theorem mk11 (w : World) : (Instr.makeSlice 189 (.int .i64 11) (.int .i64 11)).run Tryz.prog w = .ok (.slice (some ⟨w.heap.size, 0, none⟩) 11 11) (w.alloc (.cells P11 188)) := by kernel_rfl
/-- What a key leaves that was put into a node with another prefix. -/
structure Split (n m1 m2 : Nat) (x : ByteArray) (nb : Nat) (key val : ByteArray) (pr : Int) (w w' : World) : Prop where
  top : Blk w' n (ND em 0 em (.pointer none) (.slice (some ⟨w.heap.size + 2, 0, none⟩) 11 11)) 191
  pre : Blk w' w.heap.size (ND em 0 (x.extract 1 x.size) (.pointer (some ⟨nb, 0, none⟩)) (.slice none 0 0)) 191
  node : Blk w' (w.heap.size + 1) (ND em 0 (key.extract 1 key.size) (.pointer (some ⟨w.heap.size + 3, 0, none⟩)) (.slice none 0 0)) 191
  tab : Blk w' (w.heap.size + 2) ((P11.setIfInBounds m1 (.pointer (some ⟨w.heap.size, 0, none⟩))).setIfInBounds m2 (.pointer (some ⟨w.heap.size + 1, 0, none⟩))) 188
  leaf : Blk w' (w.heap.size + 3) (ND val pr em (.pointer none) (.slice none 0 0)) 191
  size : w'.heap.size = w.heap.size + 4
  but : But n w w'
set_option maxRecDepth 100000 in
set_option maxHeartbeats 1600000 in
theorem add_split (n g nb : Nat) (x key val : ByteArray) (pr : Int) (m1 m2 : Nat) (w : World)
    (hB : Blk w n (ND em 0 x (.pointer (some ⟨nb, 0, none⟩)) (.slice none 0 0)) 191) (hgn : g ≠ n)
    (hk : key.toList.isEmpty = false) (hx : x.toList.isEmpty = false) (hk0 : 1 < key.size) (hx0 : 1 < x.size) (hk1 : (key.extract 1 key.size).toList.isEmpty = false)
    (hne : ((x[0].toNat : Int) != (key[0].toNat : Int)) = true) (hm1 : m1 < 11) (hm2 : m2 < 11)
    (gs : w.cell? ⟨g, 5, none⟩ = some (.int .i64 11)) (g1 : w.cell? ⟨g, 6 + x[0].toNat, none⟩ = some (.int .u8 m1)) (g2 : w.cell? ⟨g, 6 + key[0].toNat, none⟩ = some (.int .u8 m2)) :
    Calls Tryz.prog 138 #[.pointer (some ⟨n, 0, none⟩), .string key, .string val, .int .i64 pr, .pointer (some ⟨g, 0, none⟩)] w fun e w' => e = .returned (.tuple #[]) ∧ Split n m1 m2 x nb key val pr w w' := by
  have c1 : w.cell? ⟨n, 1, none⟩ = some (.int .i64 0) := hB.cell 1
  have c2 : w.cell? ⟨n, 2, none⟩ = some (.string x) := hB.cell 2
  have c3 : w.cell? ⟨n, 3, none⟩ = some (.pointer (some ⟨nb, 0, none⟩)) := hB.cell 3
  have hc : (key[0].toNat : Int) < 256 := by have := key[0].toNat_lt; omega
  have hd : (x[0].toNat : Int) < 256 := by have := x[0].toNat_lt; omega
  have k1 : (1 : Int) ≤ (key.size : Int) := by omega
  have k2 : (1 : Int) ≤ (x.size : Int) := by omega
  have k3 : (0 : Int) < (key.size : Int) := by omega
  have k4 : (0 : Int) < (x.size : Int) := by omega
  have hx' : (!x.toList.isEmpty) = true := by rw [hx]; rfl
  have HB := Lib.hid hB
  clear hB
  go_enter Tryz.func138, Tryz.ntmps138
  go_wp2_with fail
  go_loopw [10] (fun nv wr => nv = .int .i64 0 ∧ wr = w) (fun _ _ => 0)
  case atStart => exact ⟨rfl, rfl⟩
  case round =>
    obtain ⟨rfl, rfl⟩ := hrel
    go_upto_region 8 with (fail)
    go_still (by kernel_rfl)
    show Exit.then _ _ _ _ wr.drew
    have d2 : wr.drew.cell? ⟨n, 2, none⟩ = some (.string x) := c2
    have d3 : wr.drew.cell? ⟨n, 3, none⟩ = some (.pointer (some ⟨nb, 0, none⟩)) := c3
    have HB1 := Lib.hid HB.out.drew
    have HG0 := Lib.hid (show wr.cell? ⟨g, 5, none⟩ = some (.int .i64 11) ∧ wr.cell? ⟨g, 6 + x[0].toNat, none⟩ = some (.int .u8 m1) ∧ wr.cell? ⟨g, 6 + key[0].toNat, none⟩ = some (.int .u8 m2) from ⟨gs, g1, g2⟩)
    have HGL := Lib.hid (lt_of_cell gs)
    have hZ0 := Lib.hid HB.out.lt
    have HG := Lib.hid (show wr.drew.cell? ⟨g, 5, none⟩ = some (.int .i64 11) ∧ wr.drew.cell? ⟨g, 6 + x[0].toNat, none⟩ = some (.int .u8 m1) ∧ wr.drew.cell? ⟨g, 6 + key[0].toNat, none⟩ = some (.int .u8 m2) from ⟨gs, g1, g2⟩)
    have HZ := Lib.hid (show But n wr wr.drew from (But.refl n wr).drewN 1)
    have HS := Lib.hid (show wr.drew.heap.size = wr.heap.size from rfl)
    clear c1 c2 c3 gs g1 g2 HB
    generalize wr.drew = W1 at d2 d3 HB1 HG HZ HS ⊢
    go_upto_region 15 with (fail)
    go_still_tail 10, (by kernel_rfl)
    change wpList _ _ _ _ _ W1.drew
    have d3 : W1.drew.cell? ⟨n, 3, none⟩ = some (.pointer (some ⟨nb, 0, none⟩)) := d3
    have HB2 := Lib.hid HB1.out.drew
    have HG2 := Lib.hid (show W1.drew.cell? ⟨g, 5, none⟩ = some (.int .i64 11) ∧ W1.drew.cell? ⟨g, 6 + x[0].toNat, none⟩ = some (.int .u8 m1) ∧ W1.drew.cell? ⟨g, 6 + key[0].toNat, none⟩ = some (.int .u8 m2) from HG.out)
    have HZ2 := Lib.hid (show But n wr W1.drew from HZ.out.drewN 1)
    have HS2 := Lib.hid (show W1.drew.heap.size = wr.heap.size from HS.out)
    clear d2 d3 HB1 HG HZ HS
    generalize W1.drew = W2 at HB2 HG2 HZ2 HS2 ⊢
    go_upto_region 16 with (fail)
    have HS3 := Lib.hid (show (W2.alloc (.cells (ND em 0 (x.extract 1 x.size) (.pointer (some ⟨nb, 0, none⟩)) (.slice none 0 0)) 191)).heap.size = W2.heap.size + 1 by simp)
    have HP3 := Lib.hid (Blk.alloc W2 (ND em 0 (x.extract 1 x.size) (.pointer (some ⟨nb, 0, none⟩)) (.slice none 0 0)) 191)
    have HB3 := Lib.hid (HB2.out.alloc_old (.cells (ND em 0 (x.extract 1 x.size) (.pointer (some ⟨nb, 0, none⟩)) (.slice none 0 0)) 191))
    have HZ3 := Lib.hid (HZ2.out.trans (But.of_below ((Below.refl _ _).alloc (Nat.le_refl _) (.cells (ND em 0 (x.extract 1 x.size) (.pointer (some ⟨nb, 0, none⟩)) (.slice none 0 0)) 191))))
    clear HB2 HZ2
    generalize W2.alloc (.cells (ND em 0 (x.extract 1 x.size) (.pointer (some ⟨nb, 0, none⟩)) (.slice none 0 0)) 191) = W3 at HS3 HP3 HB3 HZ3 ⊢
    have hs2 := HS2.out
    generalize W2.heap.size = pb at HS3 HP3 hs2 ⊢
    have HPB := Lib.hid hs2
    clear hs2 HS2 HG2
    go_upto_region 17 with (fail)
    have HS4 := Lib.hid (show (W3.alloc (.cells N0 191)).heap.size = W3.heap.size + 1 by simp)
    have HP4 := Lib.hid (HP3.out.alloc_old (.cells N0 191))
    have HK4 := Lib.hid (Blk.alloc W3 N0 191)
    have HB4 := Lib.hid (HB3.out.alloc_old (.cells N0 191))
    have HZ4 := Lib.hid (HZ3.out.trans (But.of_below ((Below.refl _ _).alloc (Nat.le_refl _) (.cells N0 191))))
    clear HB3 HZ3 HP3
    generalize W3.alloc (.cells N0 191) = W4 at HS4 HP4 HK4 HB4 HZ4 ⊢
    have hs3 := HS3.out
    generalize W3.heap.size = qb at HS4 HK4 hs3 ⊢
    have HQB := Lib.hid hs3
    clear hs3 HS3
    have HGG := Lib.hid (show ∀ W', But n wr W' → W'.cell? ⟨g, 5, none⟩ = some (.int .i64 11) ∧ W'.cell? ⟨g, 6 + x[0].toNat, none⟩ = some (.int .u8 m1) ∧ W'.cell? ⟨g, 6 + key[0].toNat, none⟩ = some (.int .u8 m2) from fun W' hW => by
      have hb := hW.block g HGL.out hgn
      exact ⟨(World.cell?_of_block (w := wr) hb).trans HG0.out.1, (World.cell?_of_block (w := wr) hb).trans HG0.out.2.1, (World.cell?_of_block (w := wr) hb).trans HG0.out.2.2⟩)
    obtain ⟨g5, -⟩ := HGG.out W4 HZ4.out
    have d4 : ∀ o, (W4.alloc o).cell? ⟨n, 4, none⟩ = some (.slice none 0 0) := fun o => (HB4.out.alloc_old o).cell 4
    have d5 : ∀ o, (W4.alloc o).frozen? ⟨n, 4, none⟩ = false := fun o => (HB4.out.alloc_old o).free 4
    have hmk := mk11
    go_upto_region 18 with (fail)
    have hnl := HB4.out.lt
    have hpn : pb ≠ n := by have := HPB.out; have := hZ0.out; omega
    have hqn : qb ≠ n := by have := HQB.out; have := HPB.out; have := HP4.out.lt; have := hZ0.out; omega
    have HT5 := Lib.hid ((Blk.alloc W4 P11 188).setCell_other (a := ⟨n, 4, none⟩) (.slice (some ⟨W4.heap.size, 0, none⟩) 11 11) (Nat.ne_of_gt hnl))
    have HB5 := Lib.hid ((HB4.out.alloc_old (.cells P11 188)).set 4 (.slice (some ⟨W4.heap.size, 0, none⟩) 11 11))
    have HP5 := Lib.hid ((HP4.out.alloc_old (.cells P11 188)).setCell_other (a := ⟨n, 4, none⟩) (.slice (some ⟨W4.heap.size, 0, none⟩) 11 11) hpn)
    have HK5 := Lib.hid ((HK4.out.alloc_old (.cells P11 188)).setCell_other (a := ⟨n, 4, none⟩) (.slice (some ⟨W4.heap.size, 0, none⟩) 11 11) hqn)
    have HZ5 := Lib.hid ((HZ4.out.trans (But.of_below ((Below.refl _ _).alloc (Nat.le_refl _) (.cells P11 188)))).setCell 4 (.slice (some ⟨W4.heap.size, 0, none⟩) 11 11))
    have HS5 := Lib.hid (show ((W4.alloc (.cells P11 188)).setCell ⟨n, 4, none⟩ (.slice (some ⟨W4.heap.size, 0, none⟩) 11 11)).heap.size = W4.heap.size + 1 by simp [World.setCell])
    clear d4 d5 g5 HP4 HK4 HB4 HZ4 hmk hnl
    generalize (W4.alloc (.cells P11 188)).setCell ⟨n, 4, none⟩ (.slice (some ⟨W4.heap.size, 0, none⟩) 11 11) = W5 at HT5 HB5 HP5 HK5 HZ5 HS5 ⊢
    have hs4 := HS4.out
    generalize W4.heap.size = tb at HT5 HB5 HS5 hs4 ⊢
    have HTB := Lib.hid hs4
    clear hs4 HS4
    have e4 : W5.cell? ⟨n, 4, none⟩ = some (.slice (some ⟨tb, 0, none⟩) 11 11) := HB5.out.cell 4
    have e2 : W5.cell? ⟨n, 2, none⟩ = some (.string x) := HB5.out.cell 2
    obtain ⟨-, e6, -⟩ := HGG.out W5 HZ5.out
    have e7 : ∀ j, j < 11 → P11[j]? = some (.pointer none) := fun j hj => by
      have : j = 0 ∨ j = 1 ∨ j = 2 ∨ j = 3 ∨ j = 4 ∨ j = 5 ∨ j = 6 ∨ j = 7 ∨ j = 8 ∨ j = 9 ∨ j = 10 := by omega
      rcases this with rfl | rfl | rfl | rfl | rfl | rfl | rfl | rfl | rfl | rfl | rfl <;> rfl
    have E7 := Lib.hid e7
    have e8 : W5.drew.cell? ⟨tb, m1, none⟩ = some (.pointer none) := (HT5.out.cell m1).trans (e7 m1 hm1)
    have e9 : W5.drew.frozen? ⟨tb, m1, none⟩ = false := HT5.out.free m1
    have i1 : (m1 : Int) < 11 := by omega
    have i2 : (0 : Int) ≤ (m1 : Int) := by omega
    have j1 : (m2 : Int) < 11 := by omega
    have j2 : (0 : Int) ≤ (m2 : Int) := by omega
    clear e7
    go_still_tail 16, (by kernel_rfl)
    change wpList _ _ _ _ _ W5.drew
    clear e4 e2 e6
    have htn : n ≠ tb := by have := HTB.out; have := HQB.out; have := HP5.out.lt; have := HPB.out; have := hZ0.out; omega
    have htp : pb ≠ tb := by have := HTB.out; have := HQB.out; have := HPB.out; omega
    have htq : qb ≠ tb := by have := HTB.out; omega
    have htw : wr.heap.size ≤ tb := by have := HTB.out; have := HQB.out; have := HPB.out; omega
    have hT6 := HT5.out.drew
    have hB6 := HB5.out.drew
    have hP6 := HP5.out.drew
    have hK6 := HK5.out.drew
    have hZ6 : But n wr W5.drew := HZ5.out.drewN 1
    have hS6 : W5.drew.heap.size = tb + 1 := HS5.out
    generalize W5.drew = W6 at hT6 hB6 hP6 hK6 hZ6 hS6 e8 e9 ⊢
    have HS6 := Lib.hid hS6
    clear HT5 HB5 HP5 HK5 HZ5 HS5 hS6
    have HT7 := Lib.hid (hT6.set m1 (.pointer (some ⟨pb, 0, none⟩)))
    have HB7 := Lib.hid (hB6.setCell_other (a := ⟨tb, m1, none⟩) (.pointer (some ⟨pb, 0, none⟩)) htn)
    have HP7 := Lib.hid (hP6.setCell_other (a := ⟨tb, m1, none⟩) (.pointer (some ⟨pb, 0, none⟩)) htp)
    have HK7 := Lib.hid (hK6.setCell_other (a := ⟨tb, m1, none⟩) (.pointer (some ⟨pb, 0, none⟩)) htq)
    have HZ7 := Lib.hid (show But n wr (W6.setCell ⟨tb, m1, none⟩ (.pointer (some ⟨pb, 0, none⟩))) from But.setNew hZ6 htw m1 _)
    clear hT6 hB6 hP6 hK6 hZ6
    go_upto_region 19 with (fail)
    have HS7 := Lib.hid ((size_set W6 ⟨tb, m1, none⟩ (.pointer (some ⟨pb, 0, none⟩))).trans HS6.out)
    clear e8 e9 HS6
    generalize W6.setCell ⟨tb, m1, none⟩ (.pointer (some ⟨pb, 0, none⟩)) = W7 at HT7 HB7 HP7 HK7 HZ7 HS7 ⊢
    obtain ⟨v2, hv2⟩ : ∃ v, (P11.setIfInBounds m1 (.pointer (some ⟨pb, 0, none⟩)))[m2]? = some v := ⟨_, Array.getElem?_eq_getElem (by simp; omega)⟩
    have e4 : W7.cell? ⟨n, 4, none⟩ = some (.slice (some ⟨tb, 0, none⟩) 11 11) := HB7.out.cell 4
    obtain ⟨-, -, e6⟩ := HGG.out W7 HZ7.out
    have e8 : W7.drew.cell? ⟨tb, m2, none⟩ = some v2 := (HT7.out.cell m2).trans hv2
    have e9 : W7.drew.frozen? ⟨tb, m2, none⟩ = false := HT7.out.free m2
    clear hv2
    go_still_tail 13, (by kernel_rfl)
    change wpList _ _ _ _ _ W7.drew
    clear e4 e6
    have hT8 := HT7.out.drew
    have hB8 := HB7.out.drew
    have hP8 := HP7.out.drew
    have hK8 := HK7.out.drew
    have hZ8 : But n wr W7.drew := HZ7.out.drewN 1
    have hS8 : W7.drew.heap.size = tb + 1 := HS7.out
    generalize W7.drew = W8 at hT8 hB8 hP8 hK8 hZ8 hS8 e8 e9 ⊢
    have HS8 := Lib.hid hS8
    clear HT7 HB7 HP7 HK7 HZ7 HS7 hS8
    have HT9 := Lib.hid (hT8.set m2 (.pointer (some ⟨qb, 0, none⟩)))
    have HB9 := Lib.hid (hB8.setCell_other (a := ⟨tb, m2, none⟩) (.pointer (some ⟨qb, 0, none⟩)) htn)
    have HP9 := Lib.hid (hP8.setCell_other (a := ⟨tb, m2, none⟩) (.pointer (some ⟨qb, 0, none⟩)) htp)
    have HK9 := Lib.hid (hK8.setCell_other (a := ⟨tb, m2, none⟩) (.pointer (some ⟨qb, 0, none⟩)) htq)
    have HZ9 := Lib.hid (show But n wr (W8.setCell ⟨tb, m2, none⟩ (.pointer (some ⟨qb, 0, none⟩))) from But.setNew hZ8 htw m2 _)
    have HS9 := Lib.hid ((size_set W8 ⟨tb, m2, none⟩ (.pointer (some ⟨qb, 0, none⟩))).trans HS8.out)
    clear hT8 hB8 hP8 hK8 hZ8 HS8
    go_upto_region 20 with (fail)
    clear e8 e9
    generalize W8.setCell ⟨tb, m2, none⟩ (.pointer (some ⟨qb, 0, none⟩)) = W9 at HT9 HB9 HP9 HK9 HZ9 HS9 ⊢
    have e2 : W9.cell? ⟨n, 2, none⟩ = some (.string x) := HB9.out.cell 2
    have e3 : W9.cell? ⟨n, 3, none⟩ = some (.pointer (some ⟨nb, 0, none⟩)) := HB9.out.cell 3
    have f2 := HB9.out.free 2
    have f3 := HB9.out.free 3
    go_upto_region 22 with (fail)
    clear e2 e3 f2 f3
    have HB10 := Lib.hid ((HB9.out.set 2 (.string em)).set 3 (.pointer none))
    have HT10 := Lib.hid ((HT9.out.setCell_other (a := ⟨n, 2, none⟩) (.string em) (Ne.symm htn)).setCell_other (a := ⟨n, 3, none⟩) (.pointer none) (Ne.symm htn))
    have HP10 := Lib.hid ((HP9.out.setCell_other (a := ⟨n, 2, none⟩) (.string em) hpn).setCell_other (a := ⟨n, 3, none⟩) (.pointer none) hpn)
    have HK10 := Lib.hid ((HK9.out.setCell_other (a := ⟨n, 2, none⟩) (.string em) hqn).setCell_other (a := ⟨n, 3, none⟩) (.pointer none) hqn)
    have HZ10 := Lib.hid ((HZ9.out.setCell 2 (.string em)).setCell 3 (.pointer none))
    have HS10 := Lib.hid (((size_set _ ⟨n, 3, none⟩ (.pointer none)).trans (size_set W9 ⟨n, 2, none⟩ (.string em))).trans HS9.out)
    clear HT9 HB9 HP9 HK9 HZ9 HS9
    generalize (W9.setCell ⟨n, 2, none⟩ (.string em)).setCell ⟨n, 3, none⟩ (.pointer none) = W10 at HT10 HB10 HP10 HK10 HZ10 HS10 ⊢
    go_wp2_with (go_at_call 138; refine (add_fresh qb _ val pr _ _ HK10.out hk1).mono ?_; rintro e w' ⟨rfl, hf⟩; have HF := Lib.hid hf; clear hf)
    first | go_end0 | refine bodyPost_ret (results_none rfl _ _ _) rfl ?_
    obtain ⟨h1, h2, h3, h4⟩ := HF.out
    have hs := HS10.out
    rw [hs] at h1 h2 h3
    have k1 : tb = wr.heap.size + 2 := by have := HTB.out; have := HQB.out; have := HPB.out; omega
    have k2 : qb = wr.heap.size + 1 := by have := HQB.out; have := HPB.out; omega
    have k3 := HPB.out
    have hT := h4.blk HT10.out (Ne.symm htq)
    have hB := h4.blk HB10.out (Ne.symm hqn)
    have hP := h4.blk HP10.out (by omega)
    have hZ := HZ10.out
    clear HF HS10 HT10 HB10 HP10 HK10 HZ10 HTB HQB HPB
    subst k1 k2 k3
    refine ⟨rfl, hB, hP, h1, hT, h2, by omega, ?_⟩
    exact ⟨h4.os.trans hZ.os, h4.tape.trans hZ.tape, h4.output.trans hZ.output, by omega, fun k hk hkn => (h4.block k (by omega) (by omega)).trans (hZ.block k hk hkn)⟩
end Go.Proofs.YtkjgnkmnngaioaaGreat.Q
namespace Go.Proofs.YtkjgnkmnngaioaaGreat.Q
open Go.RowKit Go.IntWalk Go.Proofs.YtkjgnkmnngaioaaGreat.Mem
set_option linter.unusedVariables false
set_option linter.unusedSimpArgs false
/-- The replacer's block: the root, the tables' size, the mapping. -/
def GB (tb : Value) (ts : Int) (mp : List Int) : Array Value := (([.string em, .int .i64 0, .string em, .pointer none, tb, .int .i64 ts] : List Value) ++ mp.map fun x => Value.int .u8 x).toArray
theorem gb_map {tb : Value} {ts : Int} {mp : List Int} {c : Nat} (h : c < mp.length) : (GB tb ts mp)[6 + c]? = some (.int .u8 (mp.getD c 0)) := by
  unfold GB
  rw [List.getElem?_toArray, List.getElem?_append_right (by simp), List.getElem?_map]
  simp [List.getElem?_eq_getElem h, List.getD_eq_getElem?_getD]
theorem gb_set {tb : Value} {ts : Int} {mp : List Int} {c : Nat} (x : Int) : (GB tb ts mp).setIfInBounds (6 + c) (.int .u8 x) = GB tb ts (mp.set c x) := by
  unfold GB
  rw [List.setIfInBounds_toArray, List.set_append_right _ _ (by simp), List.map_set]
  simp
theorem gb_ts {tb : Value} {ts ts' : Int} {mp : List Int} : (GB tb ts mp).setIfInBounds 5 (.int .i64 ts') = GB tb ts' mp := by
  unfold GB; simp
theorem gb_tb {tb tb' : Value} {ts : Int} {mp : List Int} : (GB tb ts mp).setIfInBounds 4 tb' = GB tb' ts mp := by
  unfold GB; simp
theorem gb_1 {tb : Value} {ts : Int} {mp : List Int} : (GB tb ts mp)[1]? = some (.int .i64 0) := rfl
theorem gb_2 {tb : Value} {ts : Int} {mp : List Int} : (GB tb ts mp)[2]? = some (.string em) := rfl
theorem gb_4 {tb : Value} {ts : Int} {mp : List Int} : (GB tb ts mp)[4]? = some tb := rfl
theorem gb_5 {tb : Value} {ts : Int} {mp : List Int} : (GB tb ts mp)[5]? = some (.int .i64 ts) := rfl
theorem gb_zero : Tryz.zeroCells193 = GB (.slice none 0 0) 0 (List.replicate 256 0) := by kernel_rfl
def KS : List ByteArray := [⟨#[38, 108, 116, 59]⟩, ⟨#[38, 103, 116, 59]⟩, ⟨#[38, 97, 109, 112, 59]⟩, ⟨#[38, 113, 117, 111, 116, 59]⟩]
def VS : List ByteArray := [⟨#[60]⟩, ⟨#[62]⟩, ⟨#[38]⟩, ⟨#[34]⟩]
def ks (i : Nat) : ByteArray := KS.getD i em
def vs (i : Nat) : ByteArray := VS.getD i em
def marks (l : List UInt8) : List Int := l.foldl (fun M c => M.set c.toNat 1) (List.replicate 256 0)
theorem marks_len (l : List UInt8) : (marks l).length = 256 := by
  have : ∀ (l : List UInt8) (M : List Int), M.length = 256 → (l.foldl (fun M c => M.set c.toNat 1) M).length = 256 := by
    intro l
    induction l with
    | nil => intro M h; exact h
    | cons c r ih => intro M h; exact ih _ (by simpa using h)
  exact this l _ List.length_replicate
theorem marks_snoc (l : List UInt8) (c : UInt8) : marks (l ++ [c]) = (marks l).set c.toNat 1 := by unfold marks; rw [List.foldl_append]; rfl
/-- The bytes of the first keys. -/
def kbs (a : Nat) : List UInt8 := ((KS.take a).map fun k => k.data.toList).flatten
theorem kbs_succ {a : Nat} (h : a < 4) : kbs (a + 1) = kbs a ++ (ks a).data.toList := by
  have : a = 0 ∨ a = 1 ∨ a = 2 ∨ a = 3 := by omega
  rcases this with rfl | rfl | rfl | rfl <;> rfl
theorem gb_range {w : World} {g : Nat} {tb : Value} {ts : Int} {M : List Int} {T : TypeId} (h : Blk w g (GB tb ts M) T) : w.rangeAt g 6 (M.map fun x => Value.int .u8 x) := fun j v hv => by
  rw [h.cell (6 + j)]
  have hj : j < M.length := by have := (List.getElem?_eq_some_iff.1 hv).1; simpa using this
  rw [gb_map hj, ← hv, List.getElem?_map, List.getElem?_eq_getElem hj, List.getD_eq_getElem?_getD, List.getElem?_eq_getElem hj]
  rfl
/-- How many there are. -/
def sm (M : List Int) (k : Nat) : Int := (M.take k).foldl (· + ·) 0
theorem idx_agg (AM : Array Value) (k : Nat) (v : Value) (hk : k < 256) (h : AM[k]? = some v) (w : World) : (Instr.index 174 (.agg AM) (.int .i64 k)).run Tryz.prog w = .ok v w := by
  have h1 : (0 : Int) ≤ (k : Int) ∧ (k : Int) < 256 := by omega
  have hs : (sizeOf 5).run Tryz.prog w = .ok 1 w := by kernel_rfl
  have hu : (underlying 174).run Tryz.prog w = .ok (.array 256 5) w := by kernel_rfl
  unfold Instr.index
  simp [Sem.run_bind, hs, hu, h1, part, go_sem, h]
  intro h; omega
theorem sm_succ {M : List Int} {k : Nat} (h : k < M.length) : sm M (k + 1) = sm M k + M.getD k 0 := by
  unfold sm
  rw [List.take_succ_eq_append_getElem h, List.foldl_append, List.getD_eq_getElem?_getD, List.getElem?_eq_getElem h]
  rfl
def B01 (M : List Int) : Prop := ∀ k, M.getD k 0 = 0 ∨ M.getD k 0 = 1
theorem marks_01 (l : List UInt8) : B01 (marks l) := by
  have : ∀ (l : List UInt8) (M : List Int), B01 M → B01 (l.foldl (fun M c => M.set c.toNat 1) M) := by
    intro l
    induction l with
    | nil => intro M h; exact h
    | cons c r ih =>
      intro M h
      refine ih _ (fun k => ?_)
      rw [List.getD_eq_getElem?_getD, List.getElem?_set]
      split
      · split
        · exact .inr rfl
        · exact .inl rfl
      · have := h k; rwa [List.getD_eq_getElem?_getD] at this
  refine this l _ (fun k => .inl ?_)
  rw [List.getD_eq_getElem?_getD, List.getElem?_replicate]
  split <;> rfl
theorem sm_le {M : List Int} (h : B01 M) : ∀ k, k ≤ M.length → 0 ≤ sm M k ∧ sm M k ≤ k
  | 0, _ => by simp [sm]
  | k + 1, hk => by
    have ih := sm_le h k (by omega)
    rw [sm_succ (by omega)]
    have := h k
    omega
theorem sm_mono {M : List Int} (h : B01 M) {k : Nat} : ∀ {n : Nat}, k ≤ n → n ≤ M.length → sm M k ≤ sm M n
  | 0, h1, _ => by obtain rfl : k = 0 := by omega
                   exact Int.le_refl _
  | n + 1, h1, h2 => by
    rcases Nat.lt_or_ge n k with h3 | h3
    · obtain rfl : k = n + 1 := by omega
      exact Int.le_refl _
    · have := sm_mono h (k := k) (n := n) h3 (by omega)
      rw [sm_succ (by omega)]
      have := h n
      omega
/-- The mapping, so far. -/
def mp2 (M : List Int) (k : Nat) : List Int := (List.range 256).map fun i => if i < k then (if M.getD i 0 = 0 then 11 else sm M i) else M.getD i 0
theorem mp2_len (M : List Int) (k : Nat) : (mp2 M k).length = 256 := by unfold mp2; rw [List.length_map, List.length_range]
theorem mp2_zero {M : List Int} (h : M.length = 256) : mp2 M 0 = M := by
  apply List.ext_getElem (by rw [mp2_len, h])
  intro i h1 h2
  unfold mp2
  simp [List.getD_eq_getElem?_getD, List.getElem?_eq_getElem h2]
theorem mp2_get (M : List Int) (k i : Nat) : (mp2 M k)[i]? = if i < 256 then some (if i < k then (if M.getD i 0 = 0 then 11 else sm M i) else M.getD i 0) else none := by
  unfold mp2
  rw [List.getElem?_map]
  by_cases h : i < 256
  · rw [if_pos h, List.getElem?_range h]; rfl
  · rw [if_neg h, List.getElem?_eq_none (by rw [List.length_range]; omega)]; rfl
theorem mp2_succ {M : List Int} {k : Nat} (h : k < 256) : mp2 M (k + 1) = (mp2 M k).set k (if M.getD k 0 = 0 then 11 else sm M k) := by
  apply List.ext_getElem?
  intro i
  rw [List.getElem?_set, mp2_get, mp2_get, mp2_len]
  by_cases hk : k = i
  · subst hk
    rw [if_pos h, if_pos (by omega), if_pos rfl, if_pos h]
  · rw [if_neg hk]
    by_cases h2 : i < 256
    · rw [if_pos h2, if_pos h2]
      by_cases h3 : i < k
      · rw [if_pos (by omega), if_pos h3]
      · rw [if_neg (by omega), if_neg h3]
    · rw [if_neg h2, if_neg h2]
theorem mp2_at {M : List Int} {k : Nat} (h : k < 256) : (mp2 M k).getD k 0 = M.getD k 0 := by
  rw [List.getD_eq_getElem?_getD, List.getElem?_eq_getElem (by rw [mp2_len]; exact h)]
  unfold mp2
  simp
/-- The mapping. -/
def MP : List Int := mp2 (marks (kbs 4)) 256
theorem mp_def : MP = mp2 (marks (kbs 4)) 256 := rfl
theorem marks_11 : sm (marks (kbs 4)) 256 = 11 := by decide +kernel
theorem ks_size {a : Nat} (h : a < 4) : (ks a).size ≤ 1000 := by
  have : a = 0 ∨ a = 1 ∨ a = 2 ∨ a = 3 := by omega
  rcases this with rfl | rfl | rfl | rfl <;> decide
theorem take_snoc' {s : ByteArray} {k : Nat} (h : k < s.size) : s.data.toList.take (k + 1) = s.data.toList.take k ++ [s[k]] := by
  rw [List.take_succ_eq_append_getElem (by simpa using h)]; rfl
end Go.Proofs.YtkjgnkmnngaioaaGreat.Q
namespace Go.Proofs.YtkjgnkmnngaioaaGreat.Q
open Go.RowKit Go.IntWalk Go.Proofs.YtkjgnkmnngaioaaGreat.Mem
set_option linter.unusedVariables false
set_option linter.unusedSimpArgs false
abbrev pt (b : Nat) : Value := .pointer (some ⟨b, 0, none⟩)
abbrev nl : Value := .slice none 0 0
abbrev np : Value := .pointer none
abbrev TN : TypeId := 191
/-- The replacer's block, its root's table in the next one. -/
abbrev TG (g : Nat) (w : World) : Prop := Blk w g (GB (.slice (some ⟨g + 1, 0, none⟩) 11 11) 11 MP) 193
def TrS : Nat → Nat → World → Prop
  | 0, g, w => TG g w ∧ Blk w (g + 1) P11 188 ∧ w.heap.size = g + 2
  | 1, g, w => TG g w ∧ Blk w (g + 1) (P11.setIfInBounds 0 (pt (g + 2))) 188 ∧ Blk w (g + 2) (ND em 0 ⟨#[108, 116, 59]⟩ (pt (g + 3)) nl) TN ∧ Blk w (g + 3) (ND (vs 0) 8 em np nl) TN ∧ w.heap.size = g + 4
  | 2, g, w => TG g w ∧ Blk w (g + 1) (P11.setIfInBounds 0 (pt (g + 2))) 188 ∧ Blk w (g + 2) (ND em 0 em np (.slice (some ⟨g + 6, 0, none⟩) 11 11)) TN ∧ Blk w (g + 3) (ND (vs 0) 8 em np nl) TN ∧
      Blk w (g + 4) (ND em 0 ⟨#[116, 59]⟩ (pt (g + 3)) nl) TN ∧ Blk w (g + 5) (ND em 0 ⟨#[116, 59]⟩ (pt (g + 7)) nl) TN ∧ Blk w (g + 6) ((P11.setIfInBounds 4 (pt (g + 4))).setIfInBounds 3 (pt (g + 5))) 188 ∧ Blk w (g + 7) (ND (vs 1) 6 em np nl) TN ∧ w.heap.size = g + 8
  | 3, g, w => TG g w ∧ Blk w (g + 1) (P11.setIfInBounds 0 (pt (g + 2))) 188 ∧ Blk w (g + 2) (ND em 0 em np (.slice (some ⟨g + 6, 0, none⟩) 11 11)) TN ∧ Blk w (g + 3) (ND (vs 0) 8 em np nl) TN ∧
      Blk w (g + 4) (ND em 0 ⟨#[116, 59]⟩ (pt (g + 3)) nl) TN ∧ Blk w (g + 5) (ND em 0 ⟨#[116, 59]⟩ (pt (g + 7)) nl) TN ∧ Blk w (g + 6) (((P11.setIfInBounds 4 (pt (g + 4))).setIfInBounds 3 (pt (g + 5))).setIfInBounds 2 (pt (g + 8))) 188 ∧ Blk w (g + 7) (ND (vs 1) 6 em np nl) TN ∧
      Blk w (g + 8) (ND em 0 ⟨#[109, 112, 59]⟩ (pt (g + 9)) nl) TN ∧ Blk w (g + 9) (ND (vs 2) 4 em np nl) TN ∧ w.heap.size = g + 10
  | _, g, w => TG g w ∧ Blk w (g + 1) (P11.setIfInBounds 0 (pt (g + 2))) 188 ∧ Blk w (g + 2) (ND em 0 em np (.slice (some ⟨g + 6, 0, none⟩) 11 11)) TN ∧ Blk w (g + 3) (ND (vs 0) 8 em np nl) TN ∧
      Blk w (g + 4) (ND em 0 ⟨#[116, 59]⟩ (pt (g + 3)) nl) TN ∧ Blk w (g + 5) (ND em 0 ⟨#[116, 59]⟩ (pt (g + 7)) nl) TN ∧ Blk w (g + 6) ((((P11.setIfInBounds 4 (pt (g + 4))).setIfInBounds 3 (pt (g + 5))).setIfInBounds 2 (pt (g + 8))).setIfInBounds 8 (pt (g + 10))) 188 ∧ Blk w (g + 7) (ND (vs 1) 6 em np nl) TN ∧
      Blk w (g + 8) (ND em 0 ⟨#[109, 112, 59]⟩ (pt (g + 9)) nl) TN ∧ Blk w (g + 9) (ND (vs 2) 4 em np nl) TN ∧ Blk w (g + 10) (ND em 0 ⟨#[117, 111, 116, 59]⟩ (pt (g + 11)) nl) TN ∧ Blk w (g + 11) (ND (vs 3) 2 em np nl) TN ∧ w.heap.size = g + 12
theorem tg_map {g : Nat} {w : World} (h : TG g w) (c : Nat) (m : Nat) (hc : c < 256) (hm : MP.getD c 0 = (m : Int)) : w.cell? ⟨g, 6 + c, none⟩ = some (.int .u8 m) := by
  rw [h.cell, gb_map (by rw [mp_def, mp2_len]; exact hc), hm]
theorem mp_amp : MP.getD 38 0 = ((0 : Nat) : Int) := by decide +kernel
theorem mp_l : MP.getD 108 0 = ((4 : Nat) : Int) := by decide +kernel
theorem mp_g : MP.getD 103 0 = ((3 : Nat) : Int) := by decide +kernel
theorem mp_a : MP.getD 97 0 = ((2 : Nat) : Int) := by decide +kernel
theorem mp_q : MP.getD 113 0 = ((8 : Nat) : Int) := by decide +kernel
theorem TG.drew2 {g : Nat} {w : World} (h : TG g w) : TG g w.drew.drew := h
theorem hd2 (g : Nat) (w : World) : Below g w w.drew.drew := below_drewN (below_drewN (Below.refl g w) 1) 1
theorem step0 (g : Nat) (w : World) (h : TrS 0 g w) :
    Calls Tryz.prog 138 #[pt g, .string (ks 0), .string (vs 0), .int .i64 8, pt g] w fun e w' => e = .returned (.tuple #[]) ∧ TrS 1 g w' ∧ Below g w w' := by
  obtain ⟨h1, h2, h3⟩ := h
  refine (add_new g g (g + 1) (ks 0) (vs 0) 8 0 P11 188 w (by decide +kernel) (by decide +kernel) (by decide +kernel) (by omega) ((h1.cell 1).trans gb_1) ((h1.cell 2).trans gb_2) ((h1.cell 4).trans gb_4) (by decide) (tg_map h1 38 0 (by decide) mp_amp) h2 rfl).mono ?_
  rintro e w' ⟨rfl, hn⟩
  obtain ⟨n1, n2, n3, n4, n5⟩ := hn
  rw [h3] at n1 n2 n3
  have hx : (ks 0).extract 1 (ks 0).size = ⟨#[108, 116, 59]⟩ := by decide +kernel
  rw [hx] at n2
  exact ⟨rfl, ⟨n5.blk h1 (by omega), n1, n2, n3, by omega⟩, n5.below (by omega) (by omega)⟩
theorem step1 (g : Nat) (w : World) (h : TrS 1 g w) :
    Calls Tryz.prog 138 #[pt g, .string (ks 1), .string (vs 1), .int .i64 6, pt g] w fun e w' => e = .returned (.tuple #[]) ∧ TrS 2 g w' ∧ Below g w w' := by
  obtain ⟨h1, h2, h3, h4, h5⟩ := h
  have hk : (ks 1).extract 1 (ks 1).size = ⟨#[103, 116, 59]⟩ := by decide +kernel
  refine (add_down g g (g + 1) (g + 2) (ks 1) (vs 1) 6 0 11 (Split (g + 2) 4 3 ⟨#[108, 116, 59]⟩ (g + 3) ⟨#[103, 116, 59]⟩ (vs 1) 6 w.drew.drew) w (by decide +kernel) (by decide +kernel) ((h1.cell 1).trans gb_1) ((h1.cell 2).trans gb_2) ((h1.cell 4).trans gb_4) (by decide) (tg_map h1 38 0 (by decide) mp_amp) (h2.cell 0) ?_).mono ?_
  · rw [hk]
    exact add_split (g + 2) g (g + 3) ⟨#[108, 116, 59]⟩ ⟨#[103, 116, 59]⟩ (vs 1) 6 4 3 w.drew.drew h3 (by omega) (by decide +kernel) (by decide +kernel) (by decide +kernel) (by decide +kernel) (by decide +kernel) (by decide +kernel) (by decide) (by decide) ((h1.cell 5).trans gb_5) (tg_map h1 108 4 (by decide) mp_l) (tg_map h1 103 3 (by decide) mp_g)
  · rintro e w' ⟨rfl, hn⟩
    obtain ⟨n1, n2, n3, n4, n5, n6, n7⟩ := hn
    have hs : w.drew.drew.heap.size = g + 4 := h5
    rw [hs] at n1 n2 n3 n4 n5 n6
    have hx : (⟨#[108, 116, 59]⟩ : ByteArray).extract 1 (⟨#[108, 116, 59]⟩ : ByteArray).size = ⟨#[116, 59]⟩ := by decide +kernel
    have hy : (⟨#[103, 116, 59]⟩ : ByteArray).extract 1 (⟨#[103, 116, 59]⟩ : ByteArray).size = ⟨#[116, 59]⟩ := by decide +kernel
    rw [hx] at n2
    rw [hy] at n3
    exact ⟨rfl, ⟨n7.blk h1.drew2 (by omega), n7.blk (h2.drew.drew) (by omega), n1, n7.blk (h4.drew.drew) (by omega), n2, n3, n4, n5, by omega⟩, (hd2 g w).trans (n7.below (by omega) (by omega))⟩
theorem step2 (g : Nat) (w : World) (h : TrS 2 g w) :
    Calls Tryz.prog 138 #[pt g, .string (ks 2), .string (vs 2), .int .i64 4, pt g] w fun e w' => e = .returned (.tuple #[]) ∧ TrS 3 g w' ∧ Below g w w' := by
  obtain ⟨h1, h2, h3, h4, h5, h6, h7, h8, h9⟩ := h
  have hk : (ks 2).extract 1 (ks 2).size = ⟨#[97, 109, 112, 59]⟩ := by decide +kernel
  refine (add_down g g (g + 1) (g + 2) (ks 2) (vs 2) 4 0 11 (New (g + 6) 2 ((P11.setIfInBounds 4 (pt (g + 4))).setIfInBounds 3 (pt (g + 5))) 188 ((⟨#[97, 109, 112, 59]⟩ : ByteArray).extract 1 (⟨#[97, 109, 112, 59]⟩ : ByteArray).size) (vs 2) 4 w.drew.drew) w (by decide +kernel) (by decide +kernel) ((h1.cell 1).trans gb_1) ((h1.cell 2).trans gb_2) ((h1.cell 4).trans gb_4) (by decide) (tg_map h1 38 0 (by decide) mp_amp) (h2.cell 0) ?_).mono ?_
  · rw [hk]
    exact add_new (g + 2) g (g + 6) ⟨#[97, 109, 112, 59]⟩ (vs 2) 4 2 _ 188 w.drew.drew (by decide +kernel) (by decide +kernel) (by decide +kernel) (by omega) (h3.cell 1) (h3.cell 2) (h3.cell 4) (by simp) (tg_map h1 97 2 (by decide) mp_a) h7 rfl
  · rintro e w' ⟨rfl, hn⟩
    obtain ⟨n1, n2, n3, n4, n5⟩ := hn
    have hs : w.drew.drew.heap.size = g + 8 := h9
    rw [hs] at n1 n2 n3 n4
    have hx : (⟨#[97, 109, 112, 59]⟩ : ByteArray).extract 1 (⟨#[97, 109, 112, 59]⟩ : ByteArray).size = ⟨#[109, 112, 59]⟩ := by decide +kernel
    rw [hx] at n2
    exact ⟨rfl, ⟨n5.blk h1.drew2 (by omega), n5.blk (h2.drew.drew) (by omega), n5.blk (h3.drew.drew) (by omega), n5.blk (h4.drew.drew) (by omega), n5.blk (h5.drew.drew) (by omega), n5.blk (h6.drew.drew) (by omega), n1, n5.blk (h8.drew.drew) (by omega), n2, n3, by omega⟩, (hd2 g w).trans (n5.below (by omega) (by omega))⟩
theorem step3 (g : Nat) (w : World) (h : TrS 3 g w) :
    Calls Tryz.prog 138 #[pt g, .string (ks 3), .string (vs 3), .int .i64 2, pt g] w fun e w' => e = .returned (.tuple #[]) ∧ TrS 4 g w' ∧ Below g w w' := by
  obtain ⟨h1, h2, h3, h4, h5, h6, h7, h8, h9, h10, h11⟩ := h
  have hk : (ks 3).extract 1 (ks 3).size = ⟨#[113, 117, 111, 116, 59]⟩ := by decide +kernel
  refine (add_down g g (g + 1) (g + 2) (ks 3) (vs 3) 2 0 11 (New (g + 6) 8 (((P11.setIfInBounds 4 (pt (g + 4))).setIfInBounds 3 (pt (g + 5))).setIfInBounds 2 (pt (g + 8))) 188 ((⟨#[113, 117, 111, 116, 59]⟩ : ByteArray).extract 1 (⟨#[113, 117, 111, 116, 59]⟩ : ByteArray).size) (vs 3) 2 w.drew.drew) w (by decide +kernel) (by decide +kernel) ((h1.cell 1).trans gb_1) ((h1.cell 2).trans gb_2) ((h1.cell 4).trans gb_4) (by decide) (tg_map h1 38 0 (by decide) mp_amp) (h2.cell 0) ?_).mono ?_
  · rw [hk]
    exact add_new (g + 2) g (g + 6) ⟨#[113, 117, 111, 116, 59]⟩ (vs 3) 2 8 _ 188 w.drew.drew (by decide +kernel) (by decide +kernel) (by decide +kernel) (by omega) (h3.cell 1) (h3.cell 2) (h3.cell 4) (by simp) (tg_map h1 113 8 (by decide) mp_q) h7 rfl
  · rintro e w' ⟨rfl, hn⟩
    obtain ⟨n1, n2, n3, n4, n5⟩ := hn
    have hs : w.drew.drew.heap.size = g + 10 := h11
    rw [hs] at n1 n2 n3 n4
    have hx : (⟨#[113, 117, 111, 116, 59]⟩ : ByteArray).extract 1 (⟨#[113, 117, 111, 116, 59]⟩ : ByteArray).size = ⟨#[117, 111, 116, 59]⟩ := by decide +kernel
    rw [hx] at n2
    exact ⟨rfl, ⟨n5.blk h1.drew2 (by omega), n5.blk (h2.drew.drew) (by omega), n5.blk (h3.drew.drew) (by omega), n5.blk (h4.drew.drew) (by omega), n5.blk (h5.drew.drew) (by omega), n5.blk (h6.drew.drew) (by omega), n1, n5.blk (h8.drew.drew) (by omega), n5.blk (h9.drew.drew) (by omega), n5.blk (h10.drew.drew) (by omega), n2, n3, by omega⟩, (hd2 g w).trans (n5.below (by omega) (by omega))⟩
theorem steps (g a : Nat) (w : World) (ha : a < 4) (h : TrS a g w) :
    Calls Tryz.prog 138 #[pt g, .string (ks a), .string (vs a), .int .i64 (8 - ((2 * a : Nat) : Int)), pt g] w fun e w' => e = .returned (.tuple #[]) ∧ TrS (a + 1) g w' ∧ Below g w w' := by
  have : a = 0 ∨ a = 1 ∨ a = 2 ∨ a = 3 := by omega
  rcases this with rfl | rfl | rfl | rfl
  · exact step0 g w h
  · exact step1 g w h
  · exact step2 g w h
  · exact step3 g w h
theorem TrS.drew {a g : Nat} {w : World} (h : TrS a g w) : TrS a g w.drew := by
  rcases a with _ | _ | _ | _ | a <;> exact h
theorem steps' (g a ib : Nat) (w : World) (hib : ib = 2 * a) (ha : a < 4) (h : TrS a g w) :
    Calls Tryz.prog 138 #[.pointer (some ⟨g, 0, none⟩), .string (ks a), .string (vs a), .int .i64 (8 - (ib : Int)), .pointer (some ⟨g, 0, none⟩)] w fun e w' => e = .returned (.tuple #[]) ∧ TrS (a + 1) g w' ∧ Below g w w' := by
  subst hib
  exact steps g a w ha h
/-- The trie, as_ it is read. -/
structure Tri (g : Nat) (w : World) : Prop where
  root : TG g w
  tab : Blk w (g + 1) (P11.setIfInBounds 0 (pt (g + 2))) 188
  amp : Blk w (g + 2) (ND em 0 em np (.slice (some ⟨g + 6, 0, none⟩) 11 11)) TN
  lt : Blk w (g + 3) (ND (vs 0) 8 em np nl) TN
  l : Blk w (g + 4) (ND em 0 ⟨#[116, 59]⟩ (pt (g + 3)) nl) TN
  g' : Blk w (g + 5) (ND em 0 ⟨#[116, 59]⟩ (pt (g + 7)) nl) TN
  tab2 : Blk w (g + 6) ((((P11.setIfInBounds 4 (pt (g + 4))).setIfInBounds 3 (pt (g + 5))).setIfInBounds 2 (pt (g + 8))).setIfInBounds 8 (pt (g + 10))) 188
  gt : Blk w (g + 7) (ND (vs 1) 6 em np nl) TN
  a : Blk w (g + 8) (ND em 0 ⟨#[109, 112, 59]⟩ (pt (g + 9)) nl) TN
  and : Blk w (g + 9) (ND (vs 2) 4 em np nl) TN
  q : Blk w (g + 10) (ND em 0 ⟨#[117, 111, 116, 59]⟩ (pt (g + 11)) nl) TN
  quot : Blk w (g + 11) (ND (vs 3) 2 em np nl) TN
theorem Tri.of {g : Nat} {w : World} (h : TrS 4 g w) : Tri g w ∧ w.heap.size = g + 12 := by
  obtain ⟨h1, h2, h3, h4, h5, h6, h7, h8, h9, h10, h11, h12, h13⟩ := h
  exact ⟨⟨h1, h2, h3, h4, h5, h6, h7, h8, h9, h10, h11, h12⟩, h13⟩
theorem Tri.keep {g : Nat} {w w' : World} (h : Tri g w) (k : ∀ j, g ≤ j → j < g + 12 → w'.heap[j]? = w.heap[j]?) : Tri g w' :=
  ⟨h.root.of_block (k _ (by omega) (by omega)), h.tab.of_block (k _ (by omega) (by omega)), h.amp.of_block (k _ (by omega) (by omega)), h.lt.of_block (k _ (by omega) (by omega)), h.l.of_block (k _ (by omega) (by omega)), h.g'.of_block (k _ (by omega) (by omega)),
   h.tab2.of_block (k _ (by omega) (by omega)), h.gt.of_block (k _ (by omega) (by omega)), h.a.of_block (k _ (by omega) (by omega)), h.and.of_block (k _ (by omega) (by omega)), h.q.of_block (k _ (by omega) (by omega)), h.quot.of_block (k _ (by omega) (by omega))⟩
theorem Tri.top {g : Nat} {w : World} (h : Tri g w) : g + 11 < w.heap.size := h.quot.lt
end Go.Proofs.YtkjgnkmnngaioaaGreat.Q
namespace Go.Proofs.YtkjgnkmnngaioaaGreat.Q
open Go.RowKit Go.IntWalk Go.Proofs.YtkjgnkmnngaioaaGreat.Mem
set_option linter.unusedVariables false
set_option linter.unusedSimpArgs false
set_option maxRecDepth 100000 in
set_option maxHeartbeats 1600000 in
theorem gen_calls (ob c : Nat) (w : World) (hK : ∀ a, a < 4 → w.cell? ⟨ob, 2 * a, none⟩ = some (.string (ks a)) ∧ w.cell? ⟨ob, 2 * a + 1, none⟩ = some (.string (vs a))) :
    Calls Tryz.prog 128 #[.slice (some ⟨ob, 0, none⟩) 8 c] w fun e w' => e = .returned (.pointer (some ⟨w.heap.size, 0, none⟩)) ∧ TrS 4 w.heap.size w' ∧ Below w.heap.size w w' := by
  have HK := Lib.hid hK
  clear hK
  go_enter Tryz.func128, Tryz.ntmps128
  go_upto_region 2 with (fail)
  have hB1 : Blk (w.alloc (.cells Tryz.zeroCells193 193)) w.heap.size (GB (.slice none 0 0) 0 (marks (kbs 0))) 193 := by
    have := Blk.alloc w Tryz.zeroCells193 193
    rw [gb_zero] at this ⊢
    exact this
  have HB1 := Lib.hid hB1
  have HW1 := Lib.hid ((Below.refl w.heap.size w).alloc (Nat.le_refl _) (.cells Tryz.zeroCells193 193))
  have HS1 := Lib.hid (show (w.alloc (.cells Tryz.zeroCells193 193)).heap.size = w.heap.size + 1 by simp)
  clear hB1
  obtain ⟨g, hg⟩ : ∃ g, g = w.heap.size := ⟨_, rfl⟩
  rw [← hg] at HB1 HS1 ⊢
  have HG := Lib.hid hg
  clear hg
  generalize w.alloc (.cells Tryz.zeroCells193 193) = W1 at HB1 HW1 HS1 ⊢
  go_wp2_with fail
  go_loopw [4] (fun iv wr => ∃ a ia : Nat, Hid (ia = 2 * a) ∧ ia ≤ 8 ∧ iv = .int .i64 (ia : Int) ∧ Hid (Blk wr g (GB (.slice none 0 0) 0 (marks (kbs a))) 193) ∧ Hid (Below w.heap.size w wr) ∧ Hid (wr.heap.size = g + 1)) (fun iv _ => 8 - (intOf iv).toNat)
  case atStart => exact ⟨0, 0, Lib.hid rfl, by omega, rfl, HB1, HW1, HS1⟩
  case round =>
    clear HB1 HW1 HS1
    obtain ⟨a, ia, HIA, hi8, rfl, HB, HW, HS⟩ := hrel
    by_cases hi : ia < 8
    · have h4 : a < 4 := by have := HIA.out; omega
      have hk0 : wr.cell? ⟨ob, ia, none⟩ = some (.string (ks a)) := by rw [HIA.out]; exact (HW.out.cell (World.block_lt_of_cell? w _ (HK.out a h4).1)).trans (HK.out a h4).1
      have u1 : (ia : Int) < 8 := by omega
      have u2 : (0 : Int) ≤ (ia : Int) := by omega
      have HKB := Lib.hid (kbs_succ h4)
      have HKS := Lib.hid (ks_size h4)
      generalize ks a = key at HKB HKS hk0
      have hks : key.size ≤ 1000 := HKS.out
      go_wp2_with fail
      go_loopw [6] (fun jv wr => ∃ j : Nat, j ≤ key.size ∧ jv = .int .i64 j ∧ Hid (Blk wr g (GB (.slice none 0 0) 0 (marks (kbs a ++ key.data.toList.take j))) 193) ∧ Hid (Below w.heap.size w wr) ∧ Hid (wr.heap.size = g + 1)) (fun jv _ => key.size - (intOf jv).toNat)
      case atStart => exact ⟨0, by omega, rfl, by rw [List.take_zero, List.append_nil]; exact HB, HW, HS⟩
      case round =>
        clear HB HW HS
        obtain ⟨j, hj, rfl, HB, HW, HS⟩ := hrel
        by_cases hlt : j < key.size
        · have x1 : (j : Int) < (key.size : Int) := by omega
          have x2 : (0 : Int) ≤ (j : Int) := by omega
          have x3 : (key[j].toNat : Int) < 256 := by have := key[j].toNat_lt; omega
          have HM := Lib.hid (show marks (kbs a ++ key.data.toList.take (j + 1)) = (marks (kbs a ++ key.data.toList.take j)).set key[j].toNat 1 by rw [take_snoc' hlt, ← List.append_assoc, marks_snoc])
          have hc := HB.out.drew.cell (6 + key[j].toNat)
          rw [gb_map (by rw [marks_len]; omega)] at hc
          have hz := HB.out.drew.free (6 + key[j].toNat)
          go_upto_region 9 with (fail)
          go_still_tail 7, (by kernel_rfl)
          change wpList _ _ _ _ _ wr.drew
          have HB2 := Lib.hid (HB.out.drew.set (6 + key[j].toNat) (.int .u8 1))
          have HW2 := Lib.hid (below_drewN HW.out 1)
          have HS2 := Lib.hid (show wr.drew.heap.size = g + 1 from HS.out)
          change Hid (Below w.heap.size w wr.drew) at HW2
          generalize wr.drew = W2 at HB2 HW2 HS2 hc hz ⊢
          clear HB HW HS
          go_wp2_with fail
          clear hc hz
          go_roundw
          case rel =>
            refine ⟨j + 1, by omega, by go_num, ?_, ?_, ?_⟩
            · rw [HM.out, ← gb_set]; exact HB2
            · exact Lib.hid (HW2.out.setCell (Nat.le_of_eq HG.out.symm) _)
            · exact Lib.hid ((size_set _ _ _).trans HS2.out)
          case measure => simp [intOf]; omega
        · have x1 : ¬ (j : Int) < (key.size : Int) := by omega
          have hjj : j = key.size := by omega
          have HB2 := Lib.hid (show Blk wr g (GB (.slice none 0 0) 0 (marks (kbs (a + 1)))) 193 by
            have := HB.out
            rw [hjj, List.take_of_length_le (by simp), ← HKB.out] at this
            exact this)
          clear HB hjj
          go_wp2_with fail
          go_roundw
          case rel => exact ⟨a + 1, ia + 2, Lib.hid (by have := HIA.out; omega), by have := HIA.out; omega, by go_num, HB2, HW, HS⟩
          case measure => simp [intOf]; omega
    · have h4 : a = 4 := by have := HIA.out; omega
      have u1 : ¬ (ia : Int) < 8 := by omega
      have HB1 := Lib.hid (show Blk wr g (GB (.slice none 0 0) 0 (marks (kbs 4))) 193 by rw [← h4]; exact HB.out)
      clear h4 HB HIA
      go_upto_region 10 with (fail)
      have HM := Lib.hid (marks_len (kbs 4))
      have HM01 := Lib.hid (marks_01 (kbs 4))
      have HMC := Lib.hid (show marks (kbs 4) = marks (kbs 4) from rfl)
      generalize hMM : marks (kbs 4) = M at HB1 HM HM01 ⊢
      have HMM := Lib.hid hMM
      clear hMM HMC
      have hr : wr.rangeAt g 6 (M.map fun x => Value.int .u8 x) := gb_range HB1.out
      have hi : (Tryz.prog.info? 174).map (·.size) = some (M.map fun x => Value.int .u8 x).length := by rw [List.length_map, HM.out]; kernel_rfl
      have HR := Lib.hid hr
      have HI := Lib.hid hi
      clear hr hi
      go_upto_region 11 with (refine wpList_load_mid (op := ⟨some 40, _, _, _, _, _⟩) rfl 174 (.tmp 39) rfl g 6 rfl _ _ HR.out Tryz.underlying174 rfl HI.out ?_)
      clear HR HI
      have ha : ∀ k, k < 256 → (M.map fun x => Value.int .u8 x).toArray[k]? = some (.int .u8 (M.getD k 0)) := fun k hk => by
        rw [List.getElem?_toArray, List.getElem?_map, List.getElem?_eq_getElem (by have := HM.out; omega), List.getD_eq_getElem?_getD, List.getElem?_eq_getElem (by have := HM.out; omega)]
        rfl
      have HA := Lib.hid ha
      clear ha
      generalize (M.map fun x => Value.int .u8 x).toArray = AM at HA ⊢
      go_loopw [41] (fun kv wr => ∃ k : Nat, k ≤ 256 ∧ kv = .int .i64 k ∧ Hid (Blk wr g (GB (.slice none 0 0) (sm M k) M) 193) ∧ Hid (Below w.heap.size w wr) ∧ Hid (wr.heap.size = g + 1)) (fun kv _ => 256 - (intOf kv).toNat)
      case atStart => exact ⟨0, by omega, rfl, HB1, HW, HS⟩
      case round =>
        clear HB1 HW HS
        obtain ⟨k, hk, rfl, HB, HW, HS⟩ := hrel
        by_cases hlt : k < 256
        · have x1 : (k : Int) < 256 := by omega
          have x2 : (0 : Int) ≤ (k : Int) := by omega
          have hx := idx_agg AM k _ hlt (HA.out k hlt)
          have HN := Lib.hid (sm_succ (M := M) (k := k) (by have := HM.out; omega))
          have c5 : wr.cell? ⟨g, 5, none⟩ = some (.int .i64 (sm M k)) := (HB.out.cell 5).trans (by simp [GB])
          have f5 := HB.out.free 5
          have hb := sm_le HM01.out k (by have := HM.out; omega)
          have hm := HM01.out k
          generalize M.getD k 0 = b at hx HN hm
          have hb1 : 0 ≤ b ∧ b ≤ 1 := by omega
          have HB2 := Lib.hid (HB.out.set 5 (.int .i64 (sm M k + b)))
          clear hm
          generalize sm M k = t at c5 HN hb HB2
          obtain ⟨hb2, hb3⟩ := hb1
          obtain ⟨hb4, hb5⟩ := hb
          have hb6 : t ≤ 256 := by omega
          clear hb5
          go_upto_region 14 with (fail)
          have HS2 := Lib.hid ((size_set wr ⟨g, 5, none⟩ (.int .i64 (t + b))).trans HS.out)
          have HW2 := Lib.hid (show Below w.heap.size w (wr.setCell ⟨g, 5, none⟩ (.int .i64 (t + b))) from HW.out.setCell (Nat.le_of_eq HG.out.symm) _)
          clear c5 f5 HB HS HW hx
          rw [gb_ts] at HB2
          generalize wr.setCell ⟨g, 5, none⟩ (.int .i64 (t + b)) = W2 at HB2 HS2 HW2 ⊢
          go_wp2_with fail
          go_roundw
          case rel => exact ⟨k + 1, by omega, by go_num, by rw [HN.out]; exact HB2, HW2, HS2⟩
          case measure => simp [intOf]; omega
        · have x1 : ¬ (k : Int) < 256 := by omega
          have hk2 : k = 256 := by omega
          have HB2 := Lib.hid (show Blk wr g (GB (.slice none 0 0) 11 M) 193 by
            have := HB.out
            rw [hk2, ← HMM.out, marks_11, HMM.out] at this
            exact this)
          clear hk2 HB HA
          go_upto_region 16 with (fail)
          have hr : wr.rangeAt g 6 (M.map fun x => Value.int .u8 x) := gb_range HB2.out
          have hi : (Tryz.prog.info? 174).map (·.size) = some (M.map fun x => Value.int .u8 x).length := by rw [List.length_map, HM.out]; kernel_rfl
          have HR := Lib.hid hr
          have HI := Lib.hid hi
          clear hr hi
          go_upto_region 17 with (refine wpList_load_mid (op := ⟨some 57, _, _, _, _, _⟩) rfl 174 (.tmp 56) rfl g 6 rfl _ _ HR.out Tryz.underlying174 rfl HI.out ?_)
          clear HR HI
          have ha : ∀ k, k < 256 → (M.map fun x => Value.int .u8 x).toArray[k]? = some (.int .u8 (M.getD k 0)) := fun k hk => by
            rw [List.getElem?_toArray, List.getElem?_map, List.getElem?_eq_getElem (by have := HM.out; omega), List.getD_eq_getElem?_getD, List.getElem?_eq_getElem (by have := HM.out; omega)]
            rfl
          have HA := Lib.hid ha
          clear ha
          generalize (M.map fun x => Value.int .u8 x).toArray = AM2 at HA ⊢
          go_loopw [9, 58] (fun xv kv wr => ∃ k : Nat, k ≤ 256 ∧ xv = .int .u8 (sm M k) ∧ kv = .int .i64 k ∧ Hid (Blk wr g (GB (.slice none 0 0) 11 (mp2 M k)) 193) ∧ Hid (Below w.heap.size w wr) ∧ Hid (wr.heap.size = g + 1)) (fun _ kv _ => 256 - (intOf kv).toNat)
          case atStart => exact ⟨0, by omega, by simp [sm], rfl, by rw [mp2_zero HM.out]; exact HB2, HW, HS⟩
          case round =>
            clear HB2 HW HS x1
            obtain ⟨k, hk, rfl, rfl, HB, HW, HS⟩ := hrel
            by_cases hlt : k < 256
            · have x1 : (k : Int) < 256 := by omega
              have x2 : (0 : Int) ≤ (k : Int) := by omega
              have hx := idx_agg AM2 k _ hlt (HA.out k hlt)
              have HN := Lib.hid (sm_succ (M := M) (k := k) (by have := HM.out; omega))
              have HM2 := Lib.hid (mp2_succ (M := M) hlt)
              have ck := HB.out.cell (6 + k)
              rw [gb_map (by rw [mp2_len]; omega), mp2_at hlt] at ck
              have fk := HB.out.free (6 + k)
              have c5 : wr.cell? ⟨g, 5, none⟩ = some (.int .i64 11) := HB.out.cell 5
              have hb := sm_le HM01.out k (by have := HM.out; omega)
              have hb7 : sm M k ≤ 11 := by
                have h1 := sm_mono HM01.out (k := k) (n := 256) hk (by have := HM.out; omega)
                have h2 := marks_11
                rw [HMM.out] at h2
                omega
              have hm := HM01.out k
              rcases hm with hm | hm
              · rw [hm] at hx HN ck HM2
                have HM3 := Lib.hid (HM2.out.trans (by rw [if_pos rfl]))
                have dk : wr.drew.cell? ⟨g, 6 + k, none⟩ = some (.int .u8 0) := ck
                have df : wr.drew.frozen? ⟨g, 6 + k, none⟩ = false := fk
                go_upto_region 20 with (fail)
                clear ck fk hx
                go_still_tail 10, (by kernel_rfl)
                change wpList _ _ _ _ _ wr.drew
                have HB2 := Lib.hid (HB.out.drew.set (6 + k) (.int .u8 11))
                have HW2 := Lib.hid (show Below w.heap.size w wr.drew from below_drewN HW.out 1)
                have HS2 := Lib.hid (show wr.drew.heap.size = g + 1 from HS.out)
                clear c5 HB HW HS
                rw [gb_set] at HB2
                generalize wr.drew = W2 at HB2 HW2 HS2 dk df ⊢
                go_wp2_with fail
                clear dk df
                go_roundw
                case rel =>
                  refine ⟨k + 1, by omega, by rw [HN.out, Int.add_zero], by go_num, ?_, ?_, ?_⟩
                  · rw [HM3.out]; exact HB2
                  · exact Lib.hid (HW2.out.setCell (Nat.le_of_eq HG.out.symm) _)
                  · exact Lib.hid ((size_set _ _ _).trans HS2.out)
                case measure => simp [intOf]; omega
              · rw [hm] at hx HN ck HM2
                have HM3 := Lib.hid (HM2.out.trans (by rw [if_neg (by decide)]))
                have hb0 := hb.1
                have hb8 : 0 ≤ sm M k + 1 ∧ sm M k + 1 ≤ 12 := by omega
                clear hb
                generalize hT : sm M k = t at *
                go_upto_region 22 with (fail)
                have HB2 := Lib.hid (HB.out.set (6 + k) (.int .u8 t))
                have HW2 := Lib.hid (show Below w.heap.size w (wr.setCell ⟨g, 6 + k, none⟩ (.int .u8 t)) from HW.out.setCell (Nat.le_of_eq HG.out.symm) _)
                have HS2 := Lib.hid ((size_set wr ⟨g, 6 + k, none⟩ (.int .u8 t)).trans HS.out)
                rw [gb_set] at HB2
                clear c5 HB HW HS ck fk hx
                generalize wr.setCell ⟨g, 6 + k, none⟩ (.int .u8 t) = W2 at HB2 HW2 HS2 ⊢
                go_wp2_with fail
                go_roundw
                case rel =>
                  refine ⟨k + 1, by omega, by rw [HN.out], by go_num, ?_, HW2, HS2⟩
                  rw [HM3.out]; exact HB2
                case measure => simp [intOf]; omega
            · have x1 : ¬ (k : Int) < 256 := by omega
              have hk2 : k = 256 := by omega
              have HB2 := Lib.hid (show Blk wr g (GB (.slice none 0 0) 11 MP) 193 by
                have := HB.out
                rw [hk2, ← HMM.out, ← mp_def] at this
                exact this)
              clear hk2 HB HA HMM HM HM01
              go_upto_region 24 with (fail)
              have c5 : wr.cell? ⟨g, 5, none⟩ = some (.int .i64 11) := (HB2.out.cell 5).trans gb_5
              have hmk := mk11
              have d4 : ∀ o, (wr.alloc o).cell? ⟨g, 4, none⟩ = some nl := fun o => ((HB2.out.alloc_old o).cell 4).trans gb_4
              have d5 : ∀ o, (wr.alloc o).frozen? ⟨g, 4, none⟩ = false := fun o => (HB2.out.alloc_old o).free 4
              go_upto_region 25 with (fail)
              have HS3 := HS.out
              have HT0 := Lib.hid (show TrS 0 g ((wr.alloc (.cells P11 188)).setCell ⟨g, 4, none⟩ (.slice (some ⟨wr.heap.size, 0, none⟩) 11 11)) from by
                refine ⟨?_, ?_, ?_⟩
                · have h1 := (HB2.out.alloc_old (.cells P11 188)).set 4 (.slice (some ⟨wr.heap.size, 0, none⟩) 11 11)
                  rw [gb_tb] at h1
                  rw [HS3] at h1 ⊢
                  exact h1
                · have h1 := (Blk.alloc wr P11 188).setCell_other (a := ⟨g, 4, none⟩) (.slice (some ⟨wr.heap.size, 0, none⟩) 11 11) (by show wr.heap.size ≠ g; omega)
                  rw [HS3] at h1 ⊢
                  exact h1
                · rw [size_set]; simp; omega)
              have HW3 := Lib.hid (show Below w.heap.size w ((wr.alloc (.cells P11 188)).setCell ⟨g, 4, none⟩ (.slice (some ⟨wr.heap.size, 0, none⟩) 11 11)) from (HW.out.alloc (by have := HG.out; omega) _).setCell (Nat.le_of_eq HG.out.symm) _)
              clear c5 hmk d4 d5 HB2 HS HW HS3
              generalize (wr.alloc (.cells P11 188)).setCell ⟨g, 4, none⟩ (.slice (some ⟨wr.heap.size, 0, none⟩) 11 11) = W3 at HT0 HW3 ⊢
              go_wp2_with fail
              go_loopw [12] (fun iv wr => ∃ a ia : Nat, Hid (ia = 2 * a) ∧ ia ≤ 8 ∧ iv = .int .i64 (ia : Int) ∧ Hid (TrS a g wr) ∧ Hid (Below w.heap.size w wr)) (fun iv _ => 8 - (intOf iv).toNat)
              case atStart => exact ⟨0, 0, Lib.hid rfl, by omega, rfl, HT0, HW3⟩
              case round =>
                clear HT0 HW3 x1
                obtain ⟨a, ib, HIA, hi8, rfl, HT, HW⟩ := hrel
                by_cases hi : ib < 8
                · have h4 : a < 4 := by have := HIA.out; omega
                  have hk0 : wr.cell? ⟨ob, ib, none⟩ = some (.string (ks a)) := by rw [HIA.out]; exact (HW.out.cell (World.block_lt_of_cell? w _ (HK.out a h4).1)).trans (HK.out a h4).1
                  have hk1 : wr.cell? ⟨ob, ib + 1, none⟩ = some (.string (vs a)) := by rw [HIA.out]; exact (HW.out.cell (World.block_lt_of_cell? w _ (HK.out a h4).2)).trans (HK.out a h4).2
                  have u1 : (ib : Int) < 8 := by omega
                  have u2 : (0 : Int) ≤ (ib : Int) := by omega
                  have u3 : IntKind.i64.wrap ((ib : Int) + 1) = (ib : Int) + 1 := i64_in _ (by omega)
                  have u4 : (ib : Int) + 1 < 8 := by have := HIA.out; omega
                  have u5 : IntKind.i64.wrap (8 - (ib : Int)) = 8 - (ib : Int) := i64_in _ (by omega)
                  have u6 : (0 : Int) ≤ (ib : Int) + 1 := by omega
                  have u7 : ((ib : Int) + 1).toNat = ib + 1 := by omega
                  go_upto_region 28 with (fail)
                  go_still_tail 17, (by kernel_rfl)
                  change wpList _ _ _ _ _ wr.drew
                  have HT2 := Lib.hid HT.out.drew
                  have HW2 := Lib.hid (show Below w.heap.size w wr.drew from below_drewN HW.out 1)
                  clear hk0 hk1 HT HW u3 u5 u7
                  generalize wr.drew = W5 at HT2 HW2 ⊢
                  go_wp2_with (go_at_call 138; refine (steps' g a ib _ HIA.out h4 HT2.out).mono ?_; rintro e w5 ⟨rfl, ht, hb⟩; have HT3 := Lib.hid ht; have HB3 := Lib.hid hb; clear ht hb)
                  have HW3 := Lib.hid (HW2.out.trans (HB3.out.mono (Nat.le_of_eq HG.out.symm)))
                  go_roundw
                  case rel => exact ⟨a + 1, ib + 2, Lib.hid (by have := HIA.out; omega), by have := HIA.out; omega, by go_num, HT3, HW3⟩
                  case measure => simp [intOf]; omega
                · have u1 : ¬ (ib : Int) < 8 := by omega
                  have ha : a = 4 := by have := HIA.out; omega
                  have HT2 := Lib.hid (show TrS 4 g wr by rw [← ha]; exact HT.out)
                  clear ha HT HIA
                  go_wp2_with fail
                  go_ret
                  exact ⟨by rw [HG.out]; rfl, by rw [← HG.out]; exact HT2.out, HW.out⟩
end Go.Proofs.YtkjgnkmnngaioaaGreat.Q
namespace Go.Proofs.YtkjgnkmnngaioaaGreat.Q
open Go.RowKit Go.IntWalk Go.Proofs.YtkjgnkmnngaioaaGreat.Mem
set_option linter.unusedVariables false
set_option linter.unusedSimpArgs false
def pn : Nat → Nat
  | 0 => 4
  | 1 => 5
  | 2 => 8
  | _ => 10
def ln : Nat → Nat
  | 0 => 3
  | 1 => 7
  | 2 => 9
  | _ => 11
/-- What stands behind the second byte. -/
def px : Nat → ByteArray
  | 0 => ⟨#[116, 59]⟩
  | 1 => ⟨#[116, 59]⟩
  | 2 => ⟨#[109, 112, 59]⟩
  | _ => ⟨#[117, 111, 116, 59]⟩
def pr : Nat → Int
  | 0 => 8
  | 1 => 6
  | 2 => 4
  | _ => 2
theorem tri_p {g : Nat} {w : World} (h : Tri g w) (i : Nat) : Blk w (g + pn i) (ND em 0 (px i) (pt (g + ln i)) nl) TN := by
  rcases i with _ | _ | _ | i
  · exact h.l
  · exact h.g'
  · exact h.a
  · exact h.q
theorem tri_l {g : Nat} {w : World} (h : Tri g w) {i : Nat} (hi : i < 4) : Blk w (g + ln i) (ND (vs i) (pr i) em np nl) TN := by
  have : i = 0 ∨ i = 1 ∨ i = 2 ∨ i = 3 := by omega
  rcases this with rfl | rfl | rfl | rfl
  · exact h.lt
  · exact h.gt
  · exact h.and
  · exact h.quot
theorem pr_pos (i : Nat) : 0 < pr i := by
  rcases i with _ | _ | _ | i
  · show (0 : Int) < 8; omega
  · show (0 : Int) < 6; omega
  · show (0 : Int) < 4; omega
  · show (0 : Int) < 2; omega
theorem px_ne (i : Nat) : (px i).toList.isEmpty = false := by
  rcases i with _ | _ | _ | i
  · decide +kernel
  · decide +kernel
  · decide +kernel
  · show (px 3).toList.isEmpty = false; decide +kernel
/-- Does it begin so? -/
def hpB (s p : ByteArray) : Bool := if p.size ≤ s.size then (s.extract 0 p.size).toList == p.toList else false
theorem rb {a b : Bool} (h : a = b) : Ending.returned (.bool a) = .returned (.bool b) := by rw [h]
set_option maxRecDepth 100000 in
theorem pre_calls (s p : ByteArray) (w : World) : Calls Tryz.prog 151 #[.string s, .string p] w fun e w' => e = .returned (.bool (hpB s p)) ∧ w = w' := by
  by_cases h : p.size ≤ s.size
  · go_enter Tryz.func151, Tryz.ntmps151
    go_wp2
    go_ret
    exact ⟨rb (by unfold hpB; rw [if_pos h]), rfl⟩
  · go_enter Tryz.func151, Tryz.ntmps151
    go_wp2
    go_ret
    exact ⟨rb (by unfold hpB; rw [if_neg h]), rfl⟩
theorem empty_list {s : ByteArray} (h : s.size = 0) : s.toList.isEmpty = true := by
  rw [ByteArray.toList_eq]
  have : s.data.toList.length = 0 := by simpa using h
  rw [List.length_eq_zero_iff.1 this]; rfl
theorem ne_list {s : ByteArray} (h : 0 < s.size) : s.toList.isEmpty = false := by
  rw [ByteArray.toList_eq]
  have : s.data.toList.length = s.size := by simp
  cases hl : s.data.toList with
  | nil => rw [hl] at this; simp at this; omega
  | cons c r => rfl
/-- Which sign has this second byte? -/
def lkI (c : UInt8) : Option Nat := if c.toNat = 108 then some 0 else if c.toNat = 103 then some 1 else if c.toNat = 97 then some 2 else if c.toNat = 113 then some 3 else none
def kb : Nat → Nat
  | 0 => 108
  | 1 => 103
  | 2 => 97
  | _ => 113
def mi : Nat → Nat
  | 0 => 4
  | 1 => 3
  | 2 => 2
  | _ => 8
theorem lkI_some {c : UInt8} {i : Nat} (h : lkI c = some i) : i < 4 ∧ c.toNat = kb i := by
  unfold lkI at h
  split at h
  · cases h; exact ⟨by omega, by assumption⟩
  · split at h
    · cases h; exact ⟨by omega, by assumption⟩
    · split at h
      · cases h; exact ⟨by omega, by assumption⟩
      · split at h
        · cases h; exact ⟨by omega, by assumption⟩
        · cases h
theorem mi_lt (i : Nat) : mi i < 11 := by
  rcases i with _ | _ | _ | i
  · show 4 < 11; omega
  · show 3 < 11; omega
  · show 2 < 11; omega
  · show 8 < 11; omega
theorem mp_kb {i : Nat} (h : i < 4) : kb i < 256 ∧ MP.getD (kb i) 0 = (mi i : Int) := by
  have : i = 0 ∨ i = 1 ∨ i = 2 ∨ i = 3 := by omega
  rcases this with rfl | rfl | rfl | rfl
  · exact ⟨by decide, mp_l⟩
  · exact ⟨by decide, mp_g⟩
  · exact ⟨by decide, mp_a⟩
  · exact ⟨by decide, mp_q⟩
theorem tab_mi {g : Nat} {w : World} (h : Tri g w) {i : Nat} (hi : i < 4) : w.cell? ⟨g + 6, mi i, none⟩ = some (pt (g + pn i)) := by
  have : i = 0 ∨ i = 1 ∨ i = 2 ∨ i = 3 := by omega
  rcases this with rfl | rfl | rfl | rfl
  · exact h.tab2.cell 4
  · exact h.tab2.cell 3
  · exact h.tab2.cell 2
  · exact h.tab2.cell 8
def offs : List Nat := [0, 1, 5, 6, 7, 9, 10]
theorem mp_all : ((List.range 256).all fun c => decide (c = 108) || decide (c = 103) || decide (c = 97) || decide (c = 113) || decide (MP.getD c 0 = 11) || offs.any fun m => decide (MP.getD c 0 = (m : Int))) = true := by decide +kernel
theorem mp_none {c : UInt8} (h : lkI c = none) : MP.getD c.toNat 0 = 11 ∨ ∃ m, m ∈ offs ∧ MP.getD c.toNat 0 = (m : Int) := by
  unfold lkI at h
  have h1 : ¬ c.toNat = 108 := fun e => by rw [if_pos e] at h; cases h
  rw [if_neg h1] at h
  have h2 : ¬ c.toNat = 103 := fun e => by rw [if_pos e] at h; cases h
  rw [if_neg h2] at h
  have h3 : ¬ c.toNat = 97 := fun e => by rw [if_pos e] at h; cases h
  rw [if_neg h3] at h
  have h4 : ¬ c.toNat = 113 := fun e => by rw [if_pos e] at h; cases h
  have := List.all_eq_true.1 mp_all c.toNat (List.mem_range.2 c.toNat_lt)
  simp only [Bool.or_eq_true, decide_eq_true_eq, h1, h2, h3, h4, false_or, List.any_eq_true] at this
  exact this
theorem offs_lt {m : Nat} (h : m ∈ offs) : m < 11 := by
  unfold offs at h
  simp only [List.mem_cons, List.not_mem_nil, or_false] at h
  omega
theorem tab_off {g : Nat} {w : World} (h : Tri g w) {m : Nat} (hm : m ∈ offs) : w.cell? ⟨g + 6, m, none⟩ = some np := by
  unfold offs at hm
  simp only [List.mem_cons, List.not_mem_nil, or_false] at hm
  rcases hm with rfl | rfl | rfl | rfl | rfl | rfl | rfl
  · exact h.tab2.cell 0
  · exact h.tab2.cell 1
  · exact h.tab2.cell 5
  · exact h.tab2.cell 6
  · exact h.tab2.cell 7
  · exact h.tab2.cell 9
  · exact h.tab2.cell 10
theorem px_size (i : Nat) : 0 < (px i).size ∧ (px i).size ≤ 4 := by
  rcases i with _ | _ | _ | i
  · show 0 < (px 0).size ∧ (px 0).size ≤ 4; decide
  · show 0 < (px 1).size ∧ (px 1).size ≤ 4; decide
  · show 0 < (px 2).size ∧ (px 2).size ≤ 4; decide
  · show 0 < (px 3).size ∧ (px 3).size ≤ 4; decide
def tl (s : ByteArray) : ByteArray := s.extract 1 s.size
/-- Which sign does it begin with? -/
def lkF (s : ByteArray) : Option Nat := if h : 0 < (tl s).size then (match lkI (tl s)[0] with | some i => if hpB (tl (tl s)) (px i) = true then some i else none | none => none) else none
def lkV : Option Nat → Value
  | some i => .tuple #[.string (vs i), .int .i64 (2 + ((px i).size : Int)), .bool true]
  | none => .tuple #[.string em, .int .i64 0, .bool false]
/-- Where a lookup stands: what is left, what was found, the node, how far. -/
inductive Lk (g : Nat) (s : ByteArray) : Value → Value → Value → Value → Value → Value → Value → Prop
  | root : Lk g s (.string s) (.string em) (.int .i64 0) (.bool false) (.int .i64 0) (pt g) (.int .i64 0)
  | amp : Lk g s (.string (tl s)) (.string em) (.int .i64 0) (.bool false) (.int .i64 0) (pt (g + 2)) (.int .i64 1)
  | key (i : Nat) : i < 4 → (∃ h : 0 < (tl s).size, lkI (tl s)[0] = some i) → Lk g s (.string (tl (tl s))) (.string em) (.int .i64 0) (.bool false) (.int .i64 0) (pt (g + pn i)) (.int .i64 2)
  | none : lkF s = none → Lk g s (.string (tl (tl s))) (.string em) (.int .i64 0) (.bool false) (.int .i64 0) np (.int .i64 2)
  | leaf (i : Nat) (r : ByteArray) : i < 4 → lkF s = some i → Lk g s (.string r) (.string em) (.int .i64 0) (.bool false) (.int .i64 0) (pt (g + ln i)) (.int .i64 (2 + ((px i).size : Int)))
set_option maxRecDepth 100000 in
set_option maxHeartbeats 4000000 in
theorem look (g : Nat) (s : ByteArray) (w : World) (hT : Tri g w) (h0 : 0 < s.size) (h38 : s[0].toNat = 38) (hne : s.toList.isEmpty = false) :
    Calls Tryz.prog 189 #[.pointer (some ⟨g, 0, none⟩), .string s, .bool false] w fun e w' => e = .returned (lkV (lkF s)) ∧ ∃ n, w' = w.drewN n := by
  have HT := Lib.hid hT
  have H38 := Lib.hid h38
  clear hT h38
  go_enter Tryz.func189, Tryz.ntmps189
  go_wp2_with fail
  go_loopw [1, 6, 7, 8, 9, 10, 11] (fun sv vv kv fv bv nv iv wr => Lk g s sv vv kv fv bv nv iv ∧ Hid (Tri g wr) ∧ Hid (∃ n, wr = w.drewN n)) (fun _ _ _ _ _ _ iv _ => 1000 - (intOf iv).toNat)
  case atStart => exact ⟨.root, HT, Lib.hid ⟨0, rfl⟩⟩
  case round =>
    obtain ⟨hl, HTr, HD⟩ := hrel
    have q := qneq
    cases hl with
    | root =>
      have c1 : wr.cell? ⟨g, 1, none⟩ = some (.int .i64 0) := (HTr.out.root.cell 1).trans gb_1
      have c4 : wr.cell? ⟨g, 4, none⟩ = some (.slice (some ⟨g + 1, 0, none⟩) 11 11) := (HTr.out.root.cell 4).trans gb_4
      have hm : wr.cell? ⟨g, 6 + s[0].toNat, none⟩ = some (.int .u8 ((0 : Nat) : Int)) := by rw [H38.out]; exact tg_map HTr.out.root 38 0 (by decide) mp_amp
      have hc : (s[0].toNat : Int) < 256 := by have := s[0].toNat_lt; omega
      go_upto_region 12 with (fail)
      go_still (by kernel_rfl)
      show Exit.then _ _ _ _ wr.drew
      have HT2 := Lib.hid (show Tri g wr.drew from HTr.out.keep (fun j _ _ => rfl))
      have HD2 := Lib.hid (show ∃ n, wr.drew = w.drewN n from by obtain ⟨n, rfl⟩ := HD.out; exact ⟨n + 1, by simp [World.drewN, World.drew, Nat.add_assoc]⟩)
      clear c1 c4 hm hc HTr HD
      generalize wr.drew = W2 at HT2 HD2 ⊢
      have c4 : W2.cell? ⟨g, 4, none⟩ = some (.slice (some ⟨g + 1, 0, none⟩) 11 11) := (HT2.out.root.cell 4).trans gb_4
      have c5 : W2.cell? ⟨g, 5, none⟩ = some (.int .i64 11) := (HT2.out.root.cell 5).trans gb_5
      have ct : W2.cell? ⟨g + 1, 0, none⟩ = some (pt (g + 2)) := HT2.out.tab.cell 0
      have k1 : (1 : Int) ≤ (s.size : Int) := by omega
      go_wp2_with fail
      go_roundw
      case rel => exact ⟨.amp, HT2, HD2⟩
      case measure => simp [intOf]
    | amp =>
      have c1 : wr.cell? ⟨g + 2, 1, none⟩ = some (.int .i64 0) := HTr.out.amp.cell 1
      have c2 : wr.cell? ⟨g + 2, 2, none⟩ = some (.string em) := HTr.out.amp.cell 2
      have c4 : wr.cell? ⟨g + 2, 4, none⟩ = some (.slice (some ⟨g + 6, 0, none⟩) 11 11) := HTr.out.amp.cell 4
      obtain ⟨s1, hs1⟩ : ∃ s1, s1 = tl s := ⟨_, rfl⟩
      rw [← hs1]
      have HS1 := Lib.hid hs1
      clear hs1
      by_cases he : s1.size = 0
      · have h1 : s1.toList.isEmpty = true := empty_list he
        have HN := Lib.hid (show lkF s = none by unfold lkF; rw [dif_neg (by rw [← HS1.out]; omega)])
        clear he
        go_wp2_with fail
        go_ret3
        exact ⟨by rw [HN.out]; rfl, HD.out⟩
      · have he' : 0 < s1.size := by omega
        have h1 : s1.toList.isEmpty = false := ne_list he'
        have k1 : (1 : Int) ≤ (s1.size : Int) := by omega
        have hc : (s1[0].toNat : Int) < 256 := by have := s1[0].toNat_lt; omega
        have HLK := Lib.hid (show lkF s = (match lkI s1[0] with | some i => if hpB (tl s1) (px i) = true then some i else none | none => none) by
          have h2 : 0 < (tl s).size := by rw [← HS1.out]; exact he'
          unfold lkF
          rw [dif_pos h2]
          simp only [← HS1.out])
        cases hI : lkI s1[0] with
        | some i =>
          obtain ⟨hi4, hkb⟩ := lkI_some hI
          have HKI := Lib.hid (show ∃ h : 0 < (tl s).size, lkI (tl s)[0] = some i from by
            refine ⟨by rw [← HS1.out]; exact he', ?_⟩
            simp only [← HS1.out]
            exact hI)
          have hm : wr.cell? ⟨g, 6 + s1[0].toNat, none⟩ = some (.int .u8 (mi i : Int)) := by rw [hkb]; exact tg_map HTr.out.root (kb i) (mi i) (mp_kb hi4).1 (mp_kb hi4).2
          have hm1 := mi_lt i
          have hm2 : (mi i : Int) < 11 := by omega
          have hm3 : (0 : Int) ≤ (mi i : Int) := by omega
          have hm4 : ((mi i : Int) == 11) = false := by simp; omega
          have HKB := Lib.hid hkb
          have HHI := Lib.hid hI
          clear hkb hI he
          go_upto_region 12 with (fail)
          go_still (by kernel_rfl)
          show Exit.then _ _ _ _ wr.drew
          have HT2 := Lib.hid (show Tri g wr.drew from HTr.out.keep (fun j _ _ => rfl))
          have HD2 := Lib.hid (show ∃ n, wr.drew = w.drewN n from by obtain ⟨n, rfl⟩ := HD.out; exact ⟨n + 1, by simp [World.drewN, World.drew, Nat.add_assoc]⟩)
          clear c1 c2 c4 hm HTr HD
          generalize wr.drew = W2 at HT2 HD2 ⊢
          have c4 : W2.cell? ⟨g + 2, 4, none⟩ = some (.slice (some ⟨g + 6, 0, none⟩) 11 11) := HT2.out.amp.cell 4
          have c5 : W2.cell? ⟨g, 5, none⟩ = some (.int .i64 11) := (HT2.out.root.cell 5).trans gb_5
          have ct : W2.cell? ⟨g + 6, mi i, none⟩ = some (pt (g + pn i)) := tab_mi HT2.out hi4
          generalize mi i = m at *
          go_wp2_with fail
          go_roundw
          case rel => exact ⟨by rw [HS1.out]; exact .key i hi4 HKI.out, HT2, HD2⟩
          case measure => simp [intOf]
        | none =>
          have HN := Lib.hid (show lkF s = none by rw [HLK.out, hI])
          have hmp := mp_none hI
          clear hI HLK he
          rcases hmp with hmp | ⟨m, hmo, hmp⟩
          · have hm : wr.cell? ⟨g, 6 + s1[0].toNat, none⟩ = some (.int .u8 ((11 : Nat) : Int)) := tg_map HTr.out.root _ 11 (by omega) hmp
            clear hmp
            go_upto_region 12 with (fail)
            go_still (by kernel_rfl)
            show Exit.then _ _ _ _ wr.drew
            have HT2 := Lib.hid (show Tri g wr.drew from HTr.out.keep (fun j _ _ => rfl))
            have HD2 := Lib.hid (show ∃ n, wr.drew = w.drewN n from by obtain ⟨n, rfl⟩ := HD.out; exact ⟨n + 1, by simp [World.drewN, World.drew, Nat.add_assoc]⟩)
            clear c1 c2 c4 hm HTr HD
            generalize wr.drew = W2 at HT2 HD2 ⊢
            have c5 : W2.cell? ⟨g, 5, none⟩ = some (.int .i64 11) := (HT2.out.root.cell 5).trans gb_5
            go_wp2_with fail
            go_ret3
            exact ⟨by rw [HN.out]; rfl, HD2.out⟩
          · have hm : wr.cell? ⟨g, 6 + s1[0].toNat, none⟩ = some (.int .u8 (m : Int)) := tg_map HTr.out.root _ m (by omega) hmp
            clear hmp
            have hm1 := offs_lt hmo
            have hm2 : (m : Int) < 11 := by omega
            have hm3 : (0 : Int) ≤ (m : Int) := by omega
            have hm4 : ((m : Int) == 11) = false := by simp; omega
            have HMO := Lib.hid hmo
            clear hmo
            go_upto_region 12 with (fail)
            go_still (by kernel_rfl)
            show Exit.then _ _ _ _ wr.drew
            have HT2 := Lib.hid (show Tri g wr.drew from HTr.out.keep (fun j _ _ => rfl))
            have HD2 := Lib.hid (show ∃ n, wr.drew = w.drewN n from by obtain ⟨n, rfl⟩ := HD.out; exact ⟨n + 1, by simp [World.drewN, World.drew, Nat.add_assoc]⟩)
            clear c1 c2 c4 hm HTr HD
            generalize wr.drew = W2 at HT2 HD2 ⊢
            have c4 : W2.cell? ⟨g + 2, 4, none⟩ = some (.slice (some ⟨g + 6, 0, none⟩) 11 11) := HT2.out.amp.cell 4
            have c5 : W2.cell? ⟨g, 5, none⟩ = some (.int .i64 11) := (HT2.out.root.cell 5).trans gb_5
            have ct : W2.cell? ⟨g + 6, m, none⟩ = some np := tab_off HT2.out HMO.out
            go_wp2_with fail
            go_roundw
            case rel => exact ⟨by rw [HS1.out]; exact .none HN.out, HT2, HD2⟩
            case measure => simp [intOf]
    | key i hi hk =>
      have hB := tri_p HTr.out i
      have c1 : wr.cell? ⟨g + pn i, 1, none⟩ = some (.int .i64 0) := hB.cell 1
      have c2 : wr.cell? ⟨g + pn i, 2, none⟩ = some (.string (px i)) := hB.cell 2
      have c3 : wr.cell? ⟨g + pn i, 3, none⟩ = some (pt (g + ln i)) := hB.cell 3
      have c4 : wr.cell? ⟨g + pn i, 4, none⟩ = some nl := hB.cell 4
      have hp1 := px_ne i
      have hp2 : (!(px i).toList.isEmpty) = true := by rw [hp1]; rfl
      obtain ⟨hps0, hps⟩ := px_size i
      have HLK := Lib.hid (show lkF s = if hpB (tl (tl s)) (px i) = true then some i else none from by
        obtain ⟨h, h'⟩ := hk
        unfold lkF
        rw [dif_pos h]
        simp only [h'])
      have HI := Lib.hid hi
      clear hk hB hi
      generalize tl (tl s) = s2 at HLK ⊢
      generalize pn i = p at *
      by_cases he : s2.size = 0
      · have h1 : s2.toList.isEmpty = true := empty_list he
        have HN := Lib.hid (show lkF s = none by
          have hf : hpB s2 (px i) = false := by unfold hpB; rw [if_neg (by omega)]
          rw [HLK.out, hf]
          rfl)
        clear he HLK
        go_wp2_with fail
        go_ret3
        exact ⟨by rw [HN.out]; rfl, HD.out⟩
      · have h1 : s2.toList.isEmpty = false := ne_list (by omega)
        clear he
        rcases Bool.eq_false_or_eq_true (hpB s2 (px i)) with hh | hh
        · have HN := Lib.hid (show lkF s = some i by rw [HLK.out, if_pos hh])
          have HH := Lib.hid hh
          have hle : (px i).size ≤ s2.size := by
            unfold hpB at hh
            by_cases h : (px i).size ≤ s2.size
            · exact h
            · rw [if_neg h] at hh; cases hh
          have hle' : ((px i).size : Int) ≤ (s2.size : Int) := by omega
          have hps' : ((px i).size : Int) ≤ 4 := by omega
          have hps1 : (0 : Int) ≤ ((px i).size : Int) := by omega
          clear hh HLK
          go_wp2_with (go_at_call 151; refine (pre_calls _ _ _).mono ?_; rintro e w1 ⟨rfl, rfl⟩; rw [HH.out])
          go_roundw
          case rel => exact ⟨.leaf i _ HI.out HN.out, HTr, HD⟩
          case measure => simp [intOf]; omega
        · have HN := Lib.hid (show lkF s = none by rw [HLK.out, if_neg (by rw [hh]; simp)])
          have HH := Lib.hid hh
          clear hh HLK
          go_wp2_with (go_at_call 151; refine (pre_calls _ _ _).mono ?_; rintro e w1 ⟨rfl, rfl⟩; rw [HH.out])
          go_ret3
          exact ⟨by rw [HN.out]; rfl, HD.out⟩
    | none hn =>
      have HN := Lib.hid hn
      clear hn
      go_wp2_with fail
      go_ret3
      exact ⟨by rw [HN.out]; rfl, HD.out⟩
    | leaf i r hi hk =>
      have hB := tri_l HTr.out hi
      have c0 : wr.cell? ⟨g + ln i, 0, none⟩ = some (.string (vs i)) := hB.cell 0
      have c1 : wr.cell? ⟨g + ln i, 1, none⟩ = some (.int .i64 (pr i)) := hB.cell 1
      have c2 : wr.cell? ⟨g + ln i, 2, none⟩ = some (.string em) := hB.cell 2
      have c4 : wr.cell? ⟨g + ln i, 4, none⟩ = some nl := hB.cell 4
      have hpos := pr_pos i
      have HN := Lib.hid hk
      clear hk hB
      generalize ln i = l at *
      by_cases he : r.size = 0
      · have h1 : r.toList.isEmpty = true := empty_list he
        clear he
        go_wp2_with fail
        go_ret3
        exact ⟨by rw [HN.out]; rfl, HD.out⟩
      · have h1 : r.toList.isEmpty = false := ne_list (by omega)
        clear he
        go_wp2_with fail
        go_ret3
        exact ⟨by rw [HN.out]; rfl, HD.out⟩
end Go.Proofs.YtkjgnkmnngaioaaGreat.Q
namespace Go.Proofs.YtkjgnkmnngaioaaGreat.Q
open Go.RowKit Go.Proofs.YtkjgnkmnngaioaaGreat.Mem
set_option linter.unusedVariables false
set_option linter.unusedSimpArgs false
def byc (l : List UInt8) : List Value := l.map fun b => Value.int .u8 b.toNat
theorem byc_app (a b : List UInt8) : byc (a ++ b) = byc a ++ byc b := by unfold byc; rw [List.map_append]
theorem byc_str (s : ByteArray) : byc s.data.toList = Lib.strCells s := rfl
/-- As it was, but for what lies from `base` on. -/
structure Apart (base bb : Nat) (w w' : World) : Prop where
  os : w'.os = w.os
  tape : w'.tape = w.tape
  output : w'.output = w.output
  size : w.heap.size ≤ w'.heap.size
  block : ∀ k, k < base → w'.heap[k]? = w.heap[k]?
theorem Apart.refl (base bb : Nat) (w : World) : Apart base bb w w := ⟨rfl, rfl, rfl, Nat.le_refl _, fun _ _ => rfl⟩
theorem Apart.trans {base bb : Nat} {a b c : World} (h : Apart base bb a b) (k : Apart base bb b c) : Apart base bb a c :=
  ⟨k.os.trans h.os, k.tape.trans h.tape, k.output.trans h.output, Nat.le_trans h.size k.size, fun i h1 => (k.block i h1).trans (h.block i h1)⟩
theorem Apart.drewN {base bb : Nat} {a b : World} (h : Apart base bb a b) (n : Nat) : Apart base bb a (b.drewN n) := ⟨h.os, h.tape, h.output, h.size, h.block⟩
/-- A writer's variable, and the bytes that it has. -/
structure Buf (base bb : Nat) (w : World) (l : List UInt8) : Prop where
  own : ∃ v, Blk w bb #[v] 229 ∧ w.ownsRow base 5 1 v l.length (byc l)
  lt : base ≤ bb
  le : base ≤ w.heap.size
theorem Buf.drewN {base bb : Nat} {w : World} {l : List UInt8} (h : Buf base bb w l) (n : Nat) : Buf base bb (w.drewN n) l := ⟨h.own, h.lt, h.le⟩
theorem own_ge {w : World} {base : Nat} {e : TypeId} {v : Value} {n : Nat} {xs : List Value} (h : w.ownsRow base e 1 v n xs) : ∀ k, v.ownBlock = some k → base ≤ k := fun k hk => by
  rcases h.2 with ⟨rfl, -⟩ | ⟨g, cap, cur, rfl, hb, -⟩
  · cases hk
  · cases hk; exact hb
theorem own_ne {w : World} {base bb : Nat} {v u : Value} {n : Nat} {xs : List Value} (h : w.ownsRow base 5 1 v n xs) (hb : Blk w bb #[u] 229) : ∀ k, v.ownBlock = some k → k ≠ bb := fun k hk e => by
  rcases h.2 with ⟨rfl, -⟩ | ⟨g, cap, cur, rfl, -, hg, -⟩
  · cases hk
  · cases hk
    subst e
    unfold Blk at hb
    rw [hb] at hg
    cases hg
theorem own_slice {w : World} {base : Nat} {e : TypeId} {v : Value} {n : Nat} {xs : List Value} (h : w.ownsRow base e 1 v n xs) : ∃ A c, v = .slice A n c := by
  rcases h.2 with ⟨rfl, rfl⟩ | ⟨g, cap, cur, rfl, -⟩
  · exact ⟨_, _, rfl⟩
  · exact ⟨_, _, rfl⟩
set_option maxRecDepth 100000 in
set_option maxHeartbeats 800000 in
theorem ws_calls (base bb : Nat) (l : List UInt8) (s : ByteArray) (w : World) (hB : Buf base bb w l) (hl : l.length + s.size ≤ 1000000) :
    Calls Tryz.prog 200 #[.pointer (some ⟨bb, 0, none⟩), .string s] w fun e w' => e = .returned (.tuple #[.int .i64 s.size, .nilIface]) ∧ Buf base bb w' (l ++ s.data.toList) ∧ Apart base bb w w' := by
  obtain ⟨⟨v, hb, ho⟩, hlt, hle⟩ := hB
  obtain ⟨A0, c0', rfl⟩ := own_slice ho
  have HB := Lib.hid hb
  have HO := Lib.hid ho
  have HLT := Lib.hid hlt
  have HLE := Lib.hid hle
  have HL := Lib.hid hl
  have c0 : w.cell? ⟨bb, 0, none⟩ = some (.slice A0 l.length c0') := hb.cell 0
  obtain ⟨i0, hi, hzz⟩ : ∃ i0, Tryz.prog.info? 5 = some i0 ∧ (i0.zero, i0.size, i0.bytes) = (some (.int .u8 0), 1, 1) := Option.map_eq_some_iff.1 (show (Tryz.prog.info? 5).map (fun i => (i.zero, i.size, i.bytes)) = some (some (.int .u8 0), 1, 1) by kernel_rfl)
  simp only [Prod.mk.injEq] at hzz
  obtain ⟨hz0, hz1, hz2⟩ := hzz
  have HI := Lib.hid hi
  have HZ0 := Lib.hid hz0
  have HZ1 := Lib.hid hz1
  have HZ2 := Lib.hid hz2
  clear hb ho hlt hle hl hi hz0 hz1 hz2
  go_enter Tryz.func200, Tryz.ntmps200
  go_wp2_with (at_builtin; refine Lib.wpList_append_own_string _ rfl _ _ 229 9 rfl base 5 i0 Tryz.underlying229 Tryz.underlying9 HI.out HZ0.out HZ1.out HZ2.out (.slice A0 l.length c0') l.length (byc l) rfl HO.out s rfl (by have := HL.out; unfold maxLen; omega) (by have := HL.out; omega) HLE.out ?_; intro v1 w1 ho1 hg1 h1; obtain ⟨A1, c1', rfl⟩ := own_slice ho1; have HO1 := Lib.hid ho1; have HG1 := Lib.hid hg1; have HB1 := Lib.hid (show Blk w1 bb #[.slice A0 l.length c0'] 229 from HB.out.of_block (hg1.block bb HB.out.lt (fun e => own_ne HO.out HB.out bb e.symm rfl))); have d0 := HB1.out.cell 0; have d1 := HB1.out.free 0; clear ho1 hg1 h1 c0; simp only [List.getElem?_toArray, List.getElem?_cons_zero] at d0)
  refine bodyPost_ret (v := .tuple #[.int .i64 s.size, .nilIface]) (by simp [results, Tryz.results200, go_sem]) rfl ⟨rfl, ?_, ?_⟩
  · refine ⟨⟨_, HB1.out.set 0 _, ?_⟩, HLT.out, ?_⟩
    · have ho := HO1.out
      have hle : (l ++ s.data.toList).length = l.length + s.size := by simp
      rw [hle, byc_app, byc_str]
      refine ⟨ho.1, ?_⟩
      rcases ho.2 with h | ⟨g, cap, cur, h1, h2, h3, h4⟩
      · exact .inl h
      · exact .inr ⟨g, cap, cur, h1, h2, (Below.heap_setCell _ _ _ _ (show g ≠ bb from own_ne HO1.out HB1.out g (by rw [h1]; rfl))).trans h3, h4⟩
    · have := HG1.out.size; have := HLE.out; simp [World.setCell]; omega
  · refine ⟨HG1.out.os, HG1.out.tape, HG1.out.output, by simp [World.setCell]; exact HG1.out.size, fun k h1 => ?_⟩
    exact (Below.heap_setCell _ _ _ _ (show k ≠ bb by have := HLT.out; omega)).trans (HG1.out.block k (by have := HLE.out; omega) (fun e => by have := own_ge HO.out k e.symm; omega))
end Go.Proofs.YtkjgnkmnngaioaaGreat.Q
