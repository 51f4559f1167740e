/- '(*strings.trieNode).add': a key is put into a trie: into a node that is empty, into one that has a prefix, into one that has a table. -/
import Derived.Test.YtkjgnkmnngaioaaOnce
import Derived.Lib.SliceRun
import Derived.WalkSpells
import Derived.IntWalk
import Derived.StillTailTactics
import Derived.Test.YtkjgnkmnngaioaaMmx
namespace Go.Proofs.Ytkjgnkmnngaioaa.Q
open Go.RowKit Go.IntWalk Go.Proofs.Ytkjgnkmnngaioaa.Mem
set_option linter.unusedVariables false
set_option linter.unusedSimpArgs false

abbrev em : ByteArray := ⟨#[]⟩
theorem But.setNew {b c : Nat} {x w : World} (h : But b x w) (hc : x.heap.size ≤ c) (i : Nat) (v : Value) : But b x (w.setCell ⟨c, i, none⟩ v) :=
  ⟨h.os, h.tape, h.output, by simp only [World.setCell, Array.size_modify]; exact h.size, fun k hk e => (Below.heap_setCell _ _ _ _ (show k ≠ c by omega)).trans (h.block k hk e)⟩
theorem size_set (w : World) (a : Addr) (v : Value) : (w.setCell a v).heap.size = w.heap.size := by simp [World.setCell]
/-- A node's block. -/
abbrev ND (v : ByteArray) (p : Int) (x : ByteArray) (nx tb : Value) : Array Value := #[.string v, .int .i64 p, .string x, nx, tb]
abbrev N0 : Array Value := ND em 0 em (.pointer none) (.slice none 0 0)
set_option maxRecDepth 100000 in
theorem add_leaf (n : Nat) (val : ByteArray) (pr : Int) (r : Value) (w : World) (hB : Blk w n N0 110) :
    Calls Try.prog 48 #[.pointer (some ⟨n, 0, none⟩), .string em, .string val, .int .i64 pr, r] w fun e w' => e = .returned (.tuple #[]) ∧ w' = (w.setCell ⟨n, 0, none⟩ (.string val)).setCell ⟨n, 1, none⟩ (.int .i64 pr) := by
  have c0 : w.cell? ⟨n, 0, none⟩ = some (.string em) := hB.cell 0
  have c1 : w.cell? ⟨n, 1, none⟩ = some (.int .i64 0) := hB.cell 1
  have f0 := hB.free 0
  have f1 := hB.free 1
  go_enter Try.func48, Try.ntmps48
  go_wp2
  refine bodyPost_ret (results_none rfl _ _ _) rfl ?_
  exact ⟨rfl, rfl⟩
theorem qneq (w : World) (a : Option Addr) (n c n' c' : Nat) : (binOp .neq 108 (.slice a n c) (.slice none n' c')).run Try.prog w = .ok (.bool (!a.isNone)) w := run_neq_slice_nil_any w _ _ a n c n' c' Try.underlying108
/-- What a fresh key leaves: the node with its prefix, and its one leaf. -/
structure Fresh (n : Nat) (key val : ByteArray) (pr : Int) (w w' : World) : Prop where
  node : Blk w' n (ND em 0 key (.pointer (some ⟨w.heap.size, 0, none⟩)) (.slice none 0 0)) 110
  leaf : Blk w' w.heap.size (ND val pr em (.pointer none) (.slice none 0 0)) 110
  size : w'.heap.size = w.heap.size + 1
  but : But n w w'
set_option maxRecDepth 100000 in
set_option maxHeartbeats 800000 in
theorem add_fresh (n : Nat) (key val : ByteArray) (pr : Int) (r : Value) (w : World) (hB : Blk w n N0 110) (hk : key.toList.isEmpty = false) :
    Calls Try.prog 48 #[.pointer (some ⟨n, 0, none⟩), .string key, .string val, .int .i64 pr, r] w fun e w' => e = .returned (.tuple #[]) ∧ Fresh n key val pr w w' := by
  have c2 : w.cell? ⟨n, 2, none⟩ = some (.string em) := hB.cell 2
  have c3 : w.cell? ⟨n, 3, none⟩ = some (.pointer none) := hB.cell 3
  have c4 : w.cell? ⟨n, 4, none⟩ = some (.slice none 0 0) := hB.cell 4
  have f2 := hB.free 2
  have f3 := hB.free 3
  have q := qneq
  have c1 : w.cell? ⟨n, 1, none⟩ = some (.int .i64 0) := hB.cell 1
  have HB := Lib.hid hB
  clear hB
  have HZ := Lib.hid (show But n w w from But.refl n w)
  go_enter Try.func48, Try.ntmps48
  go_upto_region 33 with (fail)
  have HB1 := Lib.hid (HB.out.set 2 (.string key))
  have HZ1 := Lib.hid (HZ.out.setCell 2 (.string key))
  have HS := Lib.hid (show (w.setCell ⟨n, 2, none⟩ (.string key)).heap.size = w.heap.size by simp [World.setCell])
  clear c1 c2 c3 c4 f2 f3 HB HZ
  generalize w.setCell ⟨n, 2, none⟩ (.string key) = W1 at HB1 HZ1 HS ⊢
  have d3 : (W1.alloc (.cells N0 110)).cell? ⟨n, 3, none⟩ = some (.pointer none) := (HB1.out.alloc_old _).cell 3
  have e3 : (W1.alloc (.cells N0 110)).frozen? ⟨n, 3, none⟩ = false := (HB1.out.alloc_old _).free 3
  go_upto_region 34 with (fail)
  have HB2 := Lib.hid ((HB1.out.alloc_old (.cells N0 110)).set 3 (.pointer (some ⟨W1.heap.size, 0, none⟩)))
  have HL2 := Lib.hid ((Blk.alloc W1 N0 110).setCell_other (a := ⟨n, 3, none⟩) (.pointer (some ⟨W1.heap.size, 0, none⟩)) (Nat.ne_of_gt HB1.out.lt))
  have HZ2 := Lib.hid ((HZ1.out.trans (But.of_below ((Below.refl _ _).alloc (Nat.le_refl _) (.cells N0 110)))).setCell 3 (.pointer (some ⟨W1.heap.size, 0, none⟩)))
  have HS2 := Lib.hid (show ((W1.alloc (.cells N0 110)).setCell ⟨n, 3, none⟩ (.pointer (some ⟨W1.heap.size, 0, none⟩))).heap.size = W1.heap.size + 1 by simp [World.setCell])
  clear d3 e3 HZ1
  generalize (W1.alloc (.cells N0 110)).setCell ⟨n, 3, none⟩ (.pointer (some ⟨W1.heap.size, 0, none⟩)) = W2 at HB2 HL2 HZ2 HS2 ⊢
  have hs := HS.out
  have hn := HB1.out.lt
  generalize W1.heap.size = m at HB2 HL2 HS2 hs hn ⊢
  have d3 : W2.cell? ⟨n, 3, none⟩ = some (.pointer (some ⟨m, 0, none⟩)) := HB2.out.cell 3
  have HN := Lib.hid hn
  have HM := Lib.hid hs
  clear hs hn HB1
  go_wp2_with (go_at_call 48; refine (add_leaf m val pr r _ HL2.out).mono ?_; rintro e w' ⟨rfl, rfl⟩)
  go_end0
  have hm : n ≠ m := Nat.ne_of_lt HN.out
  have hm' := HM.out
  have hb2 := HB2.out
  have hl2 := HL2.out
  have hz2 := HZ2.out
  have hs2 := HS2.out
  clear d3 HB2 HL2 HZ2 HS2 HM HN
  subst hm'
  refine ⟨rfl, ?_, ?_, ?_, ?_⟩
  · exact (hb2.setCell_other _ hm).setCell_other _ hm
  · exact (hl2.set 0 (.string val)).set 1 (.int .i64 pr)
  · simp [World.setCell]; omega
  · refine ⟨hz2.os, hz2.tape, hz2.output, by simp [World.setCell]; omega, fun k hk hkn => ?_⟩
    refine ((Below.heap_setCell _ _ _ _ ?_).trans (Below.heap_setCell _ _ _ _ ?_)).trans (hz2.block k hk hkn) <;> (show k ≠ w.heap.size; omega)

/-- What a key leaves that was put into a table's empty place. -/
structure New (tb m : Nat) (tcs : Array Value) (T2 : TypeId) (key val : ByteArray) (pr : Int) (w w' : World) : Prop where
  tab : Blk w' tb (tcs.setIfInBounds m (.pointer (some ⟨w.heap.size, 0, none⟩))) T2
  node : Blk w' w.heap.size (ND em 0 key (.pointer (some ⟨w.heap.size + 1, 0, none⟩)) (.slice none 0 0)) 110
  leaf : Blk w' (w.heap.size + 1) (ND val pr em (.pointer none) (.slice none 0 0)) 110
  size : w'.heap.size = w.heap.size + 2
  but : But tb w w'
set_option maxRecDepth 100000 in
set_option maxHeartbeats 800000 in
/-- Into a node with a table, where nothing stands yet. -/
theorem add_new (n g tb : Nat) (key val : ByteArray) (pr : Int) (m : Nat) (tcs : Array Value) (T2 : TypeId) (w : World)
    (hk : key.toList.isEmpty = false) (h0 : 0 < key.size) (hk1 : (key.extract 1 key.size).toList.isEmpty = false) (hne : tb ≠ n)
    (n1 : w.cell? ⟨n, 1, none⟩ = some (.int .i64 0)) (n2 : w.cell? ⟨n, 2, none⟩ = some (.string em)) (n4 : w.cell? ⟨n, 4, none⟩ = some (.slice (some ⟨tb, 0, none⟩) tcs.size tcs.size))
    (hm : m < tcs.size) (hg : w.cell? ⟨g, 6 + key[0].toNat, none⟩ = some (.int .u8 m)) (hT : Blk w tb tcs T2) (ht : tcs[m]? = some (.pointer none)) :
    Calls Try.prog 48 #[.pointer (some ⟨n, 0, none⟩), .string key, .string val, .int .i64 pr, .pointer (some ⟨g, 0, none⟩)] w fun e w' => e = .returned (.tuple #[]) ∧ New tb m tcs T2 (key.extract 1 key.size) val pr w w' := by
  have q := qneq
  have hlt : (m : Int) < (tcs.size : Int) := by omega
  have hc : (key[0].toNat : Int) < 256 := by have := key[0].toNat_lt; omega
  have t1 : w.cell? ⟨tb, m, none⟩ = some (.pointer none) := (hT.cell m).trans ht
  have HT := Lib.hid hT
  have HI := Lib.hid ht
  clear hT ht
  go_enter Try.func48, Try.ntmps48
  go_upto_region 28 with (fail)
  go_still (by kernel_rfl)
  show Exit.then _ _ _ _ w.drew
  have d1 : w.drew.cell? ⟨tb, m, none⟩ = some (.pointer none) := (HT.out.drew.cell m).trans HI.out
  have d4 : w.drew.cell? ⟨n, 4, none⟩ = some (.slice (some ⟨tb, 0, none⟩) tcs.size tcs.size) := n4
  have HT2 := Lib.hid HT.out.drew
  have HZ1 := Lib.hid (show But tb w w.drew from (But.refl tb w).drewN 1)
  have HS1 := Lib.hid (show w.drew.heap.size = w.heap.size from rfl)
  clear n1 n2 n4 hg t1
  generalize w.drew = W1 at d1 d4 HT2 HZ1 HS1 ⊢
  have m1 : (0 : Int) ≤ (m : Int) := by omega
  have x1 : (W1.alloc (.cells N0 110)).cell? ⟨tb, m, none⟩ = some (.pointer none) := ((HT2.out.alloc_old _).cell m).trans HI.out
  have x2 : (W1.alloc (.cells N0 110)).frozen? ⟨tb, m, none⟩ = false := (HT2.out.alloc_old _).free m
  go_upto_region 31 with (fail)
  have HT3 := Lib.hid ((HT2.out.alloc_old (.cells N0 110)).set m (.pointer (some ⟨W1.heap.size, 0, none⟩)))
  have HQ3 := Lib.hid ((Blk.alloc W1 N0 110).setCell_other (a := ⟨tb, m, none⟩) (.pointer (some ⟨W1.heap.size, 0, none⟩)) (Nat.ne_of_gt HT2.out.lt))
  have HZ3 := Lib.hid ((HZ1.out.trans (But.of_below ((Below.refl _ _).alloc (Nat.le_refl _) (.cells N0 110)))).setCell m (.pointer (some ⟨W1.heap.size, 0, none⟩)))
  have HS3 := Lib.hid (show ((W1.alloc (.cells N0 110)).setCell ⟨tb, m, none⟩ (.pointer (some ⟨W1.heap.size, 0, none⟩))).heap.size = W1.heap.size + 1 by simp [World.setCell])
  have y4 : ((W1.alloc (.cells N0 110)).setCell ⟨tb, m, none⟩ (.pointer (some ⟨W1.heap.size, 0, none⟩))).cell? ⟨n, 4, none⟩ = some (.slice (some ⟨tb, 0, none⟩) tcs.size tcs.size) := by
    have hn := lt_of_cell d4
    rw [World.cell?_of_block (w := W1) ((Below.heap_setCell _ _ _ _ (Ne.symm hne)).trans (Below.heap_alloc _ _ _ hn))]
    exact d4
  clear x1 x2 d1 d4 HZ1 HT2
  generalize (W1.alloc (.cells N0 110)).setCell ⟨tb, m, none⟩ (.pointer (some ⟨W1.heap.size, 0, none⟩)) = W3 at HT3 HQ3 HZ3 HS3 y4 ⊢
  have y1 : W3.cell? ⟨tb, m, none⟩ = some (.pointer (some ⟨W1.heap.size, 0, none⟩)) := (HT3.out.cell m).trans (by simp [hm])
  have hs1 := HS1.out
  generalize W1.heap.size = qb at HT3 HQ3 HS3 y1 hs1 ⊢
  have HQB := Lib.hid hs1
  clear hs1 HS1
  have k1 : (1 : Int) ≤ (key.size : Int) := by omega
  go_still_tail 12, (by kernel_rfl)
  change wpList _ _ _ _ _ W3.drew
  have HT4 := Lib.hid HT3.out.drew
  have HQ4 := Lib.hid HQ3.out.drew
  have HZ4 := Lib.hid (show But tb w W3.drew from HZ3.out.drewN 1)
  have HS4 := Lib.hid (show W3.drew.heap.size = qb + 1 from HS3.out)
  clear y1 y4 HT3 HQ3 HZ3 HS3 k1
  generalize W3.drew = W4 at HT4 HQ4 HZ4 HS4 ⊢
  go_wp2_with (go_at_call 48; refine (add_fresh qb _ val pr _ _ HQ4.out hk1).mono ?_; rintro e w' ⟨rfl, hf⟩; have HF := Lib.hid hf; clear hf)
  first | go_end0 | refine bodyPost_ret (results_none rfl _ _ _) rfl ?_
  have hq := HQB.out
  have hs := HS4.out
  have ht := HT4.out
  have hz := HZ4.out
  obtain ⟨h1, h2, h3, h4⟩ := HF.out
  rw [hs] at h1 h2 h3
  have hlt : tb < qb := by
    have := hz.block
    have h5 := HT.out.lt
    omega
  clear HQB HS4 HT4 HZ4 HF HQ4
  subst hq
  refine ⟨rfl, h4.blk ht (Nat.ne_of_lt hlt), h1, h2, by omega, ?_⟩
  refine ⟨h4.os.trans hz.os, h4.tape.trans hz.tape, h4.output.trans hz.output, by omega, fun k hk hkn => (h4.block k (by omega) (by omega)).trans (hz.block k hk hkn)⟩
set_option maxRecDepth 100000 in
set_option maxHeartbeats 800000 in
/-- Into a node with a table, where a node stands. -/
theorem add_down (n g tb q0 : Nat) (key val : ByteArray) (pr : Int) (m ts : Nat) (Q : World → Prop) (w : World)
    (hk : key.toList.isEmpty = false) (h0 : 0 < key.size)
    (n1 : w.cell? ⟨n, 1, none⟩ = some (.int .i64 0)) (n2 : w.cell? ⟨n, 2, none⟩ = some (.string em)) (n4 : w.cell? ⟨n, 4, none⟩ = some (.slice (some ⟨tb, 0, none⟩) ts ts))
    (hm : m < ts) (hg : w.cell? ⟨g, 6 + key[0].toNat, none⟩ = some (.int .u8 m)) (t1 : w.cell? ⟨tb, m, none⟩ = some (.pointer (some ⟨q0, 0, none⟩)))
    (hF : Calls Try.prog 48 #[.pointer (some ⟨q0, 0, none⟩), .string (key.extract 1 key.size), .string val, .int .i64 pr, .pointer (some ⟨g, 0, none⟩)] w.drew.drew fun e w' => e = .returned (.tuple #[]) ∧ Q w') :
    Calls Try.prog 48 #[.pointer (some ⟨n, 0, none⟩), .string key, .string val, .int .i64 pr, .pointer (some ⟨g, 0, none⟩)] w fun e w' => e = .returned (.tuple #[]) ∧ Q w' := by
  have q := qneq
  have hlt : (m : Int) < (ts : Int) := by omega
  have hc : (key[0].toNat : Int) < 256 := by have := key[0].toNat_lt; omega
  have m1 : (0 : Int) ≤ (m : Int) := by omega
  have k1 : (1 : Int) ≤ (key.size : Int) := by omega
  have HF := Lib.hid hF
  clear hF
  go_enter Try.func48, Try.ntmps48
  go_upto_region 28 with (fail)
  go_still (by kernel_rfl)
  show Exit.then _ _ _ _ w.drew
  have d1 : w.drew.cell? ⟨tb, m, none⟩ = some (.pointer (some ⟨q0, 0, none⟩)) := t1
  have d4 : w.drew.cell? ⟨n, 4, none⟩ = some (.slice (some ⟨tb, 0, none⟩) ts ts) := n4
  clear n1 n2 n4 hg t1
  generalize w.drew = W1 at d1 d4 HF ⊢
  go_upto_region 31 with (fail)
  go_still_tail 12, (by kernel_rfl)
  change wpList _ _ _ _ _ W1.drew
  clear d1 d4
  generalize W1.drew = W2 at HF ⊢
  go_wp2_with (go_at_call 48; refine HF.out.mono ?_; rintro e w' ⟨rfl, hf⟩; have HQ := Lib.hid hf; clear hf)
  first | go_end0 | refine bodyPost_ret (results_none rfl _ _ _) rfl ?_
  exact ⟨rfl, HQ.out⟩

/-- A table, empty. -/
abbrev P11 : Array Value := #[.pointer none, .pointer none, .pointer none, .pointer none, .pointer none, .pointer none, .pointer none, .pointer none, .pointer none, .pointer none, .pointer none]
theorem mk11 (w : World) : (Instr.makeSlice 108 (.int .i64 11) (.int .i64 11)).run Try.prog w = .ok (.slice (some ⟨w.heap.size, 0, none⟩) 11 11) (w.alloc (.cells P11 107)) := by kernel_rfl
/-- What a key leaves that was put into a node with another prefix. -/
structure Split (n m1 m2 : Nat) (x : ByteArray) (nb : Nat) (key val : ByteArray) (pr : Int) (w w' : World) : Prop where
  top : Blk w' n (ND em 0 em (.pointer none) (.slice (some ⟨w.heap.size + 2, 0, none⟩) 11 11)) 110
  pre : Blk w' w.heap.size (ND em 0 (x.extract 1 x.size) (.pointer (some ⟨nb, 0, none⟩)) (.slice none 0 0)) 110
  node : Blk w' (w.heap.size + 1) (ND em 0 (key.extract 1 key.size) (.pointer (some ⟨w.heap.size + 3, 0, none⟩)) (.slice none 0 0)) 110
  tab : Blk w' (w.heap.size + 2) ((P11.setIfInBounds m1 (.pointer (some ⟨w.heap.size, 0, none⟩))).setIfInBounds m2 (.pointer (some ⟨w.heap.size + 1, 0, none⟩))) 107
  leaf : Blk w' (w.heap.size + 3) (ND val pr em (.pointer none) (.slice none 0 0)) 110
  size : w'.heap.size = w.heap.size + 4
  but : But n w w'
set_option maxRecDepth 100000 in
set_option maxHeartbeats 1600000 in
theorem add_split (n g nb : Nat) (x key val : ByteArray) (pr : Int) (m1 m2 : Nat) (w : World)
    (hB : Blk w n (ND em 0 x (.pointer (some ⟨nb, 0, none⟩)) (.slice none 0 0)) 110) (hgn : g ≠ n)
    (hk : key.toList.isEmpty = false) (hx : x.toList.isEmpty = false) (hk0 : 1 < key.size) (hx0 : 1 < x.size) (hk1 : (key.extract 1 key.size).toList.isEmpty = false)
    (hne : ((x[0].toNat : Int) != (key[0].toNat : Int)) = true) (hm1 : m1 < 11) (hm2 : m2 < 11)
    (gs : w.cell? ⟨g, 5, none⟩ = some (.int .i64 11)) (g1 : w.cell? ⟨g, 6 + x[0].toNat, none⟩ = some (.int .u8 m1)) (g2 : w.cell? ⟨g, 6 + key[0].toNat, none⟩ = some (.int .u8 m2)) :
    Calls Try.prog 48 #[.pointer (some ⟨n, 0, none⟩), .string key, .string val, .int .i64 pr, .pointer (some ⟨g, 0, none⟩)] w fun e w' => e = .returned (.tuple #[]) ∧ Split n m1 m2 x nb key val pr w w' := by
  have c1 : w.cell? ⟨n, 1, none⟩ = some (.int .i64 0) := hB.cell 1
  have c2 : w.cell? ⟨n, 2, none⟩ = some (.string x) := hB.cell 2
  have c3 : w.cell? ⟨n, 3, none⟩ = some (.pointer (some ⟨nb, 0, none⟩)) := hB.cell 3
  have hc : (key[0].toNat : Int) < 256 := by have := key[0].toNat_lt; omega
  have hd : (x[0].toNat : Int) < 256 := by have := x[0].toNat_lt; omega
  have k1 : (1 : Int) ≤ (key.size : Int) := by omega
  have k2 : (1 : Int) ≤ (x.size : Int) := by omega
  have k3 : (0 : Int) < (key.size : Int) := by omega
  have k4 : (0 : Int) < (x.size : Int) := by omega
  have hx' : (!x.toList.isEmpty) = true := by rw [hx]; rfl
  have HB := Lib.hid hB
  clear hB
  go_enter Try.func48, Try.ntmps48
  go_wp2_with fail
  go_loopw [10] (fun nv wr => nv = .int .i64 0 ∧ wr = w) (fun _ _ => 0)
  case atStart => exact ⟨rfl, rfl⟩
  case round =>
    obtain ⟨rfl, rfl⟩ := hrel
    go_upto_region 8 with (fail)
    go_still (by kernel_rfl)
    show Exit.then _ _ _ _ wr.drew
    have d2 : wr.drew.cell? ⟨n, 2, none⟩ = some (.string x) := c2
    have d3 : wr.drew.cell? ⟨n, 3, none⟩ = some (.pointer (some ⟨nb, 0, none⟩)) := c3
    have HB1 := Lib.hid HB.out.drew
    have HG0 := Lib.hid (show wr.cell? ⟨g, 5, none⟩ = some (.int .i64 11) ∧ wr.cell? ⟨g, 6 + x[0].toNat, none⟩ = some (.int .u8 m1) ∧ wr.cell? ⟨g, 6 + key[0].toNat, none⟩ = some (.int .u8 m2) from ⟨gs, g1, g2⟩)
    have HGL := Lib.hid (lt_of_cell gs)
    have hZ0 := Lib.hid HB.out.lt
    have HG := Lib.hid (show wr.drew.cell? ⟨g, 5, none⟩ = some (.int .i64 11) ∧ wr.drew.cell? ⟨g, 6 + x[0].toNat, none⟩ = some (.int .u8 m1) ∧ wr.drew.cell? ⟨g, 6 + key[0].toNat, none⟩ = some (.int .u8 m2) from ⟨gs, g1, g2⟩)
    have HZ := Lib.hid (show But n wr wr.drew from (But.refl n wr).drewN 1)
    have HS := Lib.hid (show wr.drew.heap.size = wr.heap.size from rfl)
    clear c1 c2 c3 gs g1 g2 HB
    generalize wr.drew = W1 at d2 d3 HB1 HG HZ HS ⊢
    go_upto_region 15 with (fail)
    go_still_tail 10, (by kernel_rfl)
    change wpList _ _ _ _ _ W1.drew
    have d3 : W1.drew.cell? ⟨n, 3, none⟩ = some (.pointer (some ⟨nb, 0, none⟩)) := d3
    have HB2 := Lib.hid HB1.out.drew
    have HG2 := Lib.hid (show W1.drew.cell? ⟨g, 5, none⟩ = some (.int .i64 11) ∧ W1.drew.cell? ⟨g, 6 + x[0].toNat, none⟩ = some (.int .u8 m1) ∧ W1.drew.cell? ⟨g, 6 + key[0].toNat, none⟩ = some (.int .u8 m2) from HG.out)
    have HZ2 := Lib.hid (show But n wr W1.drew from HZ.out.drewN 1)
    have HS2 := Lib.hid (show W1.drew.heap.size = wr.heap.size from HS.out)
    clear d2 d3 HB1 HG HZ HS
    generalize W1.drew = W2 at HB2 HG2 HZ2 HS2 ⊢
    go_upto_region 16 with (fail)
    have HS3 := Lib.hid (show (W2.alloc (.cells (ND em 0 (x.extract 1 x.size) (.pointer (some ⟨nb, 0, none⟩)) (.slice none 0 0)) 110)).heap.size = W2.heap.size + 1 by simp)
    have HP3 := Lib.hid (Blk.alloc W2 (ND em 0 (x.extract 1 x.size) (.pointer (some ⟨nb, 0, none⟩)) (.slice none 0 0)) 110)
    have HB3 := Lib.hid (HB2.out.alloc_old (.cells (ND em 0 (x.extract 1 x.size) (.pointer (some ⟨nb, 0, none⟩)) (.slice none 0 0)) 110))
    have HZ3 := Lib.hid (HZ2.out.trans (But.of_below ((Below.refl _ _).alloc (Nat.le_refl _) (.cells (ND em 0 (x.extract 1 x.size) (.pointer (some ⟨nb, 0, none⟩)) (.slice none 0 0)) 110))))
    clear HB2 HZ2
    generalize W2.alloc (.cells (ND em 0 (x.extract 1 x.size) (.pointer (some ⟨nb, 0, none⟩)) (.slice none 0 0)) 110) = W3 at HS3 HP3 HB3 HZ3 ⊢
    have hs2 := HS2.out
    generalize W2.heap.size = pb at HS3 HP3 hs2 ⊢
    have HPB := Lib.hid hs2
    clear hs2 HS2 HG2
    go_upto_region 17 with (fail)
    have HS4 := Lib.hid (show (W3.alloc (.cells N0 110)).heap.size = W3.heap.size + 1 by simp)
    have HP4 := Lib.hid (HP3.out.alloc_old (.cells N0 110))
    have HK4 := Lib.hid (Blk.alloc W3 N0 110)
    have HB4 := Lib.hid (HB3.out.alloc_old (.cells N0 110))
    have HZ4 := Lib.hid (HZ3.out.trans (But.of_below ((Below.refl _ _).alloc (Nat.le_refl _) (.cells N0 110))))
    clear HB3 HZ3 HP3
    generalize W3.alloc (.cells N0 110) = W4 at HS4 HP4 HK4 HB4 HZ4 ⊢
    have hs3 := HS3.out
    generalize W3.heap.size = qb at HS4 HK4 hs3 ⊢
    have HQB := Lib.hid hs3
    clear hs3 HS3
    have HGG := Lib.hid (show ∀ W', But n wr W' → W'.cell? ⟨g, 5, none⟩ = some (.int .i64 11) ∧ W'.cell? ⟨g, 6 + x[0].toNat, none⟩ = some (.int .u8 m1) ∧ W'.cell? ⟨g, 6 + key[0].toNat, none⟩ = some (.int .u8 m2) from fun W' hW => by
      have hb := hW.block g HGL.out hgn
      exact ⟨(World.cell?_of_block (w := wr) hb).trans HG0.out.1, (World.cell?_of_block (w := wr) hb).trans HG0.out.2.1, (World.cell?_of_block (w := wr) hb).trans HG0.out.2.2⟩)
    obtain ⟨g5, -⟩ := HGG.out W4 HZ4.out
    have d4 : ∀ o, (W4.alloc o).cell? ⟨n, 4, none⟩ = some (.slice none 0 0) := fun o => (HB4.out.alloc_old o).cell 4
    have d5 : ∀ o, (W4.alloc o).frozen? ⟨n, 4, none⟩ = false := fun o => (HB4.out.alloc_old o).free 4
    have hmk := mk11
    go_upto_region 18 with (fail)
    have hnl := HB4.out.lt
    have hpn : pb ≠ n := by have := HPB.out; have := hZ0.out; omega
    have hqn : qb ≠ n := by have := HQB.out; have := HPB.out; have := HP4.out.lt; have := hZ0.out; omega
    have HT5 := Lib.hid ((Blk.alloc W4 P11 107).setCell_other (a := ⟨n, 4, none⟩) (.slice (some ⟨W4.heap.size, 0, none⟩) 11 11) (Nat.ne_of_gt hnl))
    have HB5 := Lib.hid ((HB4.out.alloc_old (.cells P11 107)).set 4 (.slice (some ⟨W4.heap.size, 0, none⟩) 11 11))
    have HP5 := Lib.hid ((HP4.out.alloc_old (.cells P11 107)).setCell_other (a := ⟨n, 4, none⟩) (.slice (some ⟨W4.heap.size, 0, none⟩) 11 11) hpn)
    have HK5 := Lib.hid ((HK4.out.alloc_old (.cells P11 107)).setCell_other (a := ⟨n, 4, none⟩) (.slice (some ⟨W4.heap.size, 0, none⟩) 11 11) hqn)
    have HZ5 := Lib.hid ((HZ4.out.trans (But.of_below ((Below.refl _ _).alloc (Nat.le_refl _) (.cells P11 107)))).setCell 4 (.slice (some ⟨W4.heap.size, 0, none⟩) 11 11))
    have HS5 := Lib.hid (show ((W4.alloc (.cells P11 107)).setCell ⟨n, 4, none⟩ (.slice (some ⟨W4.heap.size, 0, none⟩) 11 11)).heap.size = W4.heap.size + 1 by simp [World.setCell])
    clear d4 d5 g5 HP4 HK4 HB4 HZ4 hmk hnl
    generalize (W4.alloc (.cells P11 107)).setCell ⟨n, 4, none⟩ (.slice (some ⟨W4.heap.size, 0, none⟩) 11 11) = W5 at HT5 HB5 HP5 HK5 HZ5 HS5 ⊢
    have hs4 := HS4.out
    generalize W4.heap.size = tb at HT5 HB5 HS5 hs4 ⊢
    have HTB := Lib.hid hs4
    clear hs4 HS4
    have e4 : W5.cell? ⟨n, 4, none⟩ = some (.slice (some ⟨tb, 0, none⟩) 11 11) := HB5.out.cell 4
    have e2 : W5.cell? ⟨n, 2, none⟩ = some (.string x) := HB5.out.cell 2
    obtain ⟨-, e6, -⟩ := HGG.out W5 HZ5.out
    have e7 : ∀ j, j < 11 → P11[j]? = some (.pointer none) := fun j hj => by
      have : j = 0 ∨ j = 1 ∨ j = 2 ∨ j = 3 ∨ j = 4 ∨ j = 5 ∨ j = 6 ∨ j = 7 ∨ j = 8 ∨ j = 9 ∨ j = 10 := by omega
      rcases this with rfl | rfl | rfl | rfl | rfl | rfl | rfl | rfl | rfl | rfl | rfl <;> rfl
    have E7 := Lib.hid e7
    have e8 : W5.drew.cell? ⟨tb, m1, none⟩ = some (.pointer none) := (HT5.out.cell m1).trans (e7 m1 hm1)
    have e9 : W5.drew.frozen? ⟨tb, m1, none⟩ = false := HT5.out.free m1
    have i1 : (m1 : Int) < 11 := by omega
    have i2 : (0 : Int) ≤ (m1 : Int) := by omega
    have j1 : (m2 : Int) < 11 := by omega
    have j2 : (0 : Int) ≤ (m2 : Int) := by omega
    clear e7
    go_still_tail 16, (by kernel_rfl)
    change wpList _ _ _ _ _ W5.drew
    clear e4 e2 e6
    have htn : n ≠ tb := by have := HTB.out; have := HQB.out; have := HP5.out.lt; have := HPB.out; have := hZ0.out; omega
    have htp : pb ≠ tb := by have := HTB.out; have := HQB.out; have := HPB.out; omega
    have htq : qb ≠ tb := by have := HTB.out; omega
    have htw : wr.heap.size ≤ tb := by have := HTB.out; have := HQB.out; have := HPB.out; omega
    have hT6 := HT5.out.drew
    have hB6 := HB5.out.drew
    have hP6 := HP5.out.drew
    have hK6 := HK5.out.drew
    have hZ6 : But n wr W5.drew := HZ5.out.drewN 1
    have hS6 : W5.drew.heap.size = tb + 1 := HS5.out
    generalize W5.drew = W6 at hT6 hB6 hP6 hK6 hZ6 hS6 e8 e9 ⊢
    have HS6 := Lib.hid hS6
    clear HT5 HB5 HP5 HK5 HZ5 HS5 hS6
    have HT7 := Lib.hid (hT6.set m1 (.pointer (some ⟨pb, 0, none⟩)))
    have HB7 := Lib.hid (hB6.setCell_other (a := ⟨tb, m1, none⟩) (.pointer (some ⟨pb, 0, none⟩)) htn)
    have HP7 := Lib.hid (hP6.setCell_other (a := ⟨tb, m1, none⟩) (.pointer (some ⟨pb, 0, none⟩)) htp)
    have HK7 := Lib.hid (hK6.setCell_other (a := ⟨tb, m1, none⟩) (.pointer (some ⟨pb, 0, none⟩)) htq)
    have HZ7 := Lib.hid (show But n wr (W6.setCell ⟨tb, m1, none⟩ (.pointer (some ⟨pb, 0, none⟩))) from But.setNew hZ6 htw m1 _)
    clear hT6 hB6 hP6 hK6 hZ6
    go_upto_region 19 with (fail)
    have HS7 := Lib.hid ((size_set W6 ⟨tb, m1, none⟩ (.pointer (some ⟨pb, 0, none⟩))).trans HS6.out)
    clear e8 e9 HS6
    generalize W6.setCell ⟨tb, m1, none⟩ (.pointer (some ⟨pb, 0, none⟩)) = W7 at HT7 HB7 HP7 HK7 HZ7 HS7 ⊢
    obtain ⟨v2, hv2⟩ : ∃ v, (P11.setIfInBounds m1 (.pointer (some ⟨pb, 0, none⟩)))[m2]? = some v := ⟨_, Array.getElem?_eq_getElem (by simp; omega)⟩
    have e4 : W7.cell? ⟨n, 4, none⟩ = some (.slice (some ⟨tb, 0, none⟩) 11 11) := HB7.out.cell 4
    obtain ⟨-, -, e6⟩ := HGG.out W7 HZ7.out
    have e8 : W7.drew.cell? ⟨tb, m2, none⟩ = some v2 := (HT7.out.cell m2).trans hv2
    have e9 : W7.drew.frozen? ⟨tb, m2, none⟩ = false := HT7.out.free m2
    clear hv2
    go_still_tail 13, (by kernel_rfl)
    change wpList _ _ _ _ _ W7.drew
    clear e4 e6
    have hT8 := HT7.out.drew
    have hB8 := HB7.out.drew
    have hP8 := HP7.out.drew
    have hK8 := HK7.out.drew
    have hZ8 : But n wr W7.drew := HZ7.out.drewN 1
    have hS8 : W7.drew.heap.size = tb + 1 := HS7.out
    generalize W7.drew = W8 at hT8 hB8 hP8 hK8 hZ8 hS8 e8 e9 ⊢
    have HS8 := Lib.hid hS8
    clear HT7 HB7 HP7 HK7 HZ7 HS7 hS8
    have HT9 := Lib.hid (hT8.set m2 (.pointer (some ⟨qb, 0, none⟩)))
    have HB9 := Lib.hid (hB8.setCell_other (a := ⟨tb, m2, none⟩) (.pointer (some ⟨qb, 0, none⟩)) htn)
    have HP9 := Lib.hid (hP8.setCell_other (a := ⟨tb, m2, none⟩) (.pointer (some ⟨qb, 0, none⟩)) htp)
    have HK9 := Lib.hid (hK8.setCell_other (a := ⟨tb, m2, none⟩) (.pointer (some ⟨qb, 0, none⟩)) htq)
    have HZ9 := Lib.hid (show But n wr (W8.setCell ⟨tb, m2, none⟩ (.pointer (some ⟨qb, 0, none⟩))) from But.setNew hZ8 htw m2 _)
    have HS9 := Lib.hid ((size_set W8 ⟨tb, m2, none⟩ (.pointer (some ⟨qb, 0, none⟩))).trans HS8.out)
    clear hT8 hB8 hP8 hK8 hZ8 HS8
    go_upto_region 20 with (fail)
    clear e8 e9
    generalize W8.setCell ⟨tb, m2, none⟩ (.pointer (some ⟨qb, 0, none⟩)) = W9 at HT9 HB9 HP9 HK9 HZ9 HS9 ⊢
    have e2 : W9.cell? ⟨n, 2, none⟩ = some (.string x) := HB9.out.cell 2
    have e3 : W9.cell? ⟨n, 3, none⟩ = some (.pointer (some ⟨nb, 0, none⟩)) := HB9.out.cell 3
    have f2 := HB9.out.free 2
    have f3 := HB9.out.free 3
    go_upto_region 22 with (fail)
    clear e2 e3 f2 f3
    have HB10 := Lib.hid ((HB9.out.set 2 (.string em)).set 3 (.pointer none))
    have HT10 := Lib.hid ((HT9.out.setCell_other (a := ⟨n, 2, none⟩) (.string em) (Ne.symm htn)).setCell_other (a := ⟨n, 3, none⟩) (.pointer none) (Ne.symm htn))
    have HP10 := Lib.hid ((HP9.out.setCell_other (a := ⟨n, 2, none⟩) (.string em) hpn).setCell_other (a := ⟨n, 3, none⟩) (.pointer none) hpn)
    have HK10 := Lib.hid ((HK9.out.setCell_other (a := ⟨n, 2, none⟩) (.string em) hqn).setCell_other (a := ⟨n, 3, none⟩) (.pointer none) hqn)
    have HZ10 := Lib.hid ((HZ9.out.setCell 2 (.string em)).setCell 3 (.pointer none))
    have HS10 := Lib.hid (((size_set _ ⟨n, 3, none⟩ (.pointer none)).trans (size_set W9 ⟨n, 2, none⟩ (.string em))).trans HS9.out)
    clear HT9 HB9 HP9 HK9 HZ9 HS9
    generalize (W9.setCell ⟨n, 2, none⟩ (.string em)).setCell ⟨n, 3, none⟩ (.pointer none) = W10 at HT10 HB10 HP10 HK10 HZ10 HS10 ⊢
    go_wp2_with (go_at_call 48; refine (add_fresh qb _ val pr _ _ HK10.out hk1).mono ?_; rintro e w' ⟨rfl, hf⟩; have HF := Lib.hid hf; clear hf)
    first | go_end0 | refine bodyPost_ret (results_none rfl _ _ _) rfl ?_
    obtain ⟨h1, h2, h3, h4⟩ := HF.out
    have hs := HS10.out
    rw [hs] at h1 h2 h3
    have k1 : tb = wr.heap.size + 2 := by have := HTB.out; have := HQB.out; have := HPB.out; omega
    have k2 : qb = wr.heap.size + 1 := by have := HQB.out; have := HPB.out; omega
    have k3 := HPB.out
    have hT := h4.blk HT10.out (Ne.symm htq)
    have hB := h4.blk HB10.out (Ne.symm hqn)
    have hP := h4.blk HP10.out (by omega)
    have hZ := HZ10.out
    clear HF HS10 HT10 HB10 HP10 HK10 HZ10 HTB HQB HPB
    subst k1 k2 k3
    refine ⟨rfl, hB, hP, h1, hT, h2, by omega, ?_⟩
    exact ⟨h4.os.trans hZ.os, h4.tape.trans hZ.tape, h4.output.trans hZ.output, by omega, fun k hk hkn => (h4.block k (by omega) (by omega)).trans (hZ.block k hk hkn)⟩
end Go.Proofs.Ytkjgnkmnngaioaa.Q
