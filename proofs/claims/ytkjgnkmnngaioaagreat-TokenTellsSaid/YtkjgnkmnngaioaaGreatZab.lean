/- What the proof of tokenTells_holds needs, of the texts that this work has written and of the words that the kit's print lends. -/
import Derived.Test.YtkjgnkmnngaioaaGreatZaa
import Derived.Test.YtkjgnkmnngaioaaGreatProg
import Derived.Lib.SliceRun
import Derived.IntWalk
import Derived.WalkSpells
import Derived.Laws.IdiomStrings
import Derived.Lib.Bytealg
import Derived.BigQuiet
import Derived.Deep.QuietTactic
import Derived.StillTailTactics
import Derived.Deep.DeepCutAuto
import Derived.Deep.CutBlock
import Derived.Lib.SlBytesRow
import Derived.WalkKit
import Derived.Defers
import Derived.Laws.Pointers
import Derived.Laws.LoneSync
import Derived.RegionTactic
import Derived.RegionCalls
import Derived.KernelRfl
import Derived.Deep.MidRow
namespace Go.Proofs.YtkjgnkmnngaioaaGreat.Q
open Go.RowKit Go.IntWalk Go.Proofs.YtkjgnkmnngaioaaGreat.Mem
set_option linter.unusedVariables false
set_option linter.unusedSimpArgs false
def ltr (c : UInt8) : Bool := decide (97 ≤ (c ||| 32).toNat) && decide ((c ||| 32).toNat ≤ 122)
def inN (c : UInt8) : Bool := ltr c || (decide (48 ≤ c.toNat) && decide (c.toNat ≤ 57)) || decide (c.toNat = 45)
def low (c : UInt8) : UInt8 := if ltr c then c ||| 32 else c
def st (l : List UInt8) : ByteArray := ⟨l.toArray⟩
/-- How many bytes of a name stand first. -/
def nmLen (l : List UInt8) : Nat := (l.takeWhile inN).length
/-- How many bytes the name has that stands first; none: none does. -/
def nmF (l : List UInt8) : Option Nat := if nmLen l = 0 ∨ 20 < nmLen l ∨ (l.headD 0 |> ltr) = false then none else some (nmLen l)
def lows (l : List UInt8) : List UInt8 := l.map low
theorem bits_or (c : UInt8) : bits .or .u8 (c.toNat : Int) 32 = ((c ||| 32).toNat : Int) := by
  have h : ∀ n : Fin 256, bits .or .u8 ((UInt8.ofNat n.val).toNat : Int) 32 = (((UInt8.ofNat n.val) ||| 32).toNat : Int) := by decide +kernel
  have := h ⟨c.toNat, c.toNat_lt⟩
  simpa using this
theorem nmLen_le (l : List UInt8) : nmLen l ≤ l.length := by
  unfold nmLen
  exact (List.takeWhile_prefix _).length_le
theorem nmLen_drop {l : List UInt8} {n : Nat} (h : ∀ c ∈ l.take n, inN c = true) (hn : n ≤ l.length) (hs : n = l.length ∨ ∃ h : n < l.length, inN l[n] = false) : nmLen l = n := by
  unfold nmLen
  induction l generalizing n with
  | nil => simp at hn; simp [hn]
  | cons c l ih =>
    cases n with
    | zero =>
      rcases hs with h0 | ⟨h0, h1⟩
      · simp at h0
      · simp at h1; simp [List.takeWhile_cons, h1]
    | succ n =>
      have h1 := h c (by simp)
      rw [List.takeWhile_cons, if_pos h1, List.length_cons, ih (n := n) (fun d hd => h d (by simp [hd])) (by simpa using hn) ?_]
      rcases hs with h0 | ⟨h0, h2⟩
      · left; simpa using h0
      · right; exact ⟨by simpa using h0, by simpa using h2⟩
set_option maxRecDepth 100000 in
set_option maxHeartbeats 1600000 in
theorem letter_calls (c : UInt8) (w : World) : Calls Tryz.prog 89 #[.int .u8 (c.toNat : Int)] w fun e w' => e = .returned (.bool (ltr c)) ∧ w = w' := by
  have hb := bits_or c
  have HB := Lib.hid hb
  obtain ⟨d, hd⟩ : ∃ d, d = (c ||| 32).toNat := ⟨_, rfl⟩
  have HL := Lib.hid (show ltr c = (decide (97 ≤ d) && decide (d ≤ 122)) by rw [hd]; rfl)
  rw [← hd] at hb
  clear hd
  by_cases h1 : 97 ≤ d
  · have u1' : (97 : Int) ≤ (d : Int) := by omega
    go_enter Tryz.func89, Tryz.ntmps89
    go_wp2_with fail
    go_ret
    have e : decide ((d : Int) ≤ 122) = decide (d ≤ 122) := by rw [decide_eq_decide]; omega
    exact ⟨by rw [HL.out]; simp [h1, e], rfl⟩
  · have u1 : ¬ (97 : Int) ≤ (d : Int) := by omega
    go_enter Tryz.func89, Tryz.ntmps89
    go_wp2_with fail
    go_ret
    refine ⟨?_, rfl⟩
    rw [HL.out]
    first | (simp [h1]; done) | (simp; omega)
set_option maxRecDepth 100000 in
set_option maxHeartbeats 1600000 in
theorem inName_calls (c : UInt8) (w : World) : Calls Tryz.prog 88 #[.int .u8 (c.toNat : Int)] w fun e w' => e = .returned (.bool (inN c)) ∧ w = w' := by
  have HC := Lib.hid (show inN c = (ltr c || (decide (48 ≤ c.toNat) && decide (c.toNat ≤ 57)) || decide (c.toNat = 45)) from rfl)
  obtain ⟨b, hb⟩ : ∃ b, ltr c = b := ⟨_, rfl⟩
  rw [hb] at HC
  have HL := Lib.hid (show Calls Tryz.prog 89 #[.int .u8 (c.toNat : Int)] w fun e w' => e = .returned (.bool b) ∧ w = w' by rw [← hb]; exact letter_calls c w)
  clear hb
  obtain ⟨d, hd⟩ : ∃ d, c.toNat = d := ⟨_, rfl⟩
  rw [hd] at HL HC ⊢
  clear hd
  obtain ⟨r, hr⟩ : ∃ r, inN c = r := ⟨_, rfl⟩
  rw [hr] at HC ⊢
  clear hr
  cases b with
  | true =>
    go_enter Tryz.func88, Tryz.ntmps88
    go_wp2_with (go_at_call 89; refine HL.out.mono ?_; rintro e w' ⟨rfl, rfl⟩)
    go_ret
    exact ⟨by rw [HC.out]; simp, rfl⟩
  | false =>
    by_cases h1 : 48 ≤ d
    · have u1 : (48 : Int) ≤ (d : Int) := by omega
      by_cases h2 : d ≤ 57
      · have u2 : (d : Int) ≤ 57 := by omega
        go_enter Tryz.func88, Tryz.ntmps88
        go_wp2_with (go_at_call 89; refine HL.out.mono ?_; rintro e w' ⟨rfl, rfl⟩)
        go_ret
        exact ⟨by rw [HC.out]; simp [h1, h2], rfl⟩
      · have u2 : ¬ (d : Int) ≤ 57 := by omega
        have u3 : ((d : Int) == 45) = false := by simp; omega
        go_enter Tryz.func88, Tryz.ntmps88
        go_wp2_with (go_at_call 89; refine HL.out.mono ?_; rintro e w' ⟨rfl, rfl⟩)
        go_ret
        exact ⟨by rw [HC.out]; simp [h1, h2]; omega, rfl⟩
    · have u1 : ¬ (48 : Int) ≤ (d : Int) := by omega
      by_cases h2 : d = 45
      · subst h2
        go_enter Tryz.func88, Tryz.ntmps88
        go_wp2_with (go_at_call 89; refine HL.out.mono ?_; rintro e w' ⟨rfl, rfl⟩)
        go_ret
        exact ⟨by rw [HC.out]; rfl, rfl⟩
      · have u3 : ((d : Int) == 45) = false := by simp; omega
        go_enter Tryz.func88, Tryz.ntmps88
        go_wp2_with (go_at_call 89; refine HL.out.mono ?_; rintro e w' ⟨rfl, rfl⟩)
        go_ret
        exact ⟨by rw [HC.out]; simp [h1, h2], rfl⟩
/-- A block of cells that may be marked. -/
def Blz (w : World) (g : Nat) (cs : Array Value) (fz : Nat × Nat) : Prop := w.heap[g]? = some (.cells cs 5 fz)
theorem Blz.cell {w : World} {g : Nat} {cs : Array Value} {fz : Nat × Nat} (h : Blz w g cs fz) (i : Nat) : w.cell? ⟨g, i, none⟩ = cs[i]? := by
  unfold Blz at h; simp [World.cell?, h]
theorem Blz.free {w : World} {g : Nat} {cs : Array Value} {fz : Nat × Nat} (h : Blz w g cs fz) {i : Nat} (hi : i < fz.1) : w.frozen? ⟨g, i, none⟩ = false := by
  unfold Blz at h; simp [World.frozen?, h]; omega
theorem Blz.set {w : World} {g : Nat} {cs : Array Value} {fz : Nat × Nat} (h : Blz w g cs fz) (i : Nat) (v : Value) : Blz (w.setCell ⟨g, i, none⟩ v) g (cs.setIfInBounds i v) fz := by
  unfold Blz at *; simp [World.setCell, Array.getElem?_modify, h]
theorem Blz.lt {w : World} {g : Nat} {cs : Array Value} {fz : Nat × Nat} (h : Blz w g cs fz) : g < w.heap.size := by
  unfold Blz at h
  rcases Nat.lt_or_ge g w.heap.size with h1 | h1
  · exact h1
  · rw [Array.getElem?_eq_none h1] at h; cases h
/-- Bytes as_ cells. -/
def by8' (l : List UInt8) : List Value := l.map fun b => Value.int .u8 b.toNat
theorem by8'_at {l : List UInt8} {i : Nat} (h : i < l.length) : (by8' l)[i]? = some (.int .u8 (l[i].toNat : Int)) := by
  unfold by8'; rw [List.getElem?_map, List.getElem?_eq_getElem h]; rfl
set_option maxRecDepth 100000 in
set_option maxHeartbeats 1600000 in
theorem lower_calls (s : ByteArray) (w : World) (hs : s.size ≤ 600000) : Calls Tryz.prog 90 #[.string s] w fun e w' => e = .returned (.string (st (lows s.data.toList))) ∧ Below w.heap.size w w' := by
  have hbs : ∀ W : World, (convert 9 72 (.string s)).run Tryz.prog W = _ := fun W => run_bytes_of_string (P := Tryz.prog) W 9 72 5 s Tryz.underlying9 Tryz.underlying72 Tryz.underlying5
  go_enter Tryz.func90, Tryz.ntmps90
  go_wp2_with fail
  clear hbs
  obtain ⟨g, hg⟩ : ∃ g, g = w.heap.size := ⟨_, rfl⟩
  obtain ⟨cp, hcp⟩ : ∃ cp, cp = grownCap w s.size 0 5 := ⟨_, rfl⟩
  rw [← hcp]
  have HB0 := Lib.hid (show Blz ((w.alloc (.cells (bytesRow s cp) 5 ((bytesRow s cp).size, (bytesRow s cp).size + 1))).drew) g (bytesRow s cp) ((bytesRow s cp).size, (bytesRow s cp).size + 1) from by
    rw [hg]; exact heap_alloc_new w _)
  have HW0 := Lib.hid (show Below w.heap.size w ((w.alloc (.cells (bytesRow s cp) 5 ((bytesRow s cp).size, (bytesRow s cp).size + 1))).drew) from below_drewN ((Below.refl _ _).alloc (Nat.le_refl _) _) 1)
  have HG := Lib.hid hg
  rw [← hg]
  clear hg hcp
  obtain ⟨N, hN⟩ : ∃ N, N = (bytesRow s cp).size := ⟨_, rfl⟩
  have HN := Lib.hid (show s.size ≤ N from by rw [hN]; unfold bytesRow; simp)
  go_loopw [10] (fun iv wr => ∃ (i : Nat) (cur : Array Value), i ≤ s.size ∧ iv = .int .i64 (i : Int) ∧ Hid (Blz wr g cur (N, N + 1)) ∧ Hid (cur.size = N) ∧ Hid (cur.toList.take s.size = by8' (lows (s.data.toList.take i) ++ s.data.toList.drop i)) ∧ Hid (Below w.heap.size w wr)) (fun iv _ => s.size - (intOf iv).toNat)
  case atStart => exact ⟨0, _, by omega, rfl, Lib.hid (by rw [hN]; exact HB0.out), Lib.hid hN.symm, Lib.hid (by unfold bytesRow by8' lows; simp), by first | exact HW0 | (rw [hN]; exact HW0)⟩
  case round =>
    clear HB0 HW0 hN
    obtain ⟨i, cur, hi, rfl, HB, HC, HT, HW⟩ := hrel
    have hl : s.data.toList.length = s.size := by simp
    by_cases hlt : i < s.size
    · have v1 : (i : Int) < (s.size : Int) := by omega
      have v2 : (0 : Int) ≤ (i : Int) := by omega
      obtain ⟨c, hc⟩ : ∃ c, c = s.data.toList[i]'(by omega) := ⟨_, rfl⟩
      have d0 : wr.cell? ⟨g, i, none⟩ = some (.int .u8 (c.toNat : Int)) := by
        rw [HB.out.cell]
        have h := by8'_at (l := lows (s.data.toList.take i) ++ s.data.toList.drop i) (i := i) (by simp [lows]; omega)
        rw [← HT.out, List.getElem?_take_of_lt hlt] at h
        rw [← Array.getElem?_toList, h, hc]
        congr 3
        rw [List.getElem_append_right (by simp [lows]; omega)]
        simp [lows, hi]
      have d1 : wr.frozen? ⟨g, i, none⟩ = false := HB.out.free (by have := HN.out; show i < N; omega)
      have HS := Lib.hid (show by8' (lows (s.data.toList.take (i + 1)) ++ s.data.toList.drop (i + 1)) = (cur.toList.take s.size).set i (.int .u8 ((low c).toNat : Int)) from by
        have e1 : s.data.toList.drop i = c :: s.data.toList.drop (i + 1) := by rw [hc]; exact List.drop_eq_getElem_cons (by omega)
        have e2 : s.data.toList.take (i + 1) = s.data.toList.take i ++ [c] := by rw [hc]; exact List.take_succ_eq_append_getElem (by omega)
        rw [HT.out, e1, e2]
        simp only [by8', lows, List.map_append, List.map_cons, List.map_nil]
        rw [List.set_append_right _ _ (by simp; omega)]
        simp [hi])
      have HBO := Lib.hid (bits_or c)
      obtain ⟨b, hb⟩ : ∃ b, ltr c = b := ⟨_, rfl⟩
      have HLT := Lib.hid hb
      have HL := Lib.hid (show Calls Tryz.prog 89 #[.int .u8 (c.toNat : Int)] wr fun e w' => e = .returned (.bool b) ∧ wr = w' by rw [← hb]; exact letter_calls c wr)
      have v5 : ((c.toNat : Nat) : Int) < 256 := by have := c.toNat_lt; omega
      clear hb hc hl
      cases b with
      | true =>
        go_wp2_with (go_at_call 89; refine HL.out.mono ?_; rintro e w' ⟨rfl, rfl⟩)
        go_roundw
        case rel =>
          refine ⟨i + 1, cur.setIfInBounds i (.int .u8 (bits .or .u8 (c.toNat : Int) 32)), by omega, rfl, Lib.hid (HB.out.set _ _), Lib.hid (by rw [Array.size_setIfInBounds]; exact HC.out), Lib.hid ?_, Lib.hid (HW.out.trans ⟨rfl, rfl, rfl, by simp [World.setCell], fun k hk => Below.heap_setCell _ _ _ _ (by show k ≠ g; have := HG.out; omega)⟩)⟩
          rw [HS.out, Array.toList_setIfInBounds, List.take_set, HBO.out]
          unfold low
          rw [if_pos HLT.out]
        case measure => simp [intOf]; omega
      | false =>
        go_wp2_with (go_at_call 89; refine HL.out.mono ?_; rintro e w' ⟨rfl, rfl⟩)
        go_roundw
        case rel =>
          refine ⟨i + 1, cur, by omega, rfl, HB, HC, Lib.hid ?_, HW⟩
          rw [HS.out]
          unfold low
          rw [if_neg (by rw [HLT.out]; decide)]
          have h : (cur.toList.take s.size)[i]? = some (.int .u8 (c.toNat : Int)) := by
            rw [List.getElem?_take_of_lt hlt, Array.getElem?_toList, ← HB.out.cell, d0]
          rw [List.getElem?_eq_some_iff] at h
          obtain ⟨h1, h2⟩ := h
          rw [← h2]; exact (List.set_getElem_self h1).symm
        case measure => simp [intOf]; omega
    · have v1 : ¬ (i : Int) < (s.size : Int) := by omega
      have hi' : i = s.size := by omega
      have hT := HT.out
      rw [hi', List.take_of_length_le (l := s.data.toList) (by omega), List.drop_of_length_le (by omega), List.append_nil] at hT
      have hlen : (lows s.data.toList).length = s.size := by simp [lows]
      have hcv := run_convert_bytes_back (P := Tryz.prog) wr 72 9 5 ⟨g, 0, none⟩ cp (lows s.data.toList) Tryz.underlying72 Tryz.underlying5 Tryz.underlying9 (fun k hk => by
        have e : (⟨g, 0, none⟩ : Addr).add k = ⟨g, k, none⟩ := by unfold Addr.add; split <;> simp_all
        rw [e, HB.out.cell, ← Array.getElem?_toList]
        have h1 := by8'_at hk
        rw [← hT, List.getElem?_take_of_lt (by omega)] at h1
        exact h1)
      rw [hlen] at hcv
      clear hT hlen hl
      go_wp2_with fail
      refine bodyPost_ret (v := .string ⟨(lows s.data.toList).toArray⟩) (by simp [results, Tryz.results90, go_sem]) rfl ⟨rfl, HW.out⟩
end Go.Proofs.YtkjgnkmnngaioaaGreat.Q
namespace Go.Proofs.YtkjgnkmnngaioaaGreat.Q
open Go.RowKit Go.IntWalk Go.Proofs.YtkjgnkmnngaioaaGreat.Mem
set_option linter.unusedVariables false
set_option linter.unusedSimpArgs false
/-- A row of bytes: in block g from place a on. -/
structure Bt (w : World) (g a n c : Nat) (l : List UInt8) : Prop where
  len : l.length = n
  cap : n ≤ c
  cell : ∀ i (h : i < l.length), w.cell? ⟨g, a + i, none⟩ = some (.int .u8 (l[i].toNat : Int))
theorem Bt.below {w w' : World} {g a n c : Nat} {l : List UInt8} (h : Bt w g a n c l) (hb : Below w.heap.size w w') : Bt w' g a n c l :=
  ⟨h.len, h.cap, fun i hi => by rw [hb.cell (p := ⟨g, a + i, none⟩) (lt_of_cell (h.cell i hi))]; exact h.cell i hi⟩
theorem Bt.keep {w w' : World} {g a n c : Nat} {l : List UInt8} (h : Bt w g a n c l) (hb : w'.heap[g]? = w.heap[g]?) : Bt w' g a n c l :=
  ⟨h.len, h.cap, fun i hi => (World.cell?_of_block hb).trans (h.cell i hi)⟩
theorem Bt.drop {w : World} {g a n c : Nat} {l : List UInt8} (h : Bt w g a n c l) {k a' c' : Nat} (hk : k ≤ n) (ha : k < n → a' = a + k) (hc : n - k ≤ c') : Bt w g a' (n - k) c' (l.drop k) := by
  have hl := h.len
  refine ⟨by simp [hl], hc, fun i hi => ?_⟩
  rw [List.length_drop] at hi
  rw [ha (by omega), Nat.add_assoc, List.getElem_drop]
  exact h.cell (k + i) (by omega)
/-- Where 'b[k:len(b):len(b)]' stands. -/
def bof (a n k : Nat) : Nat := if n = k then a else a + k
theorem bof_lt {a n k : Nat} (h : k < n) : bof a n k = a + k := by unfold bof; rw [if_neg (by omega)]
theorem add_at' (g a k : Nat) : (⟨g, a, none⟩ : Addr).add k = ⟨g, a + k, none⟩ := by unfold Addr.add; split <;> simp_all
/-- 'b[k:len(b):len(b)]'. -/
theorem slice_lhm (W : World) (g a n c k : Nat) (hk : k ≤ n) (hn : n ≤ c) :
    (Instr.slice 72 (.slice (some ⟨g, a, none⟩) n c) (some (.int .i64 (k : Int))) (some (.int .i64 (n : Int))) (some (.int .i64 (n : Int)))).run Tryz.prog W = .ok (.slice (some ⟨g, bof a n k, none⟩) (n - k) (n - k)) W := by
  have hz : ∀ w, (Go.sizeOf 5).run Tryz.prog w = .ok 1 w := fun _ => by kernel_rfl
  have he : Tryz.prog.elem 72 = 5 := by simp [Program.elem, Tryz.underlying72]
  rw [run_slice_lhm W 72 _ n c (by rw [he]; exact Tryz.underlying72) .i64 .i64 .i64 k n n (by omega) (by omega) (by omega) (by omega), he, hz]
  simp only [Result.andThen, sliced, Int.toNat_natCast, Nat.mul_one, Option.map_some, add_at']
  unfold bof
  by_cases h : n = k
  · rw [if_pos h, if_pos h]
  · rw [if_neg h, if_neg h]
/-- 'b[k:]'. -/
theorem slice_l (W : World) (g a n c k : Nat) (hk : k ≤ n) (hn : n ≤ c) :
    (Instr.slice 72 (.slice (some ⟨g, a, none⟩) n c) (some (.int .i64 (k : Int))) none none).run Tryz.prog W = .ok (.slice (some ⟨g, bof a c k, none⟩) (n - k) (c - k)) W := by
  have hz : ∀ w, (Go.sizeOf 5).run Tryz.prog w = .ok 1 w := fun _ => by kernel_rfl
  have he : Tryz.prog.elem 72 = 5 := by simp [Program.elem, Tryz.underlying72]
  rw [run_slice_l W 72 _ n c (by rw [he]; exact Tryz.underlying72) .i64 k (by omega) (by omega), he, hz]
  simp only [Result.andThen, sliced, Int.toNat_natCast, Nat.mul_one, Option.map_some, add_at']
  unfold bof
  by_cases h : c = k
  · rw [if_pos h, if_pos h]
  · rw [if_neg h, if_neg h]
/-- 'b[:k]'. -/
theorem slice_h (W : World) (g a n c k : Nat) (hk : k ≤ n) (hn : n ≤ c) :
    (Instr.slice 72 (.slice (some ⟨g, a, none⟩) n c) none (some (.int .i64 (k : Int))) none).run Tryz.prog W = .ok (.slice (some ⟨g, a, none⟩) k c) W := by
  have hz : ∀ w, (Go.sizeOf 5).run Tryz.prog w = .ok 1 w := fun _ => by kernel_rfl
  have he : Tryz.prog.elem 72 = 5 := by simp [Program.elem, Tryz.underlying72]
  rw [run_slice_h W 72 _ n c (by rw [he]; exact Tryz.underlying72) .i64 k (by omega) (by omega), he, hz]
  simp only [Result.andThen, sliced, Int.toNat_natCast, Nat.zero_mul, Option.map_some, add_at', Nat.sub_zero, Nat.add_zero, ite_self]
/-- 'string(b)', read. -/
theorem conv_bt {w : World} {g a n c : Nat} {l : List UInt8} (h : Bt w g a n c l) {k c' : Nat} (hk : k ≤ n) : (convert 72 9 (.slice (some ⟨g, a, none⟩) k c')).run Tryz.prog w = .ok (.string (st (l.take k))) w := by
  have hl := h.len
  have h1 := run_convert_bytes_back (P := Tryz.prog) w 72 9 5 ⟨g, a, none⟩ c' (l.take k) Tryz.underlying72 Tryz.underlying5 Tryz.underlying9 (fun j hj => by
    rw [List.length_take] at hj
    rw [add_at', h.cell j (by omega), List.getElem_take])
  rw [List.length_take, Nat.min_eq_left (by omega)] at h1
  exact h1
theorem nmF_some {l : List UInt8} {k : Nat} (h : nmF l = some k) : k = nmLen l ∧ 0 < k ∧ k ≤ 20 ∧ k ≤ l.length ∧ ltr (l.headD 0) = true := by
  unfold nmF at h
  split at h
  · cases h
  · rename_i hc
    injection h with h
    have := nmLen_le l
    have h3 : ltr (l.headD 0) = true := by
      cases he : ltr (l.headD 0) with
      | true => rfl
      | false => exact absurd (.inr (.inr he)) hc
    exact ⟨h.symm, by omega, by omega, by omega, h3⟩
/-- What 'name' tells. -/
def NmPost (g a n : Nat) (l : List UInt8) (w : World) (e : Ending) (w' : World) : Prop :=
  (match nmF l with
    | none => e = .returned (.tuple #[.string ⟨#[]⟩, .slice none 0 0, .bool false])
    | some k => e = .returned (.tuple #[.string (st (lows (l.take k))), .slice (some ⟨g, bof a n k, none⟩) (n - k) (n - k), .bool true])) ∧ Below w.heap.size w w'
/-- Ahead of the call, and behind it. -/
def NmC (w0 w1 : World) : Nat → World → Prop
  | 0, y => y = w1
  | _, y => Below w0.heap.size w0 y
set_option maxRecDepth 100000 in
set_option maxHeartbeats 1600000 in
theorem name_calls (g a n c : Nat) (l : List UInt8) (w : World) (hB : Bt w g a n c l) (hn : n ≤ 9223372036854775807) :
    Calls Tryz.prog 53 #[.slice (some ⟨g, a, none⟩) n c] w (NmPost g a n l w) := by
  have HB := Lib.hid hB
  have HLN := Lib.hid hB.len
  have HCP := Lib.hid hB.cap
  clear hB
  go_enter Tryz.func53, Tryz.ntmps53
  go_wp2_with fail
  go_loop [5] (fun iv => ∃ k : Nat, k ≤ n ∧ iv = .int .i64 (k : Int) ∧ Hid (∀ c ∈ l.take k, inN c = true)) (fun iv => n - (intOf iv).toNat)
  case atStart => exact ⟨0, by omega, rfl, Lib.hid (by simp)⟩
  case round =>
    obtain ⟨k, hk, rfl, HA⟩ := hrel
    by_cases hlt : k < n
    · have v1 : (k : Int) < (n : Int) := by omega
      have v2 : (0 : Int) ≤ (k : Int) := by omega
      obtain ⟨d, hd⟩ : ∃ d, d = l[k]'(by have := HLN.out; omega) := ⟨_, rfl⟩
      have d0 : w.cell? ⟨g, a + k, none⟩ = some (.int .u8 (d.toNat : Int)) := by rw [hd]; exact HB.out.cell k (by have := HLN.out; omega)
      have HTK := Lib.hid (show l.take (k + 1) = l.take k ++ [d] by rw [hd]; exact List.take_succ_eq_append_getElem (by have := HLN.out; omega))
      have HD := Lib.hid hd
      obtain ⟨b, hb⟩ : ∃ b, inN d = b := ⟨_, rfl⟩
      have HBD := Lib.hid hb
      have HL := Lib.hid (show Calls Tryz.prog 88 #[.int .u8 (d.toNat : Int)] w fun e w' => e = .returned (.bool b) ∧ w = w' by rw [← hb]; exact inName_calls d w)
      have v5 : ((d.toNat : Nat) : Int) < 256 := by have := d.toNat_lt; omega
      clear hb hd
      cases b with
      | true =>
        go_wp2_with (go_at_call 88; refine HL.out.mono ?_; rintro e w' ⟨rfl, rfl⟩)
        go_round
        case rel =>
          refine ⟨k + 1, by omega, by go_num, Lib.hid (fun c hc => ?_)⟩
          rw [HTK.out, List.mem_append] at hc
          rcases hc with h | h
          · exact HA.out c h
          · rw [List.mem_singleton] at h; rw [h]; exact HBD.out
        case measure => simp [intOf]; omega
      | false =>
        have HK := Lib.hid (show nmLen l = k from nmLen_drop HA.out (by have := HLN.out; omega) (.inr ⟨by have := HLN.out; omega, by rw [← HD.out]; exact HBD.out⟩))
        by_cases h0 : k = 0
        · have HN0 := Lib.hid (show nmF l = none from by unfold nmF; rw [if_pos (.inl (by rw [HK.out, h0]))])
          subst h0
          rw [Nat.add_zero] at d0
          clear HK
          go_wp2_with (go_at_call 88; refine HL.out.mono ?_; rintro e w' ⟨rfl, rfl⟩)
          refine bodyPost_ret (v := .tuple #[.string ⟨#[]⟩, .slice none 0 0, .bool false]) (by simp [results, Tryz.results53, go_sem]) rfl ⟨by rw [HN0.out], Below.refl _ _⟩
        · have w0 : ((k : Int) == 0) = false := by simp; omega
          by_cases h1 : 20 < k
          · have HN0 := Lib.hid (show nmF l = none from by unfold nmF; rw [if_pos (.inr (.inl (by rw [HK.out]; exact h1)))])
            have w1 : (20 : Int) < (k : Int) := by omega
            clear HK
            go_wp2_with (go_at_call 88; refine HL.out.mono ?_; rintro e w' ⟨rfl, rfl⟩)
            refine bodyPost_ret (v := .tuple #[.string ⟨#[]⟩, .slice none 0 0, .bool false]) (by simp [results, Tryz.results53, go_sem]) rfl ⟨by rw [HN0.out], Below.refl _ _⟩
          · have w1 : ¬ (20 : Int) < (k : Int) := by omega
            have hn0 : 0 < n := by omega
            obtain ⟨d2, hd2⟩ : ∃ d2, d2 = l[0]'(by have := HLN.out; omega) := ⟨_, rfl⟩
            have d3 : w.cell? ⟨g, a, none⟩ = some (.int .u8 (d2.toNat : Int)) := by rw [hd2]; exact HB.out.cell 0 (by have := HLN.out; omega)
            have HHD := Lib.hid (show l.headD 0 = d2 from by
              rw [hd2]
              have := HLN.out
              cases l with
              | nil => simp at this; omega
              | cons x l => rfl)
            obtain ⟨b2, hb2⟩ : ∃ b, ltr d2 = b := ⟨_, rfl⟩
            have HBD2 := Lib.hid hb2
            have HL2 := Lib.hid (show Calls Tryz.prog 89 #[.int .u8 (d2.toNat : Int)] w fun e w' => e = .returned (.bool b2) ∧ w = w' by rw [← hb2]; exact letter_calls d2 w)
            have v6 : ((d2.toNat : Nat) : Int) < 256 := by have := d2.toNat_lt; omega
            clear hb2 hd2
            cases b2 with
            | false =>
              have HN0 := Lib.hid (show nmF l = none from by unfold nmF; rw [if_pos (.inr (.inr (by rw [HHD.out]; exact HBD2.out)))])
              clear HK HHD
              go_wp2_with (first | (go_at_call 88; refine HL.out.mono ?_; rintro e w' ⟨rfl, rfl⟩) | (go_at_call 89; refine HL2.out.mono ?_; rintro e w' ⟨rfl, rfl⟩))
              refine bodyPost_ret (v := .tuple #[.string ⟨#[]⟩, .slice none 0 0, .bool false]) (by simp [results, Tryz.results53, go_sem]) rfl ⟨by rw [HN0.out], Below.refl _ _⟩
            | true =>
              have HN0 := Lib.hid (show nmF l = some k from by
                unfold nmF
                rw [HK.out, HHD.out, HBD2.out, if_neg (by
                  rintro (h | h | h)
                  · omega
                  · omega
                  · cases h)])
              clear HK HHD
              go_upto_region 6 with (first | (go_at_call 88; refine HL.out.mono ?_; rintro e w' ⟨rfl, rfl⟩) | (go_at_call 89; refine HL2.out.mono ?_; rintro e w' ⟨rfl, rfl⟩))
              have hC0 : NmC w w.drew 0 w.drew := rfl
              have ne : Nonempty (Mix.Wd (NmC w w.drew) 0) := ⟨⟨w.drew, 0, Nat.le_refl _, hC0⟩⟩
              have ne0 : Nonempty (Mix.Wx (NmC w w.drew) 0 0) := ⟨⟨w.drew, 0, Nat.le_refl _, Nat.le_refl _, hC0⟩⟩
              have hsh : ∀ W : World, _ = Result.ok _ W := fun W => slice_h W g a n c k (by omega) HCP.out
              have hsl : ∀ W : World, _ = Result.ok _ W := fun W => slice_lhm W g a n c k (by omega) HCP.out
              have hcv : ∀ x : Mix.Wx (NmC w w.drew) 0 0, (convert 72 9 (.slice (some ⟨g, a, none⟩) k c)).run Tryz.prog x.1 = .ok (.string (st (l.take k))) x.1 := fun x => by
                obtain ⟨y, i, h1, h2, h3⟩ := x
                obtain rfl : i = 0 := by omega
                have h3' : y = w.drew := h3
                subst h3'
                exact conv_bt (w := w.drew) (HB.out.keep rfl) (by omega)
              have hltk : (l.take k).length = k := by rw [List.length_take]; have := HLN.out; omega
              have HLT := Lib.hid hltk
              clear hltk
              refine Mix.wp_region_mix (C := NmC w w.drew) [4] (by kernel_rfl) (by kernel_rfl) hC0 ?_
              iterate 3 (refine Mix.mix_still (by decide) (fun K hK => ?_); go_simp; refine hK _ ?_; clear hK K)
              (refine Mix.mix_in 0 0 (by decide) (by kernel_rfl) (fun K hK => ?_); go_simp; refine hK _ ?_; clear hK K)
              refine Mix.mix_turn (by decide) (fun K hK => ?_)
              go_simp
              refine ⟨_, fun y hy => (lower_calls (st (l.take k)) y (by show (l.take k).toArray.size ≤ 600000; rw [List.size_toArray, HLT.out]; omega)).mono fun e w' h => ⟨h.1, by have hy' : y = w.drew := hy; rw [hy'] at h; exact Below.trans (b := w.drew) ⟨rfl, rfl, rfl, Nat.le_refl _, fun _ _ => rfl⟩ h.2⟩, hK _ ?_⟩
              clear hK K
              iterate 10 (refine Mix.mix_still (by decide) (fun K hK => ?_); go_simp; refine hK _ ?_; clear hK K)
              refine Mix.mix_nil ?_
              intro w6 hw6
              have HW6 := Lib.hid (show Below w.heap.size w w6 from hw6)
              clear hw6 ne ne0 hC0 hcv hsh hsl
              show Exit.then _ _ _ _ w6
              go_wp2_with fail
              refine bodyPost_ret (v := .tuple #[.string (st (lows (st (l.take k)).data.toList)), .slice (some ⟨g, bof a n k, none⟩) (n - k) (n - k), .bool true]) (by simp [results, Tryz.results53, go_sem]) rfl ⟨by rw [HN0.out]; rfl, HW6.out⟩
    · have v1 : ¬ (k : Int) < (n : Int) := by omega
      have HK := Lib.hid (show nmLen l = k from nmLen_drop HA.out (by have := HLN.out; omega) (.inl (by have := HLN.out; omega)))
      by_cases h0 : k = 0
      · have HN0 := Lib.hid (show nmF l = none from by unfold nmF; rw [if_pos (.inl (by rw [HK.out, h0]))])
        subst h0
        clear HK
        go_wp2_with fail
        refine bodyPost_ret (v := .tuple #[.string ⟨#[]⟩, .slice none 0 0, .bool false]) (by simp [results, Tryz.results53, go_sem]) rfl ⟨by rw [HN0.out], Below.refl _ _⟩
      · have w0 : ((k : Int) == 0) = false := by simp; omega
        by_cases h1 : 20 < k
        · have HN0 := Lib.hid (show nmF l = none from by unfold nmF; rw [if_pos (.inr (.inl (by rw [HK.out]; exact h1)))])
          have w1 : (20 : Int) < (k : Int) := by omega
          clear HK
          go_wp2_with fail
          refine bodyPost_ret (v := .tuple #[.string ⟨#[]⟩, .slice none 0 0, .bool false]) (by simp [results, Tryz.results53, go_sem]) rfl ⟨by rw [HN0.out], Below.refl _ _⟩
        · have w1 : ¬ (20 : Int) < (k : Int) := by omega
          have hn0 : 0 < n := by omega
          obtain ⟨d2, hd2⟩ : ∃ d2, d2 = l[0]'(by have := HLN.out; omega) := ⟨_, rfl⟩
          have d3 : w.cell? ⟨g, a, none⟩ = some (.int .u8 (d2.toNat : Int)) := by rw [hd2]; exact HB.out.cell 0 (by have := HLN.out; omega)
          have HHD := Lib.hid (show l.headD 0 = d2 from by
            rw [hd2]
            have := HLN.out
            cases l with
            | nil => simp at this; omega
            | cons x l => rfl)
          obtain ⟨b2, hb2⟩ : ∃ b, ltr d2 = b := ⟨_, rfl⟩
          have HBD2 := Lib.hid hb2
          have HL2 := Lib.hid (show Calls Tryz.prog 89 #[.int .u8 (d2.toNat : Int)] w fun e w' => e = .returned (.bool b2) ∧ w = w' by rw [← hb2]; exact letter_calls d2 w)
          have v6 : ((d2.toNat : Nat) : Int) < 256 := by have := d2.toNat_lt; omega
          clear hb2 hd2
          cases b2 with
          | false =>
            have HN0 := Lib.hid (show nmF l = none from by unfold nmF; rw [if_pos (.inr (.inr (by rw [HHD.out]; exact HBD2.out)))])
            clear HK HHD
            go_wp2_with (go_at_call 89; refine HL2.out.mono ?_; rintro e w' ⟨rfl, rfl⟩)
            refine bodyPost_ret (v := .tuple #[.string ⟨#[]⟩, .slice none 0 0, .bool false]) (by simp [results, Tryz.results53, go_sem]) rfl ⟨by rw [HN0.out], Below.refl _ _⟩
          | true =>
            have HN0 := Lib.hid (show nmF l = some k from by
              unfold nmF
              rw [HK.out, HHD.out, HBD2.out, if_neg (by
                rintro (h | h | h)
                · omega
                · omega
                · cases h)])
            clear HK HHD
            go_upto_region 6 with (go_at_call 89; refine HL2.out.mono ?_; rintro e w' ⟨rfl, rfl⟩)
            have hC0 : NmC w w.drew 0 w.drew := rfl
            have ne : Nonempty (Mix.Wd (NmC w w.drew) 0) := ⟨⟨w.drew, 0, Nat.le_refl _, hC0⟩⟩
            have ne0 : Nonempty (Mix.Wx (NmC w w.drew) 0 0) := ⟨⟨w.drew, 0, Nat.le_refl _, Nat.le_refl _, hC0⟩⟩
            have hsh : ∀ W : World, _ = Result.ok _ W := fun W => slice_h W g a n c k (by omega) HCP.out
            have hsl : ∀ W : World, _ = Result.ok _ W := fun W => slice_lhm W g a n c k (by omega) HCP.out
            have hcv : ∀ x : Mix.Wx (NmC w w.drew) 0 0, (convert 72 9 (.slice (some ⟨g, a, none⟩) k c)).run Tryz.prog x.1 = .ok (.string (st (l.take k))) x.1 := fun x => by
              obtain ⟨y, i, h1, h2, h3⟩ := x
              obtain rfl : i = 0 := by omega
              have h3' : y = w.drew := h3
              subst h3'
              exact conv_bt (w := w.drew) (HB.out.keep rfl) (by omega)
            have hltk : (l.take k).length = k := by rw [List.length_take]; have := HLN.out; omega
            have HLT := Lib.hid hltk
            clear hltk
            refine Mix.wp_region_mix (C := NmC w w.drew) [4] (by kernel_rfl) (by kernel_rfl) hC0 ?_
            iterate 3 (refine Mix.mix_still (by decide) (fun K hK => ?_); go_simp; refine hK _ ?_; clear hK K)
            (refine Mix.mix_in 0 0 (by decide) (by kernel_rfl) (fun K hK => ?_); go_simp; refine hK _ ?_; clear hK K)
            refine Mix.mix_turn (by decide) (fun K hK => ?_)
            go_simp
            refine ⟨_, fun y hy => (lower_calls (st (l.take k)) y (by show (l.take k).toArray.size ≤ 600000; rw [List.size_toArray, HLT.out]; omega)).mono fun e w' h => ⟨h.1, by have hy' : y = w.drew := hy; rw [hy'] at h; exact Below.trans (b := w.drew) ⟨rfl, rfl, rfl, Nat.le_refl _, fun _ _ => rfl⟩ h.2⟩, hK _ ?_⟩
            clear hK K
            iterate 10 (refine Mix.mix_still (by decide) (fun K hK => ?_); go_simp; refine hK _ ?_; clear hK K)
            refine Mix.mix_nil ?_
            intro w6 hw6
            have HW6 := Lib.hid (show Below w.heap.size w w6 from hw6)
            clear hw6 ne ne0 hC0 hcv hsh hsl
            show Exit.then _ _ _ _ w6
            go_wp2_with fail
            refine bodyPost_ret (v := .tuple #[.string (st (lows (st (l.take k)).data.toList)), .slice (some ⟨g, bof a n k, none⟩) (n - k) (n - k), .bool true]) (by simp [results, Tryz.results53, go_sem]) rfl ⟨by rw [HN0.out]; rfl, HW6.out⟩
/-- How many that pass stand first. -/
theorem twl {p : UInt8 → Bool} {l : List UInt8} {n : Nat} (h : ∀ c ∈ l.take n, p c = true) (hn : n ≤ l.length) (hs : n = l.length ∨ ∃ h : n < l.length, p l[n] = false) : (l.takeWhile p).length = n := by
  induction l generalizing n with
  | nil => simp at hn; simp [hn]
  | cons c l ih =>
    cases n with
    | zero =>
      rcases hs with h0 | ⟨h0, h1⟩
      · simp at h0
      · simp at h1; simp [List.takeWhile_cons, h1]
    | succ n =>
      have h1 := h c (by simp)
      rw [List.takeWhile_cons, if_pos h1, List.length_cons, ih (n := n) (fun d hd => h d (by simp [hd])) (by simpa using hn) ?_]
      rcases hs with h0 | ⟨h0, h2⟩
      · left; simpa using h0
      · right; exact ⟨by simpa using h0, by simpa using h2⟩
/-- A blank. -/
def bl (c : UInt8) : Bool := decide (c.toNat = 32) || decide (c.toNat = 9) || decide (c.toNat = 10) || decide (c.toNat = 13)
def spLen (l : List UInt8) : Nat := (l.takeWhile bl).length
theorem spLen_le (l : List UInt8) : spLen l ≤ l.length := (List.takeWhile_prefix _).length_le
theorem bl_idx (c : UInt8) : (bl c = true → 0 ≤ Lib.indexByte [32, 9, 10, 13] c) ∧ (bl c = false → Lib.indexByte [32, 9, 10, 13] c = -1) := by
  have h : ∀ n : Fin 256, (bl (UInt8.ofNat n.val) = true → 0 ≤ Lib.indexByte [32, 9, 10, 13] (UInt8.ofNat n.val)) ∧ (bl (UInt8.ofNat n.val) = false → Lib.indexByte [32, 9, 10, 13] (UInt8.ofNat n.val) = -1) := by decide +kernel
  have := h ⟨c.toNat, c.toNat_lt⟩
  simpa using this
set_option maxRecDepth 100000 in
set_option maxHeartbeats 1600000 in
theorem sidx_calls (s : ByteArray) (c : Int) (w : World) :
    Calls Tryz.prog 130 #[.string s, .int .u8 c] w fun e w' => e = .returned (.int .i64 (Lib.indexByte s.data.toList c.toNat.toUInt8)) ∧ w = w' := by
  go_enter Tryz.func130, Tryz.ntmps130
  go_wp2_with fail
  rw [run_callFunc_extern Tryz.func140 (by kernel_rfl) (by kernel_rfl) (by kernel_rfl) (e := Extern.BytealgIndexByte.indexByte) (by kernel_rfl), Lib.run_indexByteString]
  simp only [Result.andThen]
  rw [Oper.upon_value]
  go_wp2_with fail
  go_ret
  exact ⟨rfl, rfl⟩
set_option maxHeartbeats 1600000 in
theorem idx_calls (s : ByteArray) (c : Int) (w : World) :
    Calls Tryz.prog 120 #[.string s, .int .u8 c] w fun e w' => e = .returned (.int .i64 (Lib.indexByte s.data.toList c.toNat.toUInt8)) ∧ w = w' := by
  go_enter Tryz.func120, Tryz.ntmps120
  go_wp2_with (go_at_call 130; refine (sidx_calls _ _ _).mono ?_; rintro e w' ⟨rfl, rfl⟩)
  go_ret
  exact ⟨rfl, rfl⟩
/-- What 'space' tells. -/
def SpPost (g a n : Nat) (l : List UInt8) (w : World) (e : Ending) (w' : World) : Prop :=
  e = .returned (.tuple #[.slice (some ⟨g, bof a n (spLen l), none⟩) (n - spLen l) (n - spLen l), .bool (decide (0 < spLen l))]) ∧ w = w'
set_option maxRecDepth 100000 in
set_option maxHeartbeats 1600000 in
theorem space_calls (g a n c : Nat) (l : List UInt8) (w : World) (hB : Bt w g a n c l) (hn : n ≤ 600000) :
    Calls Tryz.prog 106 #[.slice (some ⟨g, a, none⟩) n c] w (SpPost g a n l w) := by
  have HB := Lib.hid hB
  have HLN := Lib.hid hB.len
  have HCP := Lib.hid hB.cap
  clear hB
  go_enter Tryz.func106, Tryz.ntmps106
  go_wp2_with fail
  go_loop [4] (fun iv => ∃ k : Nat, k ≤ n ∧ iv = .int .i64 (k : Int) ∧ Hid (∀ c ∈ l.take k, bl c = true)) (fun iv => n - (intOf iv).toNat)
  case atStart => exact ⟨0, by omega, rfl, Lib.hid (by simp)⟩
  case round =>
    obtain ⟨k, hk, rfl, HA⟩ := hrel
    have hsl : ∀ W : World, _ = Result.ok _ W := fun W => slice_lhm W g a n c k (by omega) HCP.out
    have hfin : spLen l = k → SpPost g a n l w (.returned (.tuple #[.slice (some ⟨g, bof a n k, none⟩) (n - k) (n - k), .bool (decide ((k : Int) > 0))])) w := fun h => by
      unfold SpPost
      rw [h, show decide ((k : Int) > 0) = decide (0 < k) by rw [decide_eq_decide]; omega]
      exact ⟨rfl, rfl⟩
    have HF := Lib.hid hfin
    clear hfin
    by_cases hlt : k < n
    · have v1 : (k : Int) < (n : Int) := by omega
      have v2 : (0 : Int) ≤ (k : Int) := by omega
      obtain ⟨d, hd⟩ : ∃ d, d = l[k]'(by have := HLN.out; omega) := ⟨_, rfl⟩
      have d0 : w.cell? ⟨g, a + k, none⟩ = some (.int .u8 (d.toNat : Int)) := by rw [hd]; exact HB.out.cell k (by have := HLN.out; omega)
      have HTK := Lib.hid (show l.take (k + 1) = l.take k ++ [d] by rw [hd]; exact List.take_succ_eq_append_getElem (by have := HLN.out; omega))
      have HD := Lib.hid hd
      have hbi := bl_idx d
      obtain ⟨x, hx⟩ : ∃ x, Lib.indexByte [32, 9, 10, 13] d = x := ⟨_, rfl⟩
      rw [hx] at hbi
      have HL := Lib.hid (show Calls Tryz.prog 120 #[.string ⟨#[32, 9, 10, 13]⟩, .int .u8 (d.toNat : Int)] w fun e w' => e = .returned (.int .i64 x) ∧ w = w' by
        have h := idx_calls ⟨#[32, 9, 10, 13]⟩ (d.toNat : Int) w
        have e1 : ((d.toNat : Int).toNat).toUInt8 = d := by simp
        rw [e1, show (⟨#[32, 9, 10, 13]⟩ : ByteArray).data.toList = [32, 9, 10, 13] from rfl, hx] at h
        exact h)
      obtain ⟨b, hb⟩ : ∃ b, bl d = b := ⟨_, rfl⟩
      have HBD := Lib.hid hb
      have v5 : ((d.toNat : Nat) : Int) < 256 := by have := d.toNat_lt; omega
      cases b with
      | true =>
        have v6 : 0 ≤ x := hbi.1 hb
        clear hb hd hbi hx
        go_wp2_with (go_at_call 120; refine HL.out.mono ?_; rintro e w' ⟨rfl, rfl⟩)
        go_round
        case rel =>
          refine ⟨k + 1, by omega, by go_num, Lib.hid (fun c hc => ?_)⟩
          rw [HTK.out, List.mem_append] at hc
          rcases hc with h | h
          · exact HA.out c h
          · rw [List.mem_singleton] at h; rw [h]; exact HBD.out
        case measure => simp [intOf]; omega
      | false =>
        have v6 : x = -1 := hbi.2 hb
        subst v6
        have HK := Lib.hid (show spLen l = k from twl HA.out (by have := HLN.out; omega) (.inr ⟨by have := HLN.out; omega, by rw [← HD.out]; exact HBD.out⟩))
        clear hb hd hbi hx
        go_wp2_with (go_at_call 120; refine HL.out.mono ?_; rintro e w' ⟨rfl, rfl⟩)
        refine bodyPost_ret (v := .tuple #[.slice (some ⟨g, bof a n k, none⟩) (n - k) (n - k), .bool (decide ((k : Int) > 0))]) (by simp [results, Tryz.results106, go_sem]) rfl (HF.out HK.out)
    · have v1 : ¬ (k : Int) < (n : Int) := by omega
      have HK := Lib.hid (show spLen l = k from twl HA.out (by have := HLN.out; omega) (.inl (by have := HLN.out; omega)))
      go_wp2_with fail
      refine bodyPost_ret (v := .tuple #[.slice (some ⟨g, bof a n k, none⟩) (n - k) (n - k), .bool (decide ((k : Int) > 0))]) (by simp [results, Tryz.results106, go_sem]) rfl (HF.out HK.out)
end Go.Proofs.YtkjgnkmnngaioaaGreat.Q
namespace Go.Proofs.YtkjgnkmnngaioaaGreat.Q
open Go.RowKit Go.Proofs.YtkjgnkmnngaioaaGreat.Mem
set_option linter.unusedVariables false
set_option linter.unusedSimpArgs false
theorem disable (w : World) : (callFunc 143 #[]).run Tryz.prog w = .ok (.value (.tuple #[])) w := run_call_mark0 Tryz.func143 (by kernel_rfl) (by kernel_rfl) (by kernel_rfl) .disable (by kernel_rfl) w
theorem enable (w : World) : (callFunc 145 #[]).run Tryz.prog w = .ok (.value (.tuple #[])) w := run_call_mark0 Tryz.func145 (by kernel_rfl) (by kernel_rfl) (by kernel_rfl) .enable (by kernel_rfl) w
theorem acquire (a : Addr) (w : World) : (callFunc 146 #[.pointer (some a)]).run Tryz.prog w = .ok (.value (.tuple #[])) w := run_call_marked Tryz.func146 (by kernel_rfl) (by kernel_rfl) (by kernel_rfl) .acquire (by kernel_rfl) a w
theorem releaseMerge (a : Addr) (w : World) : (callFunc 148 #[.pointer (some a)]).run Tryz.prog w = .ok (.value (.tuple #[])) w := run_call_marked Tryz.func148 (by kernel_rfl) (by kernel_rfl) (by kernel_rfl) .releaseMerge (by kernel_rfl) a w
theorem store_deferred (a : Addr) (x : Value) (u : FrameMode) (w : World) (hc : w.cell? a = some x) (hz : w.frozen? a = false) :
    CallsD Tryz.prog 126 #[.pointer (some a), .bool true] u w fun e u' w' => u' = u ∧ (e = .returned (.tuple #[]) ∧ w' = w.drew.setCell a (.int .u32 1)) := by
  have hc' : w.drew.cell? a = some x := by go_simp
  have hz' : w.drew.frozen? a = false := by go_simp
  have hst := run_call_store (P := Tryz.prog) Tryz.func135 (by kernel_rfl) (by kernel_rfl) (by kernel_rfl) (by kernel_rfl) (k := .u32) (y := 1) hc' hz'
  go_enter_d Tryz.func126, Tryz.ntmps126
  go_wp2
  go_region_calls
  all_goals (go_end0; exact ⟨rfl, rfl⟩)
set_option maxRecDepth 100000 in
theorem unlock_deferred (a : Addr) (u : FrameMode) (w : World) (hc : w.cell? a = some (.int .i32 1)) (hz : w.frozen? a = false) :
    CallsD Tryz.prog 125 #[.pointer (some a)] u w fun e u' w' => u' = u ∧ (e = .returned (.tuple #[]) ∧ w' = w.setCell a (.int .i32 0)) := by
  have hd := disable
  have he := enable
  have hr := releaseMerge
  have hadd := run_call_add (P := Tryz.prog) Tryz.func149 (by kernel_rfl) (by kernel_rfl) (by kernel_rfl) .i32 (by kernel_rfl) (y := -1) (s := 0) hc hz (by simp [go_sem]; rfl)
  have hcv := run_convert_to_unsafe (P := Tryz.prog) (src := 198) (dst := 157) Tryz.underlying198 Tryz.underlying157 (by kernel_rfl) hc
  go_enter_d Tryz.func125, Tryz.ntmps125
  go_wp2
  go_end0
  go_wp2
  go_end0
  exact ⟨rfl, rfl⟩
set_option maxRecDepth 100000 in
theorem lock_free (a : Addr) (w : World) (hc : w.cell? a = some (.int .i32 0)) (hz : w.frozen? a = false) :
    Calls Tryz.prog 124 #[.pointer (some a)] w fun e w' => e = .returned (.tuple #[]) ∧ w' = w.setCell a (.int .i32 1) := by
  have hd := disable
  have he := enable
  have ha := acquire
  have hcas := run_call_cas_hit (P := Tryz.prog) Tryz.func144 (by kernel_rfl) (by kernel_rfl) (by kernel_rfl) .i32 (by kernel_rfl) (y := 1) hc hz
  have hc' : (w.setCell a (.int .i32 1)).cell? a = some (.int .i32 1) := World.cell?_setCell_same w a _ hc
  have hcv := run_convert_to_unsafe (P := Tryz.prog) (src := 198) (dst := 157) Tryz.underlying198 Tryz.underlying157 (by kernel_rfl) hc'
  go_enter Tryz.func124, Tryz.ntmps124
  go_wp2
  first | go_end0 | (simp only [Exit.inBlock, Exit.then]; refine bodyPost_ret (results_none rfl _ _ _) rfl ?_) | refine bodyPost_ret (results_none rfl _ _ _) rfl ?_
  go_wp2
  go_end0
  exact ⟨rfl, rfl⟩
/-- The Replacer's block. -/
abbrev RB (d m : Int) (c3 c4 : Value) : Array Value := #[.int .u32 d, .int .i32 m, .int .u32 0, c3, c4]
set_option maxRecDepth 100000 in
set_option maxHeartbeats 1600000 in
/-- '(*sync.Once).doSlow': 'Q' is what buildOnce leaves. -/
theorem slow_build (b : Nat) (c3 c4 : Value) (Q : World → Prop) (w : World) (hB : Blk w b (RB 0 0 c3 c4) 139)
    (hQ : ∀ w', Q w' → ∃ d3 d4, Blk w' b (RB 0 1 d3 d4) 139)
    (hF : Calls Tryz.prog 93 #[.pointer (some ⟨b, 0, none⟩)] (w.setCell ⟨b, 1, none⟩ (.int .i32 1)) fun e w' => e = .returned (.tuple #[]) ∧ Q w') :
    Calls Tryz.prog 111 #[.pointer (some ⟨b, 0, none⟩), .func (.func 93) #[.pointer (some ⟨b, 0, none⟩)] #[]] w fun e w' => e = .returned (.tuple #[]) ∧
      ∃ w2, Q w2 ∧ w' = (w2.drew.setCell ⟨b, 0, none⟩ (.int .u32 1)).setCell ⟨b, 1, none⟩ (.int .i32 0) := by
  have h0 : w.cell? ⟨b, 0, none⟩ = some (.int .u32 0) := hB.cell 0
  have h1 : w.cell? ⟨b, 1, none⟩ = some (.int .i32 0) := hB.cell 1
  have f0 := hB.free 0
  have f1 := hB.free 1
  have hl := run_call_load (P := Tryz.prog) Tryz.func123 (by kernel_rfl) (by kernel_rfl) (by kernel_rfl) .u32 (by kernel_rfl) (w := w.setCell ⟨b, 1, none⟩ (.int .i32 1)) (a := ⟨b, 0, none⟩) (x := 0) ((World.cell?_setCell_other _ ⟨b, 1, none⟩ ⟨b, 0, none⟩ _ (by simp)).trans h0)
  have hnot : ∀ (x : Bool) (w : World), (Op.unary .not (.bool x)).run Tryz.prog w = .ok (.bool (!x)) w := fun _ _ => rfl
  go_enter_defers Tryz.func111, Tryz.ntmps111
  go_wp2_with (first | (go_at_call 124; refine (lock_free ⟨b, 1, none⟩ _ (by go_simp) (by go_simp)).mono ?_; rintro e w' ⟨rfl, rfl⟩) | (go_at_call 110; go_in) | (go_at_call 93; refine hF.mono ?_; rintro e w2 ⟨rfl, hq⟩))
  obtain ⟨d3, d4, hB2⟩ := hQ _ hq
  have hB3 : Blk w2.drew b (RB 0 1 d3 d4) 139 := hB2.drew
  have hB4 := hB3.set 0 (.int .u32 1)
  refine leaves_cons (f := 126) (args := #[.pointer (some ⟨b, 0, none⟩), .bool true]) (by simp) (by simp [go_sem]) ?_
  refine (store_deferred ⟨b, 0, none⟩ (.int .u32 0) .returning _ (hB2.cell 0) (hB2.free 0)).mono ?_
  rintro e u' w'' ⟨rfl, rfl, rfl⟩
  refine leaves_cons (f := 125) (args := #[.pointer (some ⟨b, 1, none⟩)]) (by simp [settle]) (by simp [go_sem]) ?_
  refine (unlock_deferred ⟨b, 1, none⟩ _ _ (hB4.cell 1) (hB4.free 1)).mono ?_
  rintro e u' w'' ⟨rfl, rfl, rfl⟩
  simp [Leaves, settle, results, Tryz.results111]
  exact ⟨w2, hq, rfl⟩
set_option maxRecDepth 100000 in
set_option maxHeartbeats 1600000 in
/-- '(*sync.Once).Do', not yet done. -/
theorem do_build (b : Nat) (c3 c4 : Value) (Q : World → Prop) (w : World) (hB : Blk w b (RB 0 0 c3 c4) 139)
    (hQ : ∀ w', Q w' → ∃ d3 d4, Blk w' b (RB 0 1 d3 d4) 139)
    (hF : Calls Tryz.prog 93 #[.pointer (some ⟨b, 0, none⟩)] (w.setCell ⟨b, 1, none⟩ (.int .i32 1)) fun e w' => e = .returned (.tuple #[]) ∧ Q w') :
    Calls Tryz.prog 92 #[.pointer (some ⟨b, 0, none⟩), .func (.func 93) #[.pointer (some ⟨b, 0, none⟩)] #[]] w fun e w' => e = .returned (.tuple #[]) ∧
      ∃ w2, Q w2 ∧ w' = (w2.drew.setCell ⟨b, 0, none⟩ (.int .u32 1)).setCell ⟨b, 1, none⟩ (.int .i32 0) := by
  have h0 : w.cell? ⟨b, 0, none⟩ = some (.int .u32 0) := hB.cell 0
  have hl := run_call_load (P := Tryz.prog) Tryz.func123 (by kernel_rfl) (by kernel_rfl) (by kernel_rfl) .u32 (by kernel_rfl) h0
  have hnot : ∀ (x : Bool) (w : World), (Op.unary .not (.bool x)).run Tryz.prog w = .ok (.bool (!x)) w := fun _ _ => rfl
  have hQ' := Lib.hid hQ
  clear hQ
  go_enter Tryz.func92, Tryz.ntmps92
  go_wp2_with (first | (go_at_call 111; refine (slow_build b c3 c4 Q _ hB hQ'.out hF).mono ?_; rintro e w' ⟨rfl, h⟩; have H := Lib.hid h; clear h) | (go_at_call 110; go_in))
  go_end0
  exact ⟨rfl, H.out⟩
end Go.Proofs.YtkjgnkmnngaioaaGreat.Q
namespace Go.Proofs.YtkjgnkmnngaioaaGreat.Q
open Go.RowKit Go.IntWalk Go.Proofs.YtkjgnkmnngaioaaGreat.Mem
set_option linter.unusedVariables false
set_option linter.unusedSimpArgs false
abbrev em : ByteArray := ⟨#[]⟩
theorem But.setNew {b c : Nat} {x w : World} (h : But b x w) (hc : x.heap.size ≤ c) (i : Nat) (v : Value) : But b x (w.setCell ⟨c, i, none⟩ v) :=
  ⟨h.os, h.tape, h.output, by simp only [World.setCell, Array.size_modify]; exact h.size, fun k hk e => (Below.heap_setCell _ _ _ _ (show k ≠ c by omega)).trans (h.block k hk e)⟩
theorem size_set (w : World) (a : Addr) (v : Value) : (w.setCell a v).heap.size = w.heap.size := by simp [World.setCell]
/-- A node's block. -/
abbrev ND (v : ByteArray) (p : Int) (x : ByteArray) (nx tb : Value) : Array Value := #[.string v, .int .i64 p, .string x, nx, tb]
abbrev N0 : Array Value := ND em 0 em (.pointer none) (.slice none 0 0)
set_option maxRecDepth 100000 in
theorem add_leaf (n : Nat) (val : ByteArray) (pr : Int) (r : Value) (w : World) (hB : Blk w n N0 191) :
    Calls Tryz.prog 138 #[.pointer (some ⟨n, 0, none⟩), .string em, .string val, .int .i64 pr, r] w fun e w' => e = .returned (.tuple #[]) ∧ w' = (w.setCell ⟨n, 0, none⟩ (.string val)).setCell ⟨n, 1, none⟩ (.int .i64 pr) := by
  have c0 : w.cell? ⟨n, 0, none⟩ = some (.string em) := hB.cell 0
  have c1 : w.cell? ⟨n, 1, none⟩ = some (.int .i64 0) := hB.cell 1
  have f0 := hB.free 0
  have f1 := hB.free 1
  go_enter Tryz.func138, Tryz.ntmps138
  go_wp2
  refine bodyPost_ret (results_none rfl _ _ _) rfl ?_
  exact ⟨rfl, rfl⟩
theorem qneq (w : World) (a : Option Addr) (n c n' c' : Nat) : (binOp .neq 189 (.slice a n c) (.slice none n' c')).run Tryz.prog w = .ok (.bool (!a.isNone)) w := run_neq_slice_nil_any w _ _ a n c n' c' Tryz.underlying189
/-- What a fresh key leaves: the node with its prefix, and its one leaf. -/
structure Fresh (n : Nat) (key val : ByteArray) (pr : Int) (w w' : World) : Prop where
  node : Blk w' n (ND em 0 key (.pointer (some ⟨w.heap.size, 0, none⟩)) (.slice none 0 0)) 191
  leaf : Blk w' w.heap.size (ND val pr em (.pointer none) (.slice none 0 0)) 191
  size : w'.heap.size = w.heap.size + 1
  but : But n w w'
set_option maxRecDepth 100000 in
set_option maxHeartbeats 800000 in
theorem add_fresh (n : Nat) (key val : ByteArray) (pr : Int) (r : Value) (w : World) (hB : Blk w n N0 191) (hk : key.toList.isEmpty = false) :
    Calls Tryz.prog 138 #[.pointer (some ⟨n, 0, none⟩), .string key, .string val, .int .i64 pr, r] w fun e w' => e = .returned (.tuple #[]) ∧ Fresh n key val pr w w' := by
  have c2 : w.cell? ⟨n, 2, none⟩ = some (.string em) := hB.cell 2
  have c3 : w.cell? ⟨n, 3, none⟩ = some (.pointer none) := hB.cell 3
  have c4 : w.cell? ⟨n, 4, none⟩ = some (.slice none 0 0) := hB.cell 4
  have f2 := hB.free 2
  have f3 := hB.free 3
  have q := qneq
  have c1 : w.cell? ⟨n, 1, none⟩ = some (.int .i64 0) := hB.cell 1
  have HB := Lib.hid hB
  clear hB
  have HZ := Lib.hid (show But n w w from But.refl n w)
  go_enter Tryz.func138, Tryz.ntmps138
  go_upto_region 33 with (fail)
  have HB1 := Lib.hid (HB.out.set 2 (.string key))
  have HZ1 := Lib.hid (HZ.out.setCell 2 (.string key))
  have HS := Lib.hid (show (w.setCell ⟨n, 2, none⟩ (.string key)).heap.size = w.heap.size by simp [World.setCell])
  clear c1 c2 c3 c4 f2 f3 HB HZ
  generalize w.setCell ⟨n, 2, none⟩ (.string key) = W1 at HB1 HZ1 HS ⊢
  have d3 : (W1.alloc (.cells N0 191)).cell? ⟨n, 3, none⟩ = some (.pointer none) := (HB1.out.alloc_old _).cell 3
  have e3 : (W1.alloc (.cells N0 191)).frozen? ⟨n, 3, none⟩ = false := (HB1.out.alloc_old _).free 3
  go_upto_region 34 with (fail)
  have HB2 := Lib.hid ((HB1.out.alloc_old (.cells N0 191)).set 3 (.pointer (some ⟨W1.heap.size, 0, none⟩)))
  have HL2 := Lib.hid ((Blk.alloc W1 N0 191).setCell_other (a := ⟨n, 3, none⟩) (.pointer (some ⟨W1.heap.size, 0, none⟩)) (Nat.ne_of_gt HB1.out.lt))
  have HZ2 := Lib.hid ((HZ1.out.trans (But.of_below ((Below.refl _ _).alloc (Nat.le_refl _) (.cells N0 191)))).setCell 3 (.pointer (some ⟨W1.heap.size, 0, none⟩)))
  have HS2 := Lib.hid (show ((W1.alloc (.cells N0 191)).setCell ⟨n, 3, none⟩ (.pointer (some ⟨W1.heap.size, 0, none⟩))).heap.size = W1.heap.size + 1 by simp [World.setCell])
  clear d3 e3 HZ1
  generalize (W1.alloc (.cells N0 191)).setCell ⟨n, 3, none⟩ (.pointer (some ⟨W1.heap.size, 0, none⟩)) = W2 at HB2 HL2 HZ2 HS2 ⊢
  have hs := HS.out
  have hn := HB1.out.lt
  generalize W1.heap.size = m at HB2 HL2 HS2 hs hn ⊢
  have d3 : W2.cell? ⟨n, 3, none⟩ = some (.pointer (some ⟨m, 0, none⟩)) := HB2.out.cell 3
  have HN := Lib.hid hn
  have HM := Lib.hid hs
  clear hs hn HB1
  go_wp2_with (go_at_call 138; refine (add_leaf m val pr r _ HL2.out).mono ?_; rintro e w' ⟨rfl, rfl⟩)
  go_end0
  have hm : n ≠ m := Nat.ne_of_lt HN.out
  have hm' := HM.out
  have hb2 := HB2.out
  have hl2 := HL2.out
  have hz2 := HZ2.out
  have hs2 := HS2.out
  clear d3 HB2 HL2 HZ2 HS2 HM HN
  subst hm'
  refine ⟨rfl, ?_, ?_, ?_, ?_⟩
  · exact (hb2.setCell_other _ hm).setCell_other _ hm
  · exact (hl2.set 0 (.string val)).set 1 (.int .i64 pr)
  · simp [World.setCell]; omega
  · refine ⟨hz2.os, hz2.tape, hz2.output, by simp [World.setCell]; omega, fun k hk hkn => ?_⟩
    refine ((Below.heap_setCell _ _ _ _ ?_).trans (Below.heap_setCell _ _ _ _ ?_)).trans (hz2.block k hk hkn) <;> (show k ≠ w.heap.size; omega)
/-- What a key leaves that was put into a table's empty place. -/
structure New (tb m : Nat) (tcs : Array Value) (T2 : TypeId) (key val : ByteArray) (pr : Int) (w w' : World) : Prop where
  tab : Blk w' tb (tcs.setIfInBounds m (.pointer (some ⟨w.heap.size, 0, none⟩))) T2
  node : Blk w' w.heap.size (ND em 0 key (.pointer (some ⟨w.heap.size + 1, 0, none⟩)) (.slice none 0 0)) 191
  leaf : Blk w' (w.heap.size + 1) (ND val pr em (.pointer none) (.slice none 0 0)) 191
  size : w'.heap.size = w.heap.size + 2
  but : But tb w w'
set_option maxRecDepth 100000 in
set_option maxHeartbeats 800000 in
/-- Into a node with a table, where nothing stands yet. -/
theorem add_new (n g tb : Nat) (key val : ByteArray) (pr : Int) (m : Nat) (tcs : Array Value) (T2 : TypeId) (w : World)
    (hk : key.toList.isEmpty = false) (h0 : 0 < key.size) (hk1 : (key.extract 1 key.size).toList.isEmpty = false) (hne : tb ≠ n)
    (n1 : w.cell? ⟨n, 1, none⟩ = some (.int .i64 0)) (n2 : w.cell? ⟨n, 2, none⟩ = some (.string em)) (n4 : w.cell? ⟨n, 4, none⟩ = some (.slice (some ⟨tb, 0, none⟩) tcs.size tcs.size))
    (hm : m < tcs.size) (hg : w.cell? ⟨g, 6 + key[0].toNat, none⟩ = some (.int .u8 m)) (hT : Blk w tb tcs T2) (ht : tcs[m]? = some (.pointer none)) :
    Calls Tryz.prog 138 #[.pointer (some ⟨n, 0, none⟩), .string key, .string val, .int .i64 pr, .pointer (some ⟨g, 0, none⟩)] w fun e w' => e = .returned (.tuple #[]) ∧ New tb m tcs T2 (key.extract 1 key.size) val pr w w' := by
  have q := qneq
  have hlt : (m : Int) < (tcs.size : Int) := by omega
  have hc : (key[0].toNat : Int) < 256 := by have := key[0].toNat_lt; omega
  have t1 : w.cell? ⟨tb, m, none⟩ = some (.pointer none) := (hT.cell m).trans ht
  have HT := Lib.hid hT
  have HI := Lib.hid ht
  clear hT ht
  go_enter Tryz.func138, Tryz.ntmps138
  go_upto_region 28 with (fail)
  go_still (by kernel_rfl)
  show Exit.then _ _ _ _ w.drew
  have d1 : w.drew.cell? ⟨tb, m, none⟩ = some (.pointer none) := (HT.out.drew.cell m).trans HI.out
  have d4 : w.drew.cell? ⟨n, 4, none⟩ = some (.slice (some ⟨tb, 0, none⟩) tcs.size tcs.size) := n4
  have HT2 := Lib.hid HT.out.drew
  have HZ1 := Lib.hid (show But tb w w.drew from (But.refl tb w).drewN 1)
  have HS1 := Lib.hid (show w.drew.heap.size = w.heap.size from rfl)
  clear n1 n2 n4 hg t1
  generalize w.drew = W1 at d1 d4 HT2 HZ1 HS1 ⊢
  have m1 : (0 : Int) ≤ (m : Int) := by omega
  have x1 : (W1.alloc (.cells N0 191)).cell? ⟨tb, m, none⟩ = some (.pointer none) := ((HT2.out.alloc_old _).cell m).trans HI.out
  have x2 : (W1.alloc (.cells N0 191)).frozen? ⟨tb, m, none⟩ = false := (HT2.out.alloc_old _).free m
  go_upto_region 31 with (fail)
  have HT3 := Lib.hid ((HT2.out.alloc_old (.cells N0 191)).set m (.pointer (some ⟨W1.heap.size, 0, none⟩)))
  have HQ3 := Lib.hid ((Blk.alloc W1 N0 191).setCell_other (a := ⟨tb, m, none⟩) (.pointer (some ⟨W1.heap.size, 0, none⟩)) (Nat.ne_of_gt HT2.out.lt))
  have HZ3 := Lib.hid ((HZ1.out.trans (But.of_below ((Below.refl _ _).alloc (Nat.le_refl _) (.cells N0 191)))).setCell m (.pointer (some ⟨W1.heap.size, 0, none⟩)))
  have HS3 := Lib.hid (show ((W1.alloc (.cells N0 191)).setCell ⟨tb, m, none⟩ (.pointer (some ⟨W1.heap.size, 0, none⟩))).heap.size = W1.heap.size + 1 by simp [World.setCell])
  have y4 : ((W1.alloc (.cells N0 191)).setCell ⟨tb, m, none⟩ (.pointer (some ⟨W1.heap.size, 0, none⟩))).cell? ⟨n, 4, none⟩ = some (.slice (some ⟨tb, 0, none⟩) tcs.size tcs.size) := by
    have hn := lt_of_cell d4
    rw [World.cell?_of_block (w := W1) ((Below.heap_setCell _ _ _ _ (Ne.symm hne)).trans (Below.heap_alloc _ _ _ hn))]
    exact d4
  clear x1 x2 d1 d4 HZ1 HT2
  generalize (W1.alloc (.cells N0 191)).setCell ⟨tb, m, none⟩ (.pointer (some ⟨W1.heap.size, 0, none⟩)) = W3 at HT3 HQ3 HZ3 HS3 y4 ⊢
  have y1 : W3.cell? ⟨tb, m, none⟩ = some (.pointer (some ⟨W1.heap.size, 0, none⟩)) := (HT3.out.cell m).trans (by simp [hm])
  have hs1 := HS1.out
  generalize W1.heap.size = qb at HT3 HQ3 HS3 y1 hs1 ⊢
  have HQB := Lib.hid hs1
  clear hs1 HS1
  have k1 : (1 : Int) ≤ (key.size : Int) := by omega
  go_still_tail 12, (by kernel_rfl)
  change wpList _ _ _ _ _ W3.drew
  have HT4 := Lib.hid HT3.out.drew
  have HQ4 := Lib.hid HQ3.out.drew
  have HZ4 := Lib.hid (show But tb w W3.drew from HZ3.out.drewN 1)
  have HS4 := Lib.hid (show W3.drew.heap.size = qb + 1 from HS3.out)
  clear y1 y4 HT3 HQ3 HZ3 HS3 k1
  generalize W3.drew = W4 at HT4 HQ4 HZ4 HS4 ⊢
  go_wp2_with (go_at_call 138; refine (add_fresh qb _ val pr _ _ HQ4.out hk1).mono ?_; rintro e w' ⟨rfl, hf⟩; have HF := Lib.hid hf; clear hf)
  first | go_end0 | refine bodyPost_ret (results_none rfl _ _ _) rfl ?_
  have hq := HQB.out
  have hs := HS4.out
  have ht := HT4.out
  have hz := HZ4.out
  obtain ⟨h1, h2, h3, h4⟩ := HF.out
  rw [hs] at h1 h2 h3
  have hlt : tb < qb := by
    have := hz.block
    have h5 := HT.out.lt
    omega
  clear HQB HS4 HT4 HZ4 HF HQ4
  subst hq
  refine ⟨rfl, h4.blk ht (Nat.ne_of_lt hlt), h1, h2, by omega, ?_⟩
  refine ⟨h4.os.trans hz.os, h4.tape.trans hz.tape, h4.output.trans hz.output, by omega, fun k hk hkn => (h4.block k (by omega) (by omega)).trans (hz.block k hk hkn)⟩
set_option maxRecDepth 100000 in
set_option maxHeartbeats 800000 in
/-- Into a node with a table, where a node stands. -/
theorem add_down (n g tb q0 : Nat) (key val : ByteArray) (pr : Int) (m ts : Nat) (Q : World → Prop) (w : World)
    (hk : key.toList.isEmpty = false) (h0 : 0 < key.size)
    (n1 : w.cell? ⟨n, 1, none⟩ = some (.int .i64 0)) (n2 : w.cell? ⟨n, 2, none⟩ = some (.string em)) (n4 : w.cell? ⟨n, 4, none⟩ = some (.slice (some ⟨tb, 0, none⟩) ts ts))
    (hm : m < ts) (hg : w.cell? ⟨g, 6 + key[0].toNat, none⟩ = some (.int .u8 m)) (t1 : w.cell? ⟨tb, m, none⟩ = some (.pointer (some ⟨q0, 0, none⟩)))
    (hF : Calls Tryz.prog 138 #[.pointer (some ⟨q0, 0, none⟩), .string (key.extract 1 key.size), .string val, .int .i64 pr, .pointer (some ⟨g, 0, none⟩)] w.drew.drew fun e w' => e = .returned (.tuple #[]) ∧ Q w') :
    Calls Tryz.prog 138 #[.pointer (some ⟨n, 0, none⟩), .string key, .string val, .int .i64 pr, .pointer (some ⟨g, 0, none⟩)] w fun e w' => e = .returned (.tuple #[]) ∧ Q w' := by
  have q := qneq
  have hlt : (m : Int) < (ts : Int) := by omega
  have hc : (key[0].toNat : Int) < 256 := by have := key[0].toNat_lt; omega
  have m1 : (0 : Int) ≤ (m : Int) := by omega
  have k1 : (1 : Int) ≤ (key.size : Int) := by omega
  have HF := Lib.hid hF
  clear hF
  go_enter Tryz.func138, Tryz.ntmps138
  go_upto_region 28 with (fail)
  go_still (by kernel_rfl)
  show Exit.then _ _ _ _ w.drew
  have d1 : w.drew.cell? ⟨tb, m, none⟩ = some (.pointer (some ⟨q0, 0, none⟩)) := t1
  have d4 : w.drew.cell? ⟨n, 4, none⟩ = some (.slice (some ⟨tb, 0, none⟩) ts ts) := n4
  clear n1 n2 n4 hg t1
  generalize w.drew = W1 at d1 d4 HF ⊢
  go_upto_region 31 with (fail)
  go_still_tail 12, (by kernel_rfl)
  change wpList _ _ _ _ _ W1.drew
  clear d1 d4
  generalize W1.drew = W2 at HF ⊢
  go_wp2_with (go_at_call 138; refine HF.out.mono ?_; rintro e w' ⟨rfl, hf⟩; have HQ := Lib.hid hf; clear hf)
  first | go_end0 | refine bodyPost_ret (results_none rfl _ _ _) rfl ?_
  exact ⟨rfl, HQ.out⟩
/-- A table, empty. -/
abbrev P11 : Array Value := #[.pointer none, .pointer none, .pointer none, .pointer none, .pointer none, .pointer none, .pointer none, .pointer none, .pointer none, .pointer none, .pointer none]
theorem mk11 (w : World) : (Instr.makeSlice 189 (.int .i64 11) (.int .i64 11)).run Tryz.prog w = .ok (.slice (some ⟨w.heap.size, 0, none⟩) 11 11) (w.alloc (.cells P11 188)) := by kernel_rfl
/-- What a key leaves that was put into a node with another prefix. -/
structure Split (n m1 m2 : Nat) (x : ByteArray) (nb : Nat) (key val : ByteArray) (pr : Int) (w w' : World) : Prop where
  top : Blk w' n (ND em 0 em (.pointer none) (.slice (some ⟨w.heap.size + 2, 0, none⟩) 11 11)) 191
  pre : Blk w' w.heap.size (ND em 0 (x.extract 1 x.size) (.pointer (some ⟨nb, 0, none⟩)) (.slice none 0 0)) 191
  node : Blk w' (w.heap.size + 1) (ND em 0 (key.extract 1 key.size) (.pointer (some ⟨w.heap.size + 3, 0, none⟩)) (.slice none 0 0)) 191
  tab : Blk w' (w.heap.size + 2) ((P11.setIfInBounds m1 (.pointer (some ⟨w.heap.size, 0, none⟩))).setIfInBounds m2 (.pointer (some ⟨w.heap.size + 1, 0, none⟩))) 188
  leaf : Blk w' (w.heap.size + 3) (ND val pr em (.pointer none) (.slice none 0 0)) 191
  size : w'.heap.size = w.heap.size + 4
  but : But n w w'
set_option maxRecDepth 100000 in
set_option maxHeartbeats 1600000 in
theorem add_split (n g nb : Nat) (x key val : ByteArray) (pr : Int) (m1 m2 : Nat) (w : World)
    (hB : Blk w n (ND em 0 x (.pointer (some ⟨nb, 0, none⟩)) (.slice none 0 0)) 191) (hgn : g ≠ n)
    (hk : key.toList.isEmpty = false) (hx : x.toList.isEmpty = false) (hk0 : 1 < key.size) (hx0 : 1 < x.size) (hk1 : (key.extract 1 key.size).toList.isEmpty = false)
    (hne : ((x[0].toNat : Int) != (key[0].toNat : Int)) = true) (hm1 : m1 < 11) (hm2 : m2 < 11)
    (gs : w.cell? ⟨g, 5, none⟩ = some (.int .i64 11)) (g1 : w.cell? ⟨g, 6 + x[0].toNat, none⟩ = some (.int .u8 m1)) (g2 : w.cell? ⟨g, 6 + key[0].toNat, none⟩ = some (.int .u8 m2)) :
    Calls Tryz.prog 138 #[.pointer (some ⟨n, 0, none⟩), .string key, .string val, .int .i64 pr, .pointer (some ⟨g, 0, none⟩)] w fun e w' => e = .returned (.tuple #[]) ∧ Split n m1 m2 x nb key val pr w w' := by
  have c1 : w.cell? ⟨n, 1, none⟩ = some (.int .i64 0) := hB.cell 1
  have c2 : w.cell? ⟨n, 2, none⟩ = some (.string x) := hB.cell 2
  have c3 : w.cell? ⟨n, 3, none⟩ = some (.pointer (some ⟨nb, 0, none⟩)) := hB.cell 3
  have hc : (key[0].toNat : Int) < 256 := by have := key[0].toNat_lt; omega
  have hd : (x[0].toNat : Int) < 256 := by have := x[0].toNat_lt; omega
  have k1 : (1 : Int) ≤ (key.size : Int) := by omega
  have k2 : (1 : Int) ≤ (x.size : Int) := by omega
  have k3 : (0 : Int) < (key.size : Int) := by omega
  have k4 : (0 : Int) < (x.size : Int) := by omega
  have hx' : (!x.toList.isEmpty) = true := by rw [hx]; rfl
  have HB := Lib.hid hB
  clear hB
  go_enter Tryz.func138, Tryz.ntmps138
  go_wp2_with fail
  go_loopw [10] (fun nv wr => nv = .int .i64 0 ∧ wr = w) (fun _ _ => 0)
  case atStart => exact ⟨rfl, rfl⟩
  case round =>
    obtain ⟨rfl, rfl⟩ := hrel
    go_upto_region 8 with (fail)
    go_still (by kernel_rfl)
    show Exit.then _ _ _ _ wr.drew
    have d2 : wr.drew.cell? ⟨n, 2, none⟩ = some (.string x) := c2
    have d3 : wr.drew.cell? ⟨n, 3, none⟩ = some (.pointer (some ⟨nb, 0, none⟩)) := c3
    have HB1 := Lib.hid HB.out.drew
    have HG0 := Lib.hid (show wr.cell? ⟨g, 5, none⟩ = some (.int .i64 11) ∧ wr.cell? ⟨g, 6 + x[0].toNat, none⟩ = some (.int .u8 m1) ∧ wr.cell? ⟨g, 6 + key[0].toNat, none⟩ = some (.int .u8 m2) from ⟨gs, g1, g2⟩)
    have HGL := Lib.hid (lt_of_cell gs)
    have hZ0 := Lib.hid HB.out.lt
    have HG := Lib.hid (show wr.drew.cell? ⟨g, 5, none⟩ = some (.int .i64 11) ∧ wr.drew.cell? ⟨g, 6 + x[0].toNat, none⟩ = some (.int .u8 m1) ∧ wr.drew.cell? ⟨g, 6 + key[0].toNat, none⟩ = some (.int .u8 m2) from ⟨gs, g1, g2⟩)
    have HZ := Lib.hid (show But n wr wr.drew from (But.refl n wr).drewN 1)
    have HS := Lib.hid (show wr.drew.heap.size = wr.heap.size from rfl)
    clear c1 c2 c3 gs g1 g2 HB
    generalize wr.drew = W1 at d2 d3 HB1 HG HZ HS ⊢
    go_upto_region 15 with (fail)
    go_still_tail 10, (by kernel_rfl)
    change wpList _ _ _ _ _ W1.drew
    have d3 : W1.drew.cell? ⟨n, 3, none⟩ = some (.pointer (some ⟨nb, 0, none⟩)) := d3
    have HB2 := Lib.hid HB1.out.drew
    have HG2 := Lib.hid (show W1.drew.cell? ⟨g, 5, none⟩ = some (.int .i64 11) ∧ W1.drew.cell? ⟨g, 6 + x[0].toNat, none⟩ = some (.int .u8 m1) ∧ W1.drew.cell? ⟨g, 6 + key[0].toNat, none⟩ = some (.int .u8 m2) from HG.out)
    have HZ2 := Lib.hid (show But n wr W1.drew from HZ.out.drewN 1)
    have HS2 := Lib.hid (show W1.drew.heap.size = wr.heap.size from HS.out)
    clear d2 d3 HB1 HG HZ HS
    generalize W1.drew = W2 at HB2 HG2 HZ2 HS2 ⊢
    go_upto_region 16 with (fail)
    have HS3 := Lib.hid (show (W2.alloc (.cells (ND em 0 (x.extract 1 x.size) (.pointer (some ⟨nb, 0, none⟩)) (.slice none 0 0)) 191)).heap.size = W2.heap.size + 1 by simp)
    have HP3 := Lib.hid (Blk.alloc W2 (ND em 0 (x.extract 1 x.size) (.pointer (some ⟨nb, 0, none⟩)) (.slice none 0 0)) 191)
    have HB3 := Lib.hid (HB2.out.alloc_old (.cells (ND em 0 (x.extract 1 x.size) (.pointer (some ⟨nb, 0, none⟩)) (.slice none 0 0)) 191))
    have HZ3 := Lib.hid (HZ2.out.trans (But.of_below ((Below.refl _ _).alloc (Nat.le_refl _) (.cells (ND em 0 (x.extract 1 x.size) (.pointer (some ⟨nb, 0, none⟩)) (.slice none 0 0)) 191))))
    clear HB2 HZ2
    generalize W2.alloc (.cells (ND em 0 (x.extract 1 x.size) (.pointer (some ⟨nb, 0, none⟩)) (.slice none 0 0)) 191) = W3 at HS3 HP3 HB3 HZ3 ⊢
    have hs2 := HS2.out
    generalize W2.heap.size = pb at HS3 HP3 hs2 ⊢
    have HPB := Lib.hid hs2
    clear hs2 HS2 HG2
    go_upto_region 17 with (fail)
    have HS4 := Lib.hid (show (W3.alloc (.cells N0 191)).heap.size = W3.heap.size + 1 by simp)
    have HP4 := Lib.hid (HP3.out.alloc_old (.cells N0 191))
    have HK4 := Lib.hid (Blk.alloc W3 N0 191)
    have HB4 := Lib.hid (HB3.out.alloc_old (.cells N0 191))
    have HZ4 := Lib.hid (HZ3.out.trans (But.of_below ((Below.refl _ _).alloc (Nat.le_refl _) (.cells N0 191))))
    clear HB3 HZ3 HP3
    generalize W3.alloc (.cells N0 191) = W4 at HS4 HP4 HK4 HB4 HZ4 ⊢
    have hs3 := HS3.out
    generalize W3.heap.size = qb at HS4 HK4 hs3 ⊢
    have HQB := Lib.hid hs3
    clear hs3 HS3
    have HGG := Lib.hid (show ∀ W', But n wr W' → W'.cell? ⟨g, 5, none⟩ = some (.int .i64 11) ∧ W'.cell? ⟨g, 6 + x[0].toNat, none⟩ = some (.int .u8 m1) ∧ W'.cell? ⟨g, 6 + key[0].toNat, none⟩ = some (.int .u8 m2) from fun W' hW => by
      have hb := hW.block g HGL.out hgn
      exact ⟨(World.cell?_of_block (w := wr) hb).trans HG0.out.1, (World.cell?_of_block (w := wr) hb).trans HG0.out.2.1, (World.cell?_of_block (w := wr) hb).trans HG0.out.2.2⟩)
    obtain ⟨g5, -⟩ := HGG.out W4 HZ4.out
    have d4 : ∀ o, (W4.alloc o).cell? ⟨n, 4, none⟩ = some (.slice none 0 0) := fun o => (HB4.out.alloc_old o).cell 4
    have d5 : ∀ o, (W4.alloc o).frozen? ⟨n, 4, none⟩ = false := fun o => (HB4.out.alloc_old o).free 4
    have hmk := mk11
    go_upto_region 18 with (fail)
    have hnl := HB4.out.lt
    have hpn : pb ≠ n := by have := HPB.out; have := hZ0.out; omega
    have hqn : qb ≠ n := by have := HQB.out; have := HPB.out; have := HP4.out.lt; have := hZ0.out; omega
    have HT5 := Lib.hid ((Blk.alloc W4 P11 188).setCell_other (a := ⟨n, 4, none⟩) (.slice (some ⟨W4.heap.size, 0, none⟩) 11 11) (Nat.ne_of_gt hnl))
    have HB5 := Lib.hid ((HB4.out.alloc_old (.cells P11 188)).set 4 (.slice (some ⟨W4.heap.size, 0, none⟩) 11 11))
    have HP5 := Lib.hid ((HP4.out.alloc_old (.cells P11 188)).setCell_other (a := ⟨n, 4, none⟩) (.slice (some ⟨W4.heap.size, 0, none⟩) 11 11) hpn)
    have HK5 := Lib.hid ((HK4.out.alloc_old (.cells P11 188)).setCell_other (a := ⟨n, 4, none⟩) (.slice (some ⟨W4.heap.size, 0, none⟩) 11 11) hqn)
    have HZ5 := Lib.hid ((HZ4.out.trans (But.of_below ((Below.refl _ _).alloc (Nat.le_refl _) (.cells P11 188)))).setCell 4 (.slice (some ⟨W4.heap.size, 0, none⟩) 11 11))
    have HS5 := Lib.hid (show ((W4.alloc (.cells P11 188)).setCell ⟨n, 4, none⟩ (.slice (some ⟨W4.heap.size, 0, none⟩) 11 11)).heap.size = W4.heap.size + 1 by simp [World.setCell])
    clear d4 d5 g5 HP4 HK4 HB4 HZ4 hmk hnl
    generalize (W4.alloc (.cells P11 188)).setCell ⟨n, 4, none⟩ (.slice (some ⟨W4.heap.size, 0, none⟩) 11 11) = W5 at HT5 HB5 HP5 HK5 HZ5 HS5 ⊢
    have hs4 := HS4.out
    generalize W4.heap.size = tb at HT5 HB5 HS5 hs4 ⊢
    have HTB := Lib.hid hs4
    clear hs4 HS4
    have e4 : W5.cell? ⟨n, 4, none⟩ = some (.slice (some ⟨tb, 0, none⟩) 11 11) := HB5.out.cell 4
    have e2 : W5.cell? ⟨n, 2, none⟩ = some (.string x) := HB5.out.cell 2
    obtain ⟨-, e6, -⟩ := HGG.out W5 HZ5.out
    have e7 : ∀ j, j < 11 → P11[j]? = some (.pointer none) := fun j hj => by
      have : j = 0 ∨ j = 1 ∨ j = 2 ∨ j = 3 ∨ j = 4 ∨ j = 5 ∨ j = 6 ∨ j = 7 ∨ j = 8 ∨ j = 9 ∨ j = 10 := by omega
      rcases this with rfl | rfl | rfl | rfl | rfl | rfl | rfl | rfl | rfl | rfl | rfl <;> rfl
    have E7 := Lib.hid e7
    have e8 : W5.drew.cell? ⟨tb, m1, none⟩ = some (.pointer none) := (HT5.out.cell m1).trans (e7 m1 hm1)
    have e9 : W5.drew.frozen? ⟨tb, m1, none⟩ = false := HT5.out.free m1
    have i1 : (m1 : Int) < 11 := by omega
    have i2 : (0 : Int) ≤ (m1 : Int) := by omega
    have j1 : (m2 : Int) < 11 := by omega
    have j2 : (0 : Int) ≤ (m2 : Int) := by omega
    clear e7
    go_still_tail 16, (by kernel_rfl)
    change wpList _ _ _ _ _ W5.drew
    clear e4 e2 e6
    have htn : n ≠ tb := by have := HTB.out; have := HQB.out; have := HP5.out.lt; have := HPB.out; have := hZ0.out; omega
    have htp : pb ≠ tb := by have := HTB.out; have := HQB.out; have := HPB.out; omega
    have htq : qb ≠ tb := by have := HTB.out; omega
    have htw : wr.heap.size ≤ tb := by have := HTB.out; have := HQB.out; have := HPB.out; omega
    have hT6 := HT5.out.drew
    have hB6 := HB5.out.drew
    have hP6 := HP5.out.drew
    have hK6 := HK5.out.drew
    have hZ6 : But n wr W5.drew := HZ5.out.drewN 1
    have hS6 : W5.drew.heap.size = tb + 1 := HS5.out
    generalize W5.drew = W6 at hT6 hB6 hP6 hK6 hZ6 hS6 e8 e9 ⊢
    have HS6 := Lib.hid hS6
    clear HT5 HB5 HP5 HK5 HZ5 HS5 hS6
    have HT7 := Lib.hid (hT6.set m1 (.pointer (some ⟨pb, 0, none⟩)))
    have HB7 := Lib.hid (hB6.setCell_other (a := ⟨tb, m1, none⟩) (.pointer (some ⟨pb, 0, none⟩)) htn)
    have HP7 := Lib.hid (hP6.setCell_other (a := ⟨tb, m1, none⟩) (.pointer (some ⟨pb, 0, none⟩)) htp)
    have HK7 := Lib.hid (hK6.setCell_other (a := ⟨tb, m1, none⟩) (.pointer (some ⟨pb, 0, none⟩)) htq)
    have HZ7 := Lib.hid (show But n wr (W6.setCell ⟨tb, m1, none⟩ (.pointer (some ⟨pb, 0, none⟩))) from But.setNew hZ6 htw m1 _)
    clear hT6 hB6 hP6 hK6 hZ6
    go_upto_region 19 with (fail)
    have HS7 := Lib.hid ((size_set W6 ⟨tb, m1, none⟩ (.pointer (some ⟨pb, 0, none⟩))).trans HS6.out)
    clear e8 e9 HS6
    generalize W6.setCell ⟨tb, m1, none⟩ (.pointer (some ⟨pb, 0, none⟩)) = W7 at HT7 HB7 HP7 HK7 HZ7 HS7 ⊢
    obtain ⟨v2, hv2⟩ : ∃ v, (P11.setIfInBounds m1 (.pointer (some ⟨pb, 0, none⟩)))[m2]? = some v := ⟨_, Array.getElem?_eq_getElem (by simp; omega)⟩
    have e4 : W7.cell? ⟨n, 4, none⟩ = some (.slice (some ⟨tb, 0, none⟩) 11 11) := HB7.out.cell 4
    obtain ⟨-, -, e6⟩ := HGG.out W7 HZ7.out
    have e8 : W7.drew.cell? ⟨tb, m2, none⟩ = some v2 := (HT7.out.cell m2).trans hv2
    have e9 : W7.drew.frozen? ⟨tb, m2, none⟩ = false := HT7.out.free m2
    clear hv2
    go_still_tail 13, (by kernel_rfl)
    change wpList _ _ _ _ _ W7.drew
    clear e4 e6
    have hT8 := HT7.out.drew
    have hB8 := HB7.out.drew
    have hP8 := HP7.out.drew
    have hK8 := HK7.out.drew
    have hZ8 : But n wr W7.drew := HZ7.out.drewN 1
    have hS8 : W7.drew.heap.size = tb + 1 := HS7.out
    generalize W7.drew = W8 at hT8 hB8 hP8 hK8 hZ8 hS8 e8 e9 ⊢
    have HS8 := Lib.hid hS8
    clear HT7 HB7 HP7 HK7 HZ7 HS7 hS8
    have HT9 := Lib.hid (hT8.set m2 (.pointer (some ⟨qb, 0, none⟩)))
    have HB9 := Lib.hid (hB8.setCell_other (a := ⟨tb, m2, none⟩) (.pointer (some ⟨qb, 0, none⟩)) htn)
    have HP9 := Lib.hid (hP8.setCell_other (a := ⟨tb, m2, none⟩) (.pointer (some ⟨qb, 0, none⟩)) htp)
    have HK9 := Lib.hid (hK8.setCell_other (a := ⟨tb, m2, none⟩) (.pointer (some ⟨qb, 0, none⟩)) htq)
    have HZ9 := Lib.hid (show But n wr (W8.setCell ⟨tb, m2, none⟩ (.pointer (some ⟨qb, 0, none⟩))) from But.setNew hZ8 htw m2 _)
    have HS9 := Lib.hid ((size_set W8 ⟨tb, m2, none⟩ (.pointer (some ⟨qb, 0, none⟩))).trans HS8.out)
    clear hT8 hB8 hP8 hK8 hZ8 HS8
    go_upto_region 20 with (fail)
    clear e8 e9
    generalize W8.setCell ⟨tb, m2, none⟩ (.pointer (some ⟨qb, 0, none⟩)) = W9 at HT9 HB9 HP9 HK9 HZ9 HS9 ⊢
    have e2 : W9.cell? ⟨n, 2, none⟩ = some (.string x) := HB9.out.cell 2
    have e3 : W9.cell? ⟨n, 3, none⟩ = some (.pointer (some ⟨nb, 0, none⟩)) := HB9.out.cell 3
    have f2 := HB9.out.free 2
    have f3 := HB9.out.free 3
    go_upto_region 22 with (fail)
    clear e2 e3 f2 f3
    have HB10 := Lib.hid ((HB9.out.set 2 (.string em)).set 3 (.pointer none))
    have HT10 := Lib.hid ((HT9.out.setCell_other (a := ⟨n, 2, none⟩) (.string em) (Ne.symm htn)).setCell_other (a := ⟨n, 3, none⟩) (.pointer none) (Ne.symm htn))
    have HP10 := Lib.hid ((HP9.out.setCell_other (a := ⟨n, 2, none⟩) (.string em) hpn).setCell_other (a := ⟨n, 3, none⟩) (.pointer none) hpn)
    have HK10 := Lib.hid ((HK9.out.setCell_other (a := ⟨n, 2, none⟩) (.string em) hqn).setCell_other (a := ⟨n, 3, none⟩) (.pointer none) hqn)
    have HZ10 := Lib.hid ((HZ9.out.setCell 2 (.string em)).setCell 3 (.pointer none))
    have HS10 := Lib.hid (((size_set _ ⟨n, 3, none⟩ (.pointer none)).trans (size_set W9 ⟨n, 2, none⟩ (.string em))).trans HS9.out)
    clear HT9 HB9 HP9 HK9 HZ9 HS9
    generalize (W9.setCell ⟨n, 2, none⟩ (.string em)).setCell ⟨n, 3, none⟩ (.pointer none) = W10 at HT10 HB10 HP10 HK10 HZ10 HS10 ⊢
    go_wp2_with (go_at_call 138; refine (add_fresh qb _ val pr _ _ HK10.out hk1).mono ?_; rintro e w' ⟨rfl, hf⟩; have HF := Lib.hid hf; clear hf)
    first | go_end0 | refine bodyPost_ret (results_none rfl _ _ _) rfl ?_
    obtain ⟨h1, h2, h3, h4⟩ := HF.out
    have hs := HS10.out
    rw [hs] at h1 h2 h3
    have k1 : tb = wr.heap.size + 2 := by have := HTB.out; have := HQB.out; have := HPB.out; omega
    have k2 : qb = wr.heap.size + 1 := by have := HQB.out; have := HPB.out; omega
    have k3 := HPB.out
    have hT := h4.blk HT10.out (Ne.symm htq)
    have hB := h4.blk HB10.out (Ne.symm hqn)
    have hP := h4.blk HP10.out (by omega)
    have hZ := HZ10.out
    clear HF HS10 HT10 HB10 HP10 HK10 HZ10 HTB HQB HPB
    subst k1 k2 k3
    refine ⟨rfl, hB, hP, h1, hT, h2, by omega, ?_⟩
    exact ⟨h4.os.trans hZ.os, h4.tape.trans hZ.tape, h4.output.trans hZ.output, by omega, fun k hk hkn => (h4.block k (by omega) (by omega)).trans (hZ.block k hk hkn)⟩
end Go.Proofs.YtkjgnkmnngaioaaGreat.Q
namespace Go.Proofs.YtkjgnkmnngaioaaGreat.Q
open Go.RowKit Go.IntWalk Go.Proofs.YtkjgnkmnngaioaaGreat.Mem
set_option linter.unusedVariables false
set_option linter.unusedSimpArgs false
/-- The replacer's block: the root, the tables' size, the mapping. -/
def GB (tb : Value) (ts : Int) (mp : List Int) : Array Value := (([.string em, .int .i64 0, .string em, .pointer none, tb, .int .i64 ts] : List Value) ++ mp.map fun x => Value.int .u8 x).toArray
theorem gb_map {tb : Value} {ts : Int} {mp : List Int} {c : Nat} (h : c < mp.length) : (GB tb ts mp)[6 + c]? = some (.int .u8 (mp.getD c 0)) := by
  unfold GB
  rw [List.getElem?_toArray, List.getElem?_append_right (by simp), List.getElem?_map]
  simp [List.getElem?_eq_getElem h, List.getD_eq_getElem?_getD]
theorem gb_set {tb : Value} {ts : Int} {mp : List Int} {c : Nat} (x : Int) : (GB tb ts mp).setIfInBounds (6 + c) (.int .u8 x) = GB tb ts (mp.set c x) := by
  unfold GB
  rw [List.setIfInBounds_toArray, List.set_append_right _ _ (by simp), List.map_set]
  simp
theorem gb_ts {tb : Value} {ts ts' : Int} {mp : List Int} : (GB tb ts mp).setIfInBounds 5 (.int .i64 ts') = GB tb ts' mp := by
  unfold GB; simp
theorem gb_tb {tb tb' : Value} {ts : Int} {mp : List Int} : (GB tb ts mp).setIfInBounds 4 tb' = GB tb' ts mp := by
  unfold GB; simp
theorem gb_1 {tb : Value} {ts : Int} {mp : List Int} : (GB tb ts mp)[1]? = some (.int .i64 0) := rfl
theorem gb_2 {tb : Value} {ts : Int} {mp : List Int} : (GB tb ts mp)[2]? = some (.string em) := rfl
theorem gb_4 {tb : Value} {ts : Int} {mp : List Int} : (GB tb ts mp)[4]? = some tb := rfl
theorem gb_5 {tb : Value} {ts : Int} {mp : List Int} : (GB tb ts mp)[5]? = some (.int .i64 ts) := rfl
theorem gb_zero : Tryz.zeroCells193 = GB (.slice none 0 0) 0 (List.replicate 256 0) := by kernel_rfl
def KS : List ByteArray := [⟨#[38, 108, 116, 59]⟩, ⟨#[38, 103, 116, 59]⟩, ⟨#[38, 97, 109, 112, 59]⟩, ⟨#[38, 113, 117, 111, 116, 59]⟩]
def VS : List ByteArray := [⟨#[60]⟩, ⟨#[62]⟩, ⟨#[38]⟩, ⟨#[34]⟩]
def ks (i : Nat) : ByteArray := KS.getD i em
def vs (i : Nat) : ByteArray := VS.getD i em
def marks (l : List UInt8) : List Int := l.foldl (fun M c => M.set c.toNat 1) (List.replicate 256 0)
theorem marks_len (l : List UInt8) : (marks l).length = 256 := by
  have : ∀ (l : List UInt8) (M : List Int), M.length = 256 → (l.foldl (fun M c => M.set c.toNat 1) M).length = 256 := by
    intro l
    induction l with
    | nil => intro M h; exact h
    | cons c r ih => intro M h; exact ih _ (by simpa using h)
  exact this l _ List.length_replicate
theorem marks_snoc (l : List UInt8) (c : UInt8) : marks (l ++ [c]) = (marks l).set c.toNat 1 := by unfold marks; rw [List.foldl_append]; rfl
/-- The bytes of the first keys. -/
def kbs (a : Nat) : List UInt8 := ((KS.take a).map fun k => k.data.toList).flatten
theorem kbs_succ {a : Nat} (h : a < 4) : kbs (a + 1) = kbs a ++ (ks a).data.toList := by
  have : a = 0 ∨ a = 1 ∨ a = 2 ∨ a = 3 := by omega
  rcases this with rfl | rfl | rfl | rfl <;> rfl
theorem gb_range {w : World} {g : Nat} {tb : Value} {ts : Int} {M : List Int} {T : TypeId} (h : Blk w g (GB tb ts M) T) : w.rangeAt g 6 (M.map fun x => Value.int .u8 x) := fun j v hv => by
  rw [h.cell (6 + j)]
  have hj : j < M.length := by have := (List.getElem?_eq_some_iff.1 hv).1; simpa using this
  rw [gb_map hj, ← hv, List.getElem?_map, List.getElem?_eq_getElem hj, List.getD_eq_getElem?_getD, List.getElem?_eq_getElem hj]
  rfl
/-- How many there are. -/
def sm (M : List Int) (k : Nat) : Int := (M.take k).foldl (· + ·) 0
theorem idx_agg (AM : Array Value) (k : Nat) (v : Value) (hk : k < 256) (h : AM[k]? = some v) (w : World) : (Instr.index 174 (.agg AM) (.int .i64 k)).run Tryz.prog w = .ok v w := by
  have h1 : (0 : Int) ≤ (k : Int) ∧ (k : Int) < 256 := by omega
  have hs : (sizeOf 5).run Tryz.prog w = .ok 1 w := by kernel_rfl
  have hu : (underlying 174).run Tryz.prog w = .ok (.array 256 5) w := by kernel_rfl
  unfold Instr.index
  simp [Sem.run_bind, hs, hu, h1, part, go_sem, h]
  intro h; omega
theorem sm_succ {M : List Int} {k : Nat} (h : k < M.length) : sm M (k + 1) = sm M k + M.getD k 0 := by
  unfold sm
  rw [List.take_succ_eq_append_getElem h, List.foldl_append, List.getD_eq_getElem?_getD, List.getElem?_eq_getElem h]
  rfl
def B01 (M : List Int) : Prop := ∀ k, M.getD k 0 = 0 ∨ M.getD k 0 = 1
theorem marks_01 (l : List UInt8) : B01 (marks l) := by
  have : ∀ (l : List UInt8) (M : List Int), B01 M → B01 (l.foldl (fun M c => M.set c.toNat 1) M) := by
    intro l
    induction l with
    | nil => intro M h; exact h
    | cons c r ih =>
      intro M h
      refine ih _ (fun k => ?_)
      rw [List.getD_eq_getElem?_getD, List.getElem?_set]
      split
      · split
        · exact .inr rfl
        · exact .inl rfl
      · have := h k; rwa [List.getD_eq_getElem?_getD] at this
  refine this l _ (fun k => .inl ?_)
  rw [List.getD_eq_getElem?_getD, List.getElem?_replicate]
  split <;> rfl
theorem sm_le {M : List Int} (h : B01 M) : ∀ k, k ≤ M.length → 0 ≤ sm M k ∧ sm M k ≤ k
  | 0, _ => by simp [sm]
  | k + 1, hk => by
    have ih := sm_le h k (by omega)
    rw [sm_succ (by omega)]
    have := h k
    omega
theorem sm_mono {M : List Int} (h : B01 M) {k : Nat} : ∀ {n : Nat}, k ≤ n → n ≤ M.length → sm M k ≤ sm M n
  | 0, h1, _ => by obtain rfl : k = 0 := by omega
                   exact Int.le_refl _
  | n + 1, h1, h2 => by
    rcases Nat.lt_or_ge n k with h3 | h3
    · obtain rfl : k = n + 1 := by omega
      exact Int.le_refl _
    · have := sm_mono h (k := k) (n := n) h3 (by omega)
      rw [sm_succ (by omega)]
      have := h n
      omega
/-- The mapping, so far. -/
def mp2 (M : List Int) (k : Nat) : List Int := (List.range 256).map fun i => if i < k then (if M.getD i 0 = 0 then 11 else sm M i) else M.getD i 0
theorem mp2_len (M : List Int) (k : Nat) : (mp2 M k).length = 256 := by unfold mp2; rw [List.length_map, List.length_range]
theorem mp2_zero {M : List Int} (h : M.length = 256) : mp2 M 0 = M := by
  apply List.ext_getElem (by rw [mp2_len, h])
  intro i h1 h2
  unfold mp2
  simp [List.getD_eq_getElem?_getD, List.getElem?_eq_getElem h2]
theorem mp2_get (M : List Int) (k i : Nat) : (mp2 M k)[i]? = if i < 256 then some (if i < k then (if M.getD i 0 = 0 then 11 else sm M i) else M.getD i 0) else none := by
  unfold mp2
  rw [List.getElem?_map]
  by_cases h : i < 256
  · rw [if_pos h, List.getElem?_range h]; rfl
  · rw [if_neg h, List.getElem?_eq_none (by rw [List.length_range]; omega)]; rfl
theorem mp2_succ {M : List Int} {k : Nat} (h : k < 256) : mp2 M (k + 1) = (mp2 M k).set k (if M.getD k 0 = 0 then 11 else sm M k) := by
  apply List.ext_getElem?
  intro i
  rw [List.getElem?_set, mp2_get, mp2_get, mp2_len]
  by_cases hk : k = i
  · subst hk
    rw [if_pos h, if_pos (by omega), if_pos rfl, if_pos h]
  · rw [if_neg hk]
    by_cases h2 : i < 256
    · rw [if_pos h2, if_pos h2]
      by_cases h3 : i < k
      · rw [if_pos (by omega), if_pos h3]
      · rw [if_neg (by omega), if_neg h3]
    · rw [if_neg h2, if_neg h2]
theorem mp2_at {M : List Int} {k : Nat} (h : k < 256) : (mp2 M k).getD k 0 = M.getD k 0 := by
  rw [List.getD_eq_getElem?_getD, List.getElem?_eq_getElem (by rw [mp2_len]; exact h)]
  unfold mp2
  simp
/-- The mapping. -/
def MP : List Int := mp2 (marks (kbs 4)) 256
theorem mp_def : MP = mp2 (marks (kbs 4)) 256 := rfl
theorem marks_11 : sm (marks (kbs 4)) 256 = 11 := by decide +kernel
theorem ks_size {a : Nat} (h : a < 4) : (ks a).size ≤ 1000 := by
  have : a = 0 ∨ a = 1 ∨ a = 2 ∨ a = 3 := by omega
  rcases this with rfl | rfl | rfl | rfl <;> decide
theorem take_snoc' {s : ByteArray} {k : Nat} (h : k < s.size) : s.data.toList.take (k + 1) = s.data.toList.take k ++ [s[k]] := by
  rw [List.take_succ_eq_append_getElem (by simpa using h)]; rfl
end Go.Proofs.YtkjgnkmnngaioaaGreat.Q
namespace Go.Proofs.YtkjgnkmnngaioaaGreat.Q
open Go.RowKit Go.IntWalk Go.Proofs.YtkjgnkmnngaioaaGreat.Mem
set_option linter.unusedVariables false
set_option linter.unusedSimpArgs false
abbrev pt (b : Nat) : Value := .pointer (some ⟨b, 0, none⟩)
abbrev nl : Value := .slice none 0 0
abbrev np : Value := .pointer none
abbrev TN : TypeId := 191
/-- The replacer's block, its root's table in the next one. -/
abbrev TG (g : Nat) (w : World) : Prop := Blk w g (GB (.slice (some ⟨g + 1, 0, none⟩) 11 11) 11 MP) 193
def TrS : Nat → Nat → World → Prop
  | 0, g, w => TG g w ∧ Blk w (g + 1) P11 188 ∧ w.heap.size = g + 2
  | 1, g, w => TG g w ∧ Blk w (g + 1) (P11.setIfInBounds 0 (pt (g + 2))) 188 ∧ Blk w (g + 2) (ND em 0 ⟨#[108, 116, 59]⟩ (pt (g + 3)) nl) TN ∧ Blk w (g + 3) (ND (vs 0) 8 em np nl) TN ∧ w.heap.size = g + 4
  | 2, g, w => TG g w ∧ Blk w (g + 1) (P11.setIfInBounds 0 (pt (g + 2))) 188 ∧ Blk w (g + 2) (ND em 0 em np (.slice (some ⟨g + 6, 0, none⟩) 11 11)) TN ∧ Blk w (g + 3) (ND (vs 0) 8 em np nl) TN ∧
      Blk w (g + 4) (ND em 0 ⟨#[116, 59]⟩ (pt (g + 3)) nl) TN ∧ Blk w (g + 5) (ND em 0 ⟨#[116, 59]⟩ (pt (g + 7)) nl) TN ∧ Blk w (g + 6) ((P11.setIfInBounds 4 (pt (g + 4))).setIfInBounds 3 (pt (g + 5))) 188 ∧ Blk w (g + 7) (ND (vs 1) 6 em np nl) TN ∧ w.heap.size = g + 8
  | 3, g, w => TG g w ∧ Blk w (g + 1) (P11.setIfInBounds 0 (pt (g + 2))) 188 ∧ Blk w (g + 2) (ND em 0 em np (.slice (some ⟨g + 6, 0, none⟩) 11 11)) TN ∧ Blk w (g + 3) (ND (vs 0) 8 em np nl) TN ∧
      Blk w (g + 4) (ND em 0 ⟨#[116, 59]⟩ (pt (g + 3)) nl) TN ∧ Blk w (g + 5) (ND em 0 ⟨#[116, 59]⟩ (pt (g + 7)) nl) TN ∧ Blk w (g + 6) (((P11.setIfInBounds 4 (pt (g + 4))).setIfInBounds 3 (pt (g + 5))).setIfInBounds 2 (pt (g + 8))) 188 ∧ Blk w (g + 7) (ND (vs 1) 6 em np nl) TN ∧
      Blk w (g + 8) (ND em 0 ⟨#[109, 112, 59]⟩ (pt (g + 9)) nl) TN ∧ Blk w (g + 9) (ND (vs 2) 4 em np nl) TN ∧ w.heap.size = g + 10
  | _, g, w => TG g w ∧ Blk w (g + 1) (P11.setIfInBounds 0 (pt (g + 2))) 188 ∧ Blk w (g + 2) (ND em 0 em np (.slice (some ⟨g + 6, 0, none⟩) 11 11)) TN ∧ Blk w (g + 3) (ND (vs 0) 8 em np nl) TN ∧
      Blk w (g + 4) (ND em 0 ⟨#[116, 59]⟩ (pt (g + 3)) nl) TN ∧ Blk w (g + 5) (ND em 0 ⟨#[116, 59]⟩ (pt (g + 7)) nl) TN ∧ Blk w (g + 6) ((((P11.setIfInBounds 4 (pt (g + 4))).setIfInBounds 3 (pt (g + 5))).setIfInBounds 2 (pt (g + 8))).setIfInBounds 8 (pt (g + 10))) 188 ∧ Blk w (g + 7) (ND (vs 1) 6 em np nl) TN ∧
      Blk w (g + 8) (ND em 0 ⟨#[109, 112, 59]⟩ (pt (g + 9)) nl) TN ∧ Blk w (g + 9) (ND (vs 2) 4 em np nl) TN ∧ Blk w (g + 10) (ND em 0 ⟨#[117, 111, 116, 59]⟩ (pt (g + 11)) nl) TN ∧ Blk w (g + 11) (ND (vs 3) 2 em np nl) TN ∧ w.heap.size = g + 12
theorem tg_map {g : Nat} {w : World} (h : TG g w) (c : Nat) (m : Nat) (hc : c < 256) (hm : MP.getD c 0 = (m : Int)) : w.cell? ⟨g, 6 + c, none⟩ = some (.int .u8 m) := by
  rw [h.cell, gb_map (by rw [mp_def, mp2_len]; exact hc), hm]
theorem mp_amp : MP.getD 38 0 = ((0 : Nat) : Int) := by decide +kernel
theorem mp_l : MP.getD 108 0 = ((4 : Nat) : Int) := by decide +kernel
theorem mp_g : MP.getD 103 0 = ((3 : Nat) : Int) := by decide +kernel
theorem mp_a : MP.getD 97 0 = ((2 : Nat) : Int) := by decide +kernel
theorem mp_q : MP.getD 113 0 = ((8 : Nat) : Int) := by decide +kernel
theorem TG.drew2 {g : Nat} {w : World} (h : TG g w) : TG g w.drew.drew := h
theorem hd2 (g : Nat) (w : World) : Below g w w.drew.drew := below_drewN (below_drewN (Below.refl g w) 1) 1
theorem step0 (g : Nat) (w : World) (h : TrS 0 g w) :
    Calls Tryz.prog 138 #[pt g, .string (ks 0), .string (vs 0), .int .i64 8, pt g] w fun e w' => e = .returned (.tuple #[]) ∧ TrS 1 g w' ∧ Below g w w' := by
  obtain ⟨h1, h2, h3⟩ := h
  refine (add_new g g (g + 1) (ks 0) (vs 0) 8 0 P11 188 w (by decide +kernel) (by decide +kernel) (by decide +kernel) (by omega) ((h1.cell 1).trans gb_1) ((h1.cell 2).trans gb_2) ((h1.cell 4).trans gb_4) (by decide) (tg_map h1 38 0 (by decide) mp_amp) h2 rfl).mono ?_
  rintro e w' ⟨rfl, hn⟩
  obtain ⟨n1, n2, n3, n4, n5⟩ := hn
  rw [h3] at n1 n2 n3
  have hx : (ks 0).extract 1 (ks 0).size = ⟨#[108, 116, 59]⟩ := by decide +kernel
  rw [hx] at n2
  exact ⟨rfl, ⟨n5.blk h1 (by omega), n1, n2, n3, by omega⟩, n5.below (by omega) (by omega)⟩
theorem step1 (g : Nat) (w : World) (h : TrS 1 g w) :
    Calls Tryz.prog 138 #[pt g, .string (ks 1), .string (vs 1), .int .i64 6, pt g] w fun e w' => e = .returned (.tuple #[]) ∧ TrS 2 g w' ∧ Below g w w' := by
  obtain ⟨h1, h2, h3, h4, h5⟩ := h
  have hk : (ks 1).extract 1 (ks 1).size = ⟨#[103, 116, 59]⟩ := by decide +kernel
  refine (add_down g g (g + 1) (g + 2) (ks 1) (vs 1) 6 0 11 (Split (g + 2) 4 3 ⟨#[108, 116, 59]⟩ (g + 3) ⟨#[103, 116, 59]⟩ (vs 1) 6 w.drew.drew) w (by decide +kernel) (by decide +kernel) ((h1.cell 1).trans gb_1) ((h1.cell 2).trans gb_2) ((h1.cell 4).trans gb_4) (by decide) (tg_map h1 38 0 (by decide) mp_amp) (h2.cell 0) ?_).mono ?_
  · rw [hk]
    exact add_split (g + 2) g (g + 3) ⟨#[108, 116, 59]⟩ ⟨#[103, 116, 59]⟩ (vs 1) 6 4 3 w.drew.drew h3 (by omega) (by decide +kernel) (by decide +kernel) (by decide +kernel) (by decide +kernel) (by decide +kernel) (by decide +kernel) (by decide) (by decide) ((h1.cell 5).trans gb_5) (tg_map h1 108 4 (by decide) mp_l) (tg_map h1 103 3 (by decide) mp_g)
  · rintro e w' ⟨rfl, hn⟩
    obtain ⟨n1, n2, n3, n4, n5, n6, n7⟩ := hn
    have hs : w.drew.drew.heap.size = g + 4 := h5
    rw [hs] at n1 n2 n3 n4 n5 n6
    have hx : (⟨#[108, 116, 59]⟩ : ByteArray).extract 1 (⟨#[108, 116, 59]⟩ : ByteArray).size = ⟨#[116, 59]⟩ := by decide +kernel
    have hy : (⟨#[103, 116, 59]⟩ : ByteArray).extract 1 (⟨#[103, 116, 59]⟩ : ByteArray).size = ⟨#[116, 59]⟩ := by decide +kernel
    rw [hx] at n2
    rw [hy] at n3
    exact ⟨rfl, ⟨n7.blk h1.drew2 (by omega), n7.blk (h2.drew.drew) (by omega), n1, n7.blk (h4.drew.drew) (by omega), n2, n3, n4, n5, by omega⟩, (hd2 g w).trans (n7.below (by omega) (by omega))⟩
theorem step2 (g : Nat) (w : World) (h : TrS 2 g w) :
    Calls Tryz.prog 138 #[pt g, .string (ks 2), .string (vs 2), .int .i64 4, pt g] w fun e w' => e = .returned (.tuple #[]) ∧ TrS 3 g w' ∧ Below g w w' := by
  obtain ⟨h1, h2, h3, h4, h5, h6, h7, h8, h9⟩ := h
  have hk : (ks 2).extract 1 (ks 2).size = ⟨#[97, 109, 112, 59]⟩ := by decide +kernel
  refine (add_down g g (g + 1) (g + 2) (ks 2) (vs 2) 4 0 11 (New (g + 6) 2 ((P11.setIfInBounds 4 (pt (g + 4))).setIfInBounds 3 (pt (g + 5))) 188 ((⟨#[97, 109, 112, 59]⟩ : ByteArray).extract 1 (⟨#[97, 109, 112, 59]⟩ : ByteArray).size) (vs 2) 4 w.drew.drew) w (by decide +kernel) (by decide +kernel) ((h1.cell 1).trans gb_1) ((h1.cell 2).trans gb_2) ((h1.cell 4).trans gb_4) (by decide) (tg_map h1 38 0 (by decide) mp_amp) (h2.cell 0) ?_).mono ?_
  · rw [hk]
    exact add_new (g + 2) g (g + 6) ⟨#[97, 109, 112, 59]⟩ (vs 2) 4 2 _ 188 w.drew.drew (by decide +kernel) (by decide +kernel) (by decide +kernel) (by omega) (h3.cell 1) (h3.cell 2) (h3.cell 4) (by simp) (tg_map h1 97 2 (by decide) mp_a) h7 rfl
  · rintro e w' ⟨rfl, hn⟩
    obtain ⟨n1, n2, n3, n4, n5⟩ := hn
    have hs : w.drew.drew.heap.size = g + 8 := h9
    rw [hs] at n1 n2 n3 n4
    have hx : (⟨#[97, 109, 112, 59]⟩ : ByteArray).extract 1 (⟨#[97, 109, 112, 59]⟩ : ByteArray).size = ⟨#[109, 112, 59]⟩ := by decide +kernel
    rw [hx] at n2
    exact ⟨rfl, ⟨n5.blk h1.drew2 (by omega), n5.blk (h2.drew.drew) (by omega), n5.blk (h3.drew.drew) (by omega), n5.blk (h4.drew.drew) (by omega), n5.blk (h5.drew.drew) (by omega), n5.blk (h6.drew.drew) (by omega), n1, n5.blk (h8.drew.drew) (by omega), n2, n3, by omega⟩, (hd2 g w).trans (n5.below (by omega) (by omega))⟩
theorem step3 (g : Nat) (w : World) (h : TrS 3 g w) :
    Calls Tryz.prog 138 #[pt g, .string (ks 3), .string (vs 3), .int .i64 2, pt g] w fun e w' => e = .returned (.tuple #[]) ∧ TrS 4 g w' ∧ Below g w w' := by
  obtain ⟨h1, h2, h3, h4, h5, h6, h7, h8, h9, h10, h11⟩ := h
  have hk : (ks 3).extract 1 (ks 3).size = ⟨#[113, 117, 111, 116, 59]⟩ := by decide +kernel
  refine (add_down g g (g + 1) (g + 2) (ks 3) (vs 3) 2 0 11 (New (g + 6) 8 (((P11.setIfInBounds 4 (pt (g + 4))).setIfInBounds 3 (pt (g + 5))).setIfInBounds 2 (pt (g + 8))) 188 ((⟨#[113, 117, 111, 116, 59]⟩ : ByteArray).extract 1 (⟨#[113, 117, 111, 116, 59]⟩ : ByteArray).size) (vs 3) 2 w.drew.drew) w (by decide +kernel) (by decide +kernel) ((h1.cell 1).trans gb_1) ((h1.cell 2).trans gb_2) ((h1.cell 4).trans gb_4) (by decide) (tg_map h1 38 0 (by decide) mp_amp) (h2.cell 0) ?_).mono ?_
  · rw [hk]
    exact add_new (g + 2) g (g + 6) ⟨#[113, 117, 111, 116, 59]⟩ (vs 3) 2 8 _ 188 w.drew.drew (by decide +kernel) (by decide +kernel) (by decide +kernel) (by omega) (h3.cell 1) (h3.cell 2) (h3.cell 4) (by simp) (tg_map h1 113 8 (by decide) mp_q) h7 rfl
  · rintro e w' ⟨rfl, hn⟩
    obtain ⟨n1, n2, n3, n4, n5⟩ := hn
    have hs : w.drew.drew.heap.size = g + 10 := h11
    rw [hs] at n1 n2 n3 n4
    have hx : (⟨#[113, 117, 111, 116, 59]⟩ : ByteArray).extract 1 (⟨#[113, 117, 111, 116, 59]⟩ : ByteArray).size = ⟨#[117, 111, 116, 59]⟩ := by decide +kernel
    rw [hx] at n2
    exact ⟨rfl, ⟨n5.blk h1.drew2 (by omega), n5.blk (h2.drew.drew) (by omega), n5.blk (h3.drew.drew) (by omega), n5.blk (h4.drew.drew) (by omega), n5.blk (h5.drew.drew) (by omega), n5.blk (h6.drew.drew) (by omega), n1, n5.blk (h8.drew.drew) (by omega), n5.blk (h9.drew.drew) (by omega), n5.blk (h10.drew.drew) (by omega), n2, n3, by omega⟩, (hd2 g w).trans (n5.below (by omega) (by omega))⟩
theorem steps (g a : Nat) (w : World) (ha : a < 4) (h : TrS a g w) :
    Calls Tryz.prog 138 #[pt g, .string (ks a), .string (vs a), .int .i64 (8 - ((2 * a : Nat) : Int)), pt g] w fun e w' => e = .returned (.tuple #[]) ∧ TrS (a + 1) g w' ∧ Below g w w' := by
  have : a = 0 ∨ a = 1 ∨ a = 2 ∨ a = 3 := by omega
  rcases this with rfl | rfl | rfl | rfl
  · exact step0 g w h
  · exact step1 g w h
  · exact step2 g w h
  · exact step3 g w h
theorem TrS.drew {a g : Nat} {w : World} (h : TrS a g w) : TrS a g w.drew := by
  rcases a with _ | _ | _ | _ | a <;> exact h
theorem steps' (g a ib : Nat) (w : World) (hib : ib = 2 * a) (ha : a < 4) (h : TrS a g w) :
    Calls Tryz.prog 138 #[.pointer (some ⟨g, 0, none⟩), .string (ks a), .string (vs a), .int .i64 (8 - (ib : Int)), .pointer (some ⟨g, 0, none⟩)] w fun e w' => e = .returned (.tuple #[]) ∧ TrS (a + 1) g w' ∧ Below g w w' := by
  subst hib
  exact steps g a w ha h
/-- The trie, as_ it is read. -/
structure Tri (g : Nat) (w : World) : Prop where
  root : TG g w
  tab : Blk w (g + 1) (P11.setIfInBounds 0 (pt (g + 2))) 188
  amp : Blk w (g + 2) (ND em 0 em np (.slice (some ⟨g + 6, 0, none⟩) 11 11)) TN
  lt : Blk w (g + 3) (ND (vs 0) 8 em np nl) TN
  l : Blk w (g + 4) (ND em 0 ⟨#[116, 59]⟩ (pt (g + 3)) nl) TN
  g' : Blk w (g + 5) (ND em 0 ⟨#[116, 59]⟩ (pt (g + 7)) nl) TN
  tab2 : Blk w (g + 6) ((((P11.setIfInBounds 4 (pt (g + 4))).setIfInBounds 3 (pt (g + 5))).setIfInBounds 2 (pt (g + 8))).setIfInBounds 8 (pt (g + 10))) 188
  gt : Blk w (g + 7) (ND (vs 1) 6 em np nl) TN
  a : Blk w (g + 8) (ND em 0 ⟨#[109, 112, 59]⟩ (pt (g + 9)) nl) TN
  and : Blk w (g + 9) (ND (vs 2) 4 em np nl) TN
  q : Blk w (g + 10) (ND em 0 ⟨#[117, 111, 116, 59]⟩ (pt (g + 11)) nl) TN
  quot : Blk w (g + 11) (ND (vs 3) 2 em np nl) TN
theorem Tri.of {g : Nat} {w : World} (h : TrS 4 g w) : Tri g w ∧ w.heap.size = g + 12 := by
  obtain ⟨h1, h2, h3, h4, h5, h6, h7, h8, h9, h10, h11, h12, h13⟩ := h
  exact ⟨⟨h1, h2, h3, h4, h5, h6, h7, h8, h9, h10, h11, h12⟩, h13⟩
theorem Tri.keep {g : Nat} {w w' : World} (h : Tri g w) (k : ∀ j, g ≤ j → j < g + 12 → w'.heap[j]? = w.heap[j]?) : Tri g w' :=
  ⟨h.root.of_block (k _ (by omega) (by omega)), h.tab.of_block (k _ (by omega) (by omega)), h.amp.of_block (k _ (by omega) (by omega)), h.lt.of_block (k _ (by omega) (by omega)), h.l.of_block (k _ (by omega) (by omega)), h.g'.of_block (k _ (by omega) (by omega)),
   h.tab2.of_block (k _ (by omega) (by omega)), h.gt.of_block (k _ (by omega) (by omega)), h.a.of_block (k _ (by omega) (by omega)), h.and.of_block (k _ (by omega) (by omega)), h.q.of_block (k _ (by omega) (by omega)), h.quot.of_block (k _ (by omega) (by omega))⟩
theorem Tri.top {g : Nat} {w : World} (h : Tri g w) : g + 11 < w.heap.size := h.quot.lt
end Go.Proofs.YtkjgnkmnngaioaaGreat.Q
