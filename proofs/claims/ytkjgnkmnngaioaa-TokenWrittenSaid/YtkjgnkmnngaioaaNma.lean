/- Names: letters, taking a name, blanks. -/
import Derived.Test.YtkjgnkmnngaioaaMmx
import Derived.Test.YtkjgnkmnngaioaaProg
import Derived.Lib.SliceRun
import Derived.IntWalk
import Derived.WalkSpells
import Derived.Laws.IdiomStrings
import Derived.Lib.Bytealg
import Derived.BigQuiet
import Derived.Deep.QuietTactic
import Derived.StillTailTactics
import Derived.Deep.DeepCutAuto
import Derived.Deep.CutBlock
import Derived.Lib.SlBytesRow
/- Names: letters, names taken off a row of bytes, told in small letters. -/
namespace Go.Proofs.Ytkjgnkmnngaioaa.Q
open Go.RowKit Go.IntWalk Go.Proofs.Ytkjgnkmnngaioaa.Mem
set_option linter.unusedVariables false
set_option linter.unusedSimpArgs false

/-! ### plain words -/
def ltr (c : UInt8) : Bool := decide (97 ≤ (c ||| 32).toNat) && decide ((c ||| 32).toNat ≤ 122)
def inN (c : UInt8) : Bool := ltr c || (decide (48 ≤ c.toNat) && decide (c.toNat ≤ 57)) || decide (c.toNat = 45)
def low (c : UInt8) : UInt8 := if ltr c then c ||| 32 else c
def st (l : List UInt8) : ByteArray := ⟨l.toArray⟩
/-- How many bytes of a name stand first. -/
def nmLen (l : List UInt8) : Nat := (l.takeWhile inN).length
/-- How many bytes the name has that stands first; none: none does. -/
def nmF (l : List UInt8) : Option Nat := if nmLen l = 0 ∨ 20 < nmLen l ∨ (l.headD 0 |> ltr) = false then none else some (nmLen l)
def lows (l : List UInt8) : List UInt8 := l.map low
theorem bits_or (c : UInt8) : bits .or .u8 (c.toNat : Int) 32 = ((c ||| 32).toNat : Int) := by
  have h : ∀ n : Fin 256, bits .or .u8 ((UInt8.ofNat n.val).toNat : Int) 32 = (((UInt8.ofNat n.val) ||| 32).toNat : Int) := by decide +kernel
  have := h ⟨c.toNat, c.toNat_lt⟩
  simpa using this
theorem nmLen_le (l : List UInt8) : nmLen l ≤ l.length := by
  unfold nmLen
  exact (List.takeWhile_prefix _).length_le
theorem nmLen_drop {l : List UInt8} {n : Nat} (h : ∀ c ∈ l.take n, inN c = true) (hn : n ≤ l.length) (hs : n = l.length ∨ ∃ h : n < l.length, inN l[n] = false) : nmLen l = n := by
  unfold nmLen
  induction l generalizing n with
  | nil => simp at hn; simp [hn]
  | cons c l ih =>
    cases n with
    | zero =>
      rcases hs with h0 | ⟨h0, h1⟩
      · simp at h0
      · simp at h1; simp [List.takeWhile_cons, h1]
    | succ n =>
      have h1 := h c (by simp)
      rw [List.takeWhile_cons, if_pos h1, List.length_cons, ih (n := n) (fun d hd => h d (by simp [hd])) (by simpa using hn) ?_]
      rcases hs with h0 | ⟨h0, h2⟩
      · left; simpa using h0
      · right; exact ⟨by simpa using h0, by simpa using h2⟩

/-! ### walks -/
set_option maxRecDepth 100000 in
set_option maxHeartbeats 1600000 in
theorem letter_calls (c : UInt8) (w : World) : Calls Try.prog 24 #[.int .u8 (c.toNat : Int)] w fun e w' => e = .returned (.bool (ltr c)) ∧ w = w' := by
  have hb := bits_or c
  have HB := Lib.hid hb
  obtain ⟨d, hd⟩ : ∃ d, d = (c ||| 32).toNat := ⟨_, rfl⟩
  have HL := Lib.hid (show ltr c = (decide (97 ≤ d) && decide (d ≤ 122)) by rw [hd]; rfl)
  rw [← hd] at hb
  clear hd
  by_cases h1 : 97 ≤ d
  · have u1' : (97 : Int) ≤ (d : Int) := by omega
    go_enter Try.func24, Try.ntmps24
    go_wp2_with fail
    go_ret
    have e : decide ((d : Int) ≤ 122) = decide (d ≤ 122) := by rw [decide_eq_decide]; omega
    exact ⟨by rw [HL.out]; simp [h1, e], rfl⟩
  · have u1 : ¬ (97 : Int) ≤ (d : Int) := by omega
    go_enter Try.func24, Try.ntmps24
    go_wp2_with fail
    go_ret
    refine ⟨?_, rfl⟩
    rw [HL.out]
    first | (simp [h1]; done) | (simp; omega)
set_option maxRecDepth 100000 in
set_option maxHeartbeats 1600000 in
theorem inName_calls (c : UInt8) (w : World) : Calls Try.prog 23 #[.int .u8 (c.toNat : Int)] w fun e w' => e = .returned (.bool (inN c)) ∧ w = w' := by
  have HC := Lib.hid (show inN c = (ltr c || (decide (48 ≤ c.toNat) && decide (c.toNat ≤ 57)) || decide (c.toNat = 45)) from rfl)
  obtain ⟨b, hb⟩ : ∃ b, ltr c = b := ⟨_, rfl⟩
  rw [hb] at HC
  have HL := Lib.hid (show Calls Try.prog 24 #[.int .u8 (c.toNat : Int)] w fun e w' => e = .returned (.bool b) ∧ w = w' by rw [← hb]; exact letter_calls c w)
  clear hb
  obtain ⟨d, hd⟩ : ∃ d, c.toNat = d := ⟨_, rfl⟩
  rw [hd] at HL HC ⊢
  clear hd
  obtain ⟨r, hr⟩ : ∃ r, inN c = r := ⟨_, rfl⟩
  rw [hr] at HC ⊢
  clear hr
  cases b with
  | true =>
    go_enter Try.func23, Try.ntmps23
    go_wp2_with (go_at_call 24; refine HL.out.mono ?_; rintro e w' ⟨rfl, rfl⟩)
    go_ret
    exact ⟨by rw [HC.out]; simp, rfl⟩
  | false =>
    by_cases h1 : 48 ≤ d
    · have u1 : (48 : Int) ≤ (d : Int) := by omega
      by_cases h2 : d ≤ 57
      · have u2 : (d : Int) ≤ 57 := by omega
        go_enter Try.func23, Try.ntmps23
        go_wp2_with (go_at_call 24; refine HL.out.mono ?_; rintro e w' ⟨rfl, rfl⟩)
        go_ret
        exact ⟨by rw [HC.out]; simp [h1, h2], rfl⟩
      · have u2 : ¬ (d : Int) ≤ 57 := by omega
        have u3 : ((d : Int) == 45) = false := by simp; omega
        go_enter Try.func23, Try.ntmps23
        go_wp2_with (go_at_call 24; refine HL.out.mono ?_; rintro e w' ⟨rfl, rfl⟩)
        go_ret
        exact ⟨by rw [HC.out]; simp [h1, h2]; omega, rfl⟩
    · have u1 : ¬ (48 : Int) ≤ (d : Int) := by omega
      by_cases h2 : d = 45
      · subst h2
        go_enter Try.func23, Try.ntmps23
        go_wp2_with (go_at_call 24; refine HL.out.mono ?_; rintro e w' ⟨rfl, rfl⟩)
        go_ret
        exact ⟨by rw [HC.out]; rfl, rfl⟩
      · have u3 : ((d : Int) == 45) = false := by simp; omega
        go_enter Try.func23, Try.ntmps23
        go_wp2_with (go_at_call 24; refine HL.out.mono ?_; rintro e w' ⟨rfl, rfl⟩)
        go_ret
        exact ⟨by rw [HC.out]; simp [h1, h2], rfl⟩
/-- A block of cells that may be marked. -/
def Blz (w : World) (g : Nat) (cs : Array Value) (fz : Nat × Nat) : Prop := w.heap[g]? = some (.cells cs 5 fz)
theorem Blz.cell {w : World} {g : Nat} {cs : Array Value} {fz : Nat × Nat} (h : Blz w g cs fz) (i : Nat) : w.cell? ⟨g, i, none⟩ = cs[i]? := by
  unfold Blz at h; simp [World.cell?, h]
theorem Blz.free {w : World} {g : Nat} {cs : Array Value} {fz : Nat × Nat} (h : Blz w g cs fz) {i : Nat} (hi : i < fz.1) : w.frozen? ⟨g, i, none⟩ = false := by
  unfold Blz at h; simp [World.frozen?, h]; omega
theorem Blz.set {w : World} {g : Nat} {cs : Array Value} {fz : Nat × Nat} (h : Blz w g cs fz) (i : Nat) (v : Value) : Blz (w.setCell ⟨g, i, none⟩ v) g (cs.setIfInBounds i v) fz := by
  unfold Blz at *; simp [World.setCell, Array.getElem?_modify, h]
theorem Blz.lt {w : World} {g : Nat} {cs : Array Value} {fz : Nat × Nat} (h : Blz w g cs fz) : g < w.heap.size := by
  unfold Blz at h
  rcases Nat.lt_or_ge g w.heap.size with h1 | h1
  · exact h1
  · rw [Array.getElem?_eq_none h1] at h; cases h
/-- Bytes as cells. -/
def by8' (l : List UInt8) : List Value := l.map fun b => Value.int .u8 b.toNat
theorem by8'_at {l : List UInt8} {i : Nat} (h : i < l.length) : (by8' l)[i]? = some (.int .u8 (l[i].toNat : Int)) := by
  unfold by8'; rw [List.getElem?_map, List.getElem?_eq_getElem h]; rfl
set_option maxRecDepth 100000 in
set_option maxHeartbeats 1600000 in
theorem lower_calls (s : ByteArray) (w : World) (hs : s.size ≤ 600000) : Calls Try.prog 25 #[.string s] w fun e w' => e = .returned (.string (st (lows s.data.toList))) ∧ Below w.heap.size w w' := by
  have hbs : ∀ W : World, (convert 9 45 (.string s)).run Try.prog W = _ := fun W => run_bytes_of_string (P := Try.prog) W 9 45 5 s Try.underlying9 Try.underlying45 Try.underlying5
  go_enter Try.func25, Try.ntmps25
  go_wp2_with fail
  clear hbs
  obtain ⟨g, hg⟩ : ∃ g, g = w.heap.size := ⟨_, rfl⟩
  obtain ⟨cp, hcp⟩ : ∃ cp, cp = grownCap w s.size 0 5 := ⟨_, rfl⟩
  rw [← hcp]
  have HB0 := Lib.hid (show Blz ((w.alloc (.cells (bytesRow s cp) 5 ((bytesRow s cp).size, (bytesRow s cp).size + 1))).drew) g (bytesRow s cp) ((bytesRow s cp).size, (bytesRow s cp).size + 1) from by
    rw [hg]; exact heap_alloc_new w _)
  have HW0 := Lib.hid (show Below w.heap.size w ((w.alloc (.cells (bytesRow s cp) 5 ((bytesRow s cp).size, (bytesRow s cp).size + 1))).drew) from below_drewN ((Below.refl _ _).alloc (Nat.le_refl _) _) 1)
  have HG := Lib.hid hg
  rw [← hg]
  clear hg hcp
  obtain ⟨N, hN⟩ : ∃ N, N = (bytesRow s cp).size := ⟨_, rfl⟩
  have HN := Lib.hid (show s.size ≤ N from by rw [hN]; unfold bytesRow; simp)
  go_loopw [10] (fun iv wr => ∃ (i : Nat) (cur : Array Value), i ≤ s.size ∧ iv = .int .i64 (i : Int) ∧ Hid (Blz wr g cur (N, N + 1)) ∧ Hid (cur.size = N) ∧ Hid (cur.toList.take s.size = by8' (lows (s.data.toList.take i) ++ s.data.toList.drop i)) ∧ Hid (Below w.heap.size w wr)) (fun iv _ => s.size - (intOf iv).toNat)
  case atStart => exact ⟨0, _, by omega, rfl, Lib.hid (by rw [hN]; exact HB0.out), Lib.hid hN.symm, Lib.hid (by unfold bytesRow by8' lows; simp), by first | exact HW0 | (rw [hN]; exact HW0)⟩
  case round =>
    clear HB0 HW0 hN
    obtain ⟨i, cur, hi, rfl, HB, HC, HT, HW⟩ := hrel
    have hl : s.data.toList.length = s.size := by simp
    by_cases hlt : i < s.size
    · have v1 : (i : Int) < (s.size : Int) := by omega
      have v2 : (0 : Int) ≤ (i : Int) := by omega
      obtain ⟨c, hc⟩ : ∃ c, c = s.data.toList[i]'(by omega) := ⟨_, rfl⟩
      have d0 : wr.cell? ⟨g, i, none⟩ = some (.int .u8 (c.toNat : Int)) := by
        rw [HB.out.cell]
        have h := by8'_at (l := lows (s.data.toList.take i) ++ s.data.toList.drop i) (i := i) (by simp [lows]; omega)
        rw [← HT.out, List.getElem?_take_of_lt hlt] at h
        rw [← Array.getElem?_toList, h, hc]
        congr 3
        rw [List.getElem_append_right (by simp [lows]; omega)]
        simp [lows, hi]
      have d1 : wr.frozen? ⟨g, i, none⟩ = false := HB.out.free (by have := HN.out; show i < N; omega)
      have HS := Lib.hid (show by8' (lows (s.data.toList.take (i + 1)) ++ s.data.toList.drop (i + 1)) = (cur.toList.take s.size).set i (.int .u8 ((low c).toNat : Int)) from by
        have e1 : s.data.toList.drop i = c :: s.data.toList.drop (i + 1) := by rw [hc]; exact List.drop_eq_getElem_cons (by omega)
        have e2 : s.data.toList.take (i + 1) = s.data.toList.take i ++ [c] := by rw [hc]; exact List.take_succ_eq_append_getElem (by omega)
        rw [HT.out, e1, e2]
        simp only [by8', lows, List.map_append, List.map_cons, List.map_nil]
        rw [List.set_append_right _ _ (by simp; omega)]
        simp [hi])
      have HBO := Lib.hid (bits_or c)
      obtain ⟨b, hb⟩ : ∃ b, ltr c = b := ⟨_, rfl⟩
      have HLT := Lib.hid hb
      have HL := Lib.hid (show Calls Try.prog 24 #[.int .u8 (c.toNat : Int)] wr fun e w' => e = .returned (.bool b) ∧ wr = w' by rw [← hb]; exact letter_calls c wr)
      have v5 : ((c.toNat : Nat) : Int) < 256 := by have := c.toNat_lt; omega
      clear hb hc hl
      cases b with
      | true =>
        go_wp2_with (go_at_call 24; refine HL.out.mono ?_; rintro e w' ⟨rfl, rfl⟩)
        go_roundw
        case rel =>
          refine ⟨i + 1, cur.setIfInBounds i (.int .u8 (bits .or .u8 (c.toNat : Int) 32)), by omega, rfl, Lib.hid (HB.out.set _ _), Lib.hid (by rw [Array.size_setIfInBounds]; exact HC.out), Lib.hid ?_, Lib.hid (HW.out.trans ⟨rfl, rfl, rfl, by simp [World.setCell], fun k hk => Below.heap_setCell _ _ _ _ (by show k ≠ g; have := HG.out; omega)⟩)⟩
          rw [HS.out, Array.toList_setIfInBounds, List.take_set, HBO.out]
          unfold low
          rw [if_pos HLT.out]
        case measure => simp [intOf]; omega
      | false =>
        go_wp2_with (go_at_call 24; refine HL.out.mono ?_; rintro e w' ⟨rfl, rfl⟩)
        go_roundw
        case rel =>
          refine ⟨i + 1, cur, by omega, rfl, HB, HC, Lib.hid ?_, HW⟩
          rw [HS.out]
          unfold low
          rw [if_neg (by rw [HLT.out]; decide)]
          have h : (cur.toList.take s.size)[i]? = some (.int .u8 (c.toNat : Int)) := by
            rw [List.getElem?_take_of_lt hlt, Array.getElem?_toList, ← HB.out.cell, d0]
          rw [List.getElem?_eq_some_iff] at h
          obtain ⟨h1, h2⟩ := h
          rw [← h2]; exact (List.set_getElem_self h1).symm
        case measure => simp [intOf]; omega
    · have v1 : ¬ (i : Int) < (s.size : Int) := by omega
      have hi' : i = s.size := by omega
      have hT := HT.out
      rw [hi', List.take_of_length_le (l := s.data.toList) (by omega), List.drop_of_length_le (by omega), List.append_nil] at hT
      have hlen : (lows s.data.toList).length = s.size := by simp [lows]
      have hcv := run_convert_bytes_back (P := Try.prog) wr 45 9 5 ⟨g, 0, none⟩ cp (lows s.data.toList) Try.underlying45 Try.underlying5 Try.underlying9 (fun k hk => by
        have e : (⟨g, 0, none⟩ : Addr).add k = ⟨g, k, none⟩ := by unfold Addr.add; split <;> simp_all
        rw [e, HB.out.cell, ← Array.getElem?_toList]
        have h1 := by8'_at hk
        rw [← hT, List.getElem?_take_of_lt (by omega)] at h1
        exact h1)
      rw [hlen] at hcv
      clear hT hlen hl
      go_wp2_with fail
      refine bodyPost_ret (v := .string ⟨(lows s.data.toList).toArray⟩) (by simp [results, Try.results25, go_sem]) rfl ⟨rfl, HW.out⟩
end Go.Proofs.Ytkjgnkmnngaioaa.Q

/- 'token.name': a name is taken off a row of bytes; blanks too. -/
namespace Go.Proofs.Ytkjgnkmnngaioaa.Q
open Go.RowKit Go.IntWalk Go.Proofs.Ytkjgnkmnngaioaa.Mem
set_option linter.unusedVariables false
set_option linter.unusedSimpArgs false

/-- A row of bytes: in block g from place a on. -/
structure Bt (w : World) (g a n c : Nat) (l : List UInt8) : Prop where
  len : l.length = n
  cap : n ≤ c
  cell : ∀ i (h : i < l.length), w.cell? ⟨g, a + i, none⟩ = some (.int .u8 (l[i].toNat : Int))
theorem Bt.below {w w' : World} {g a n c : Nat} {l : List UInt8} (h : Bt w g a n c l) (hb : Below w.heap.size w w') : Bt w' g a n c l :=
  ⟨h.len, h.cap, fun i hi => by rw [hb.cell (p := ⟨g, a + i, none⟩) (lt_of_cell (h.cell i hi))]; exact h.cell i hi⟩
theorem Bt.keep {w w' : World} {g a n c : Nat} {l : List UInt8} (h : Bt w g a n c l) (hb : w'.heap[g]? = w.heap[g]?) : Bt w' g a n c l :=
  ⟨h.len, h.cap, fun i hi => (World.cell?_of_block hb).trans (h.cell i hi)⟩
theorem Bt.drop {w : World} {g a n c : Nat} {l : List UInt8} (h : Bt w g a n c l) {k a' c' : Nat} (hk : k ≤ n) (ha : k < n → a' = a + k) (hc : n - k ≤ c') : Bt w g a' (n - k) c' (l.drop k) := by
  have hl := h.len
  refine ⟨by simp [hl], hc, fun i hi => ?_⟩
  rw [List.length_drop] at hi
  rw [ha (by omega), Nat.add_assoc, List.getElem_drop]
  exact h.cell (k + i) (by omega)
/-- Where 'b[k:len(b):len(b)]' stands. -/
def bof (a n k : Nat) : Nat := if n = k then a else a + k
theorem bof_lt {a n k : Nat} (h : k < n) : bof a n k = a + k := by unfold bof; rw [if_neg (by omega)]
theorem add_at' (g a k : Nat) : (⟨g, a, none⟩ : Addr).add k = ⟨g, a + k, none⟩ := by unfold Addr.add; split <;> simp_all
/-- 'b[k:len(b):len(b)]'. -/
theorem slice_lhm (W : World) (g a n c k : Nat) (hk : k ≤ n) (hn : n ≤ c) :
    (Instr.slice 45 (.slice (some ⟨g, a, none⟩) n c) (some (.int .i64 (k : Int))) (some (.int .i64 (n : Int))) (some (.int .i64 (n : Int)))).run Try.prog W = .ok (.slice (some ⟨g, bof a n k, none⟩) (n - k) (n - k)) W := by
  have hz : ∀ w, (Go.sizeOf 5).run Try.prog w = .ok 1 w := fun _ => by kernel_rfl
  have he : Try.prog.elem 45 = 5 := by simp [Program.elem, Try.underlying45]
  rw [run_slice_lhm W 45 _ n c (by rw [he]; exact Try.underlying45) .i64 .i64 .i64 k n n (by omega) (by omega) (by omega) (by omega), he, hz]
  simp only [Result.andThen, sliced, Int.toNat_natCast, Nat.mul_one, Option.map_some, add_at']
  unfold bof
  by_cases h : n = k
  · rw [if_pos h, if_pos h]
  · rw [if_neg h, if_neg h]
/-- 'b[k:]'. -/
theorem slice_l (W : World) (g a n c k : Nat) (hk : k ≤ n) (hn : n ≤ c) :
    (Instr.slice 45 (.slice (some ⟨g, a, none⟩) n c) (some (.int .i64 (k : Int))) none none).run Try.prog W = .ok (.slice (some ⟨g, bof a c k, none⟩) (n - k) (c - k)) W := by
  have hz : ∀ w, (Go.sizeOf 5).run Try.prog w = .ok 1 w := fun _ => by kernel_rfl
  have he : Try.prog.elem 45 = 5 := by simp [Program.elem, Try.underlying45]
  rw [run_slice_l W 45 _ n c (by rw [he]; exact Try.underlying45) .i64 k (by omega) (by omega), he, hz]
  simp only [Result.andThen, sliced, Int.toNat_natCast, Nat.mul_one, Option.map_some, add_at']
  unfold bof
  by_cases h : c = k
  · rw [if_pos h, if_pos h]
  · rw [if_neg h, if_neg h]
/-- 'b[:k]'. -/
theorem slice_h (W : World) (g a n c k : Nat) (hk : k ≤ n) (hn : n ≤ c) :
    (Instr.slice 45 (.slice (some ⟨g, a, none⟩) n c) none (some (.int .i64 (k : Int))) none).run Try.prog W = .ok (.slice (some ⟨g, a, none⟩) k c) W := by
  have hz : ∀ w, (Go.sizeOf 5).run Try.prog w = .ok 1 w := fun _ => by kernel_rfl
  have he : Try.prog.elem 45 = 5 := by simp [Program.elem, Try.underlying45]
  rw [run_slice_h W 45 _ n c (by rw [he]; exact Try.underlying45) .i64 k (by omega) (by omega), he, hz]
  simp only [Result.andThen, sliced, Int.toNat_natCast, Nat.zero_mul, Option.map_some, add_at', Nat.sub_zero, Nat.add_zero, ite_self]
/-- 'string(b)', read. -/
theorem conv_bt {w : World} {g a n c : Nat} {l : List UInt8} (h : Bt w g a n c l) {k c' : Nat} (hk : k ≤ n) : (convert 45 9 (.slice (some ⟨g, a, none⟩) k c')).run Try.prog w = .ok (.string (st (l.take k))) w := by
  have hl := h.len
  have h1 := run_convert_bytes_back (P := Try.prog) w 45 9 5 ⟨g, a, none⟩ c' (l.take k) Try.underlying45 Try.underlying5 Try.underlying9 (fun j hj => by
    rw [List.length_take] at hj
    rw [add_at', h.cell j (by omega), List.getElem_take])
  rw [List.length_take, Nat.min_eq_left (by omega)] at h1
  exact h1
theorem nmF_some {l : List UInt8} {k : Nat} (h : nmF l = some k) : k = nmLen l ∧ 0 < k ∧ k ≤ 20 ∧ k ≤ l.length ∧ ltr (l.headD 0) = true := by
  unfold nmF at h
  split at h
  · cases h
  · rename_i hc
    injection h with h
    have := nmLen_le l
    have h3 : ltr (l.headD 0) = true := by
      cases he : ltr (l.headD 0) with
      | true => rfl
      | false => exact absurd (.inr (.inr he)) hc
    exact ⟨h.symm, by omega, by omega, by omega, h3⟩
/-- What 'name' tells. -/
def NmPost (g a n : Nat) (l : List UInt8) (w : World) (e : Ending) (w' : World) : Prop :=
  (match nmF l with
    | none => e = .returned (.tuple #[.string ⟨#[]⟩, .slice none 0 0, .bool false])
    | some k => e = .returned (.tuple #[.string (st (lows (l.take k))), .slice (some ⟨g, bof a n k, none⟩) (n - k) (n - k), .bool true])) ∧ Below w.heap.size w w'
/-- Ahead of the call, and behind it. -/
def NmC (w0 w1 : World) : Nat → World → Prop
  | 0, y => y = w1
  | _, y => Below w0.heap.size w0 y
set_option maxRecDepth 100000 in
set_option maxHeartbeats 1600000 in
theorem name_calls (g a n c : Nat) (l : List UInt8) (w : World) (hB : Bt w g a n c l) (hn : n ≤ 9223372036854775807) :
    Calls Try.prog 17 #[.slice (some ⟨g, a, none⟩) n c] w (NmPost g a n l w) := by
  have HB := Lib.hid hB
  have HLN := Lib.hid hB.len
  have HCP := Lib.hid hB.cap
  clear hB
  go_enter Try.func17, Try.ntmps17
  go_wp2_with fail
  go_loop [5] (fun iv => ∃ k : Nat, k ≤ n ∧ iv = .int .i64 (k : Int) ∧ Hid (∀ c ∈ l.take k, inN c = true)) (fun iv => n - (intOf iv).toNat)
  case atStart => exact ⟨0, by omega, rfl, Lib.hid (by simp)⟩
  case round =>
    obtain ⟨k, hk, rfl, HA⟩ := hrel
    by_cases hlt : k < n
    · have v1 : (k : Int) < (n : Int) := by omega
      have v2 : (0 : Int) ≤ (k : Int) := by omega
      obtain ⟨d, hd⟩ : ∃ d, d = l[k]'(by have := HLN.out; omega) := ⟨_, rfl⟩
      have d0 : w.cell? ⟨g, a + k, none⟩ = some (.int .u8 (d.toNat : Int)) := by rw [hd]; exact HB.out.cell k (by have := HLN.out; omega)
      have HTK := Lib.hid (show l.take (k + 1) = l.take k ++ [d] by rw [hd]; exact List.take_succ_eq_append_getElem (by have := HLN.out; omega))
      have HD := Lib.hid hd
      obtain ⟨b, hb⟩ : ∃ b, inN d = b := ⟨_, rfl⟩
      have HBD := Lib.hid hb
      have HL := Lib.hid (show Calls Try.prog 23 #[.int .u8 (d.toNat : Int)] w fun e w' => e = .returned (.bool b) ∧ w = w' by rw [← hb]; exact inName_calls d w)
      have v5 : ((d.toNat : Nat) : Int) < 256 := by have := d.toNat_lt; omega
      clear hb hd
      cases b with
      | true =>
        go_wp2_with (go_at_call 23; refine HL.out.mono ?_; rintro e w' ⟨rfl, rfl⟩)
        go_round
        case rel =>
          refine ⟨k + 1, by omega, by go_num, Lib.hid (fun c hc => ?_)⟩
          rw [HTK.out, List.mem_append] at hc
          rcases hc with h | h
          · exact HA.out c h
          · rw [List.mem_singleton] at h; rw [h]; exact HBD.out
        case measure => simp [intOf]; omega
      | false =>
        have HK := Lib.hid (show nmLen l = k from nmLen_drop HA.out (by have := HLN.out; omega) (.inr ⟨by have := HLN.out; omega, by rw [← HD.out]; exact HBD.out⟩))
        by_cases h0 : k = 0
        · have HN0 := Lib.hid (show nmF l = none from by unfold nmF; rw [if_pos (.inl (by rw [HK.out, h0]))])
          subst h0
          rw [Nat.add_zero] at d0
          clear HK
          go_wp2_with (go_at_call 23; refine HL.out.mono ?_; rintro e w' ⟨rfl, rfl⟩)
          refine bodyPost_ret (v := .tuple #[.string ⟨#[]⟩, .slice none 0 0, .bool false]) (by simp [results, Try.results17, go_sem]) rfl ⟨by rw [HN0.out], Below.refl _ _⟩
        · have w0 : ((k : Int) == 0) = false := by simp; omega
          by_cases h1 : 20 < k
          · have HN0 := Lib.hid (show nmF l = none from by unfold nmF; rw [if_pos (.inr (.inl (by rw [HK.out]; exact h1)))])
            have w1 : (20 : Int) < (k : Int) := by omega
            clear HK
            go_wp2_with (go_at_call 23; refine HL.out.mono ?_; rintro e w' ⟨rfl, rfl⟩)
            refine bodyPost_ret (v := .tuple #[.string ⟨#[]⟩, .slice none 0 0, .bool false]) (by simp [results, Try.results17, go_sem]) rfl ⟨by rw [HN0.out], Below.refl _ _⟩
          · have w1 : ¬ (20 : Int) < (k : Int) := by omega
            have hn0 : 0 < n := by omega
            obtain ⟨d2, hd2⟩ : ∃ d2, d2 = l[0]'(by have := HLN.out; omega) := ⟨_, rfl⟩
            have d3 : w.cell? ⟨g, a, none⟩ = some (.int .u8 (d2.toNat : Int)) := by rw [hd2]; exact HB.out.cell 0 (by have := HLN.out; omega)
            have HHD := Lib.hid (show l.headD 0 = d2 from by
              rw [hd2]
              have := HLN.out
              cases l with
              | nil => simp at this; omega
              | cons x l => rfl)
            obtain ⟨b2, hb2⟩ : ∃ b, ltr d2 = b := ⟨_, rfl⟩
            have HBD2 := Lib.hid hb2
            have HL2 := Lib.hid (show Calls Try.prog 24 #[.int .u8 (d2.toNat : Int)] w fun e w' => e = .returned (.bool b2) ∧ w = w' by rw [← hb2]; exact letter_calls d2 w)
            have v6 : ((d2.toNat : Nat) : Int) < 256 := by have := d2.toNat_lt; omega
            clear hb2 hd2
            cases b2 with
            | false =>
              have HN0 := Lib.hid (show nmF l = none from by unfold nmF; rw [if_pos (.inr (.inr (by rw [HHD.out]; exact HBD2.out)))])
              clear HK HHD
              go_wp2_with (first | (go_at_call 23; refine HL.out.mono ?_; rintro e w' ⟨rfl, rfl⟩) | (go_at_call 24; refine HL2.out.mono ?_; rintro e w' ⟨rfl, rfl⟩))
              refine bodyPost_ret (v := .tuple #[.string ⟨#[]⟩, .slice none 0 0, .bool false]) (by simp [results, Try.results17, go_sem]) rfl ⟨by rw [HN0.out], Below.refl _ _⟩
            | true =>
              have HN0 := Lib.hid (show nmF l = some k from by
                unfold nmF
                rw [HK.out, HHD.out, HBD2.out, if_neg (by
                  rintro (h | h | h)
                  · omega
                  · omega
                  · cases h)])
              clear HK HHD
              go_upto_region 6 with (first | (go_at_call 23; refine HL.out.mono ?_; rintro e w' ⟨rfl, rfl⟩) | (go_at_call 24; refine HL2.out.mono ?_; rintro e w' ⟨rfl, rfl⟩))
              have hC0 : NmC w w.drew 0 w.drew := rfl
              have ne : Nonempty (Mix.Wd (NmC w w.drew) 0) := ⟨⟨w.drew, 0, Nat.le_refl _, hC0⟩⟩
              have ne0 : Nonempty (Mix.Wx (NmC w w.drew) 0 0) := ⟨⟨w.drew, 0, Nat.le_refl _, Nat.le_refl _, hC0⟩⟩
              have hsh : ∀ W : World, _ = Result.ok _ W := fun W => slice_h W g a n c k (by omega) HCP.out
              have hsl : ∀ W : World, _ = Result.ok _ W := fun W => slice_lhm W g a n c k (by omega) HCP.out
              have hcv : ∀ x : Mix.Wx (NmC w w.drew) 0 0, (convert 45 9 (.slice (some ⟨g, a, none⟩) k c)).run Try.prog x.1 = .ok (.string (st (l.take k))) x.1 := fun x => by
                obtain ⟨y, i, h1, h2, h3⟩ := x
                obtain rfl : i = 0 := by omega
                have h3' : y = w.drew := h3
                subst h3'
                exact conv_bt (w := w.drew) (HB.out.keep rfl) (by omega)
              have hltk : (l.take k).length = k := by rw [List.length_take]; have := HLN.out; omega
              have HLT := Lib.hid hltk
              clear hltk
              refine Mix.wp_region_mix (C := NmC w w.drew) [4] (by kernel_rfl) (by kernel_rfl) hC0 ?_
              iterate 3 (refine Mix.mix_still (by decide) (fun K hK => ?_); go_simp; refine hK _ ?_; clear hK K)
              (refine Mix.mix_in 0 0 (by decide) (by kernel_rfl) (fun K hK => ?_); go_simp; refine hK _ ?_; clear hK K)
              refine Mix.mix_turn (by decide) (fun K hK => ?_)
              go_simp
              refine ⟨_, fun y hy => (lower_calls (st (l.take k)) y (by show (l.take k).toArray.size ≤ 600000; rw [List.size_toArray, HLT.out]; omega)).mono fun e w' h => ⟨h.1, by have hy' : y = w.drew := hy; rw [hy'] at h; exact Below.trans (b := w.drew) ⟨rfl, rfl, rfl, Nat.le_refl _, fun _ _ => rfl⟩ h.2⟩, hK _ ?_⟩
              clear hK K
              iterate 10 (refine Mix.mix_still (by decide) (fun K hK => ?_); go_simp; refine hK _ ?_; clear hK K)
              refine Mix.mix_nil ?_
              intro w6 hw6
              have HW6 := Lib.hid (show Below w.heap.size w w6 from hw6)
              clear hw6 ne ne0 hC0 hcv hsh hsl
              show Exit.then _ _ _ _ w6
              go_wp2_with fail
              refine bodyPost_ret (v := .tuple #[.string (st (lows (st (l.take k)).data.toList)), .slice (some ⟨g, bof a n k, none⟩) (n - k) (n - k), .bool true]) (by simp [results, Try.results17, go_sem]) rfl ⟨by rw [HN0.out]; rfl, HW6.out⟩
    · have v1 : ¬ (k : Int) < (n : Int) := by omega
      have HK := Lib.hid (show nmLen l = k from nmLen_drop HA.out (by have := HLN.out; omega) (.inl (by have := HLN.out; omega)))
      by_cases h0 : k = 0
      · have HN0 := Lib.hid (show nmF l = none from by unfold nmF; rw [if_pos (.inl (by rw [HK.out, h0]))])
        subst h0
        clear HK
        go_wp2_with fail
        refine bodyPost_ret (v := .tuple #[.string ⟨#[]⟩, .slice none 0 0, .bool false]) (by simp [results, Try.results17, go_sem]) rfl ⟨by rw [HN0.out], Below.refl _ _⟩
      · have w0 : ((k : Int) == 0) = false := by simp; omega
        by_cases h1 : 20 < k
        · have HN0 := Lib.hid (show nmF l = none from by unfold nmF; rw [if_pos (.inr (.inl (by rw [HK.out]; exact h1)))])
          have w1 : (20 : Int) < (k : Int) := by omega
          clear HK
          go_wp2_with fail
          refine bodyPost_ret (v := .tuple #[.string ⟨#[]⟩, .slice none 0 0, .bool false]) (by simp [results, Try.results17, go_sem]) rfl ⟨by rw [HN0.out], Below.refl _ _⟩
        · have w1 : ¬ (20 : Int) < (k : Int) := by omega
          have hn0 : 0 < n := by omega
          obtain ⟨d2, hd2⟩ : ∃ d2, d2 = l[0]'(by have := HLN.out; omega) := ⟨_, rfl⟩
          have d3 : w.cell? ⟨g, a, none⟩ = some (.int .u8 (d2.toNat : Int)) := by rw [hd2]; exact HB.out.cell 0 (by have := HLN.out; omega)
          have HHD := Lib.hid (show l.headD 0 = d2 from by
            rw [hd2]
            have := HLN.out
            cases l with
            | nil => simp at this; omega
            | cons x l => rfl)
          obtain ⟨b2, hb2⟩ : ∃ b, ltr d2 = b := ⟨_, rfl⟩
          have HBD2 := Lib.hid hb2
          have HL2 := Lib.hid (show Calls Try.prog 24 #[.int .u8 (d2.toNat : Int)] w fun e w' => e = .returned (.bool b2) ∧ w = w' by rw [← hb2]; exact letter_calls d2 w)
          have v6 : ((d2.toNat : Nat) : Int) < 256 := by have := d2.toNat_lt; omega
          clear hb2 hd2
          cases b2 with
          | false =>
            have HN0 := Lib.hid (show nmF l = none from by unfold nmF; rw [if_pos (.inr (.inr (by rw [HHD.out]; exact HBD2.out)))])
            clear HK HHD
            go_wp2_with (go_at_call 24; refine HL2.out.mono ?_; rintro e w' ⟨rfl, rfl⟩)
            refine bodyPost_ret (v := .tuple #[.string ⟨#[]⟩, .slice none 0 0, .bool false]) (by simp [results, Try.results17, go_sem]) rfl ⟨by rw [HN0.out], Below.refl _ _⟩
          | true =>
            have HN0 := Lib.hid (show nmF l = some k from by
              unfold nmF
              rw [HK.out, HHD.out, HBD2.out, if_neg (by
                rintro (h | h | h)
                · omega
                · omega
                · cases h)])
            clear HK HHD
            go_upto_region 6 with (go_at_call 24; refine HL2.out.mono ?_; rintro e w' ⟨rfl, rfl⟩)
            have hC0 : NmC w w.drew 0 w.drew := rfl
            have ne : Nonempty (Mix.Wd (NmC w w.drew) 0) := ⟨⟨w.drew, 0, Nat.le_refl _, hC0⟩⟩
            have ne0 : Nonempty (Mix.Wx (NmC w w.drew) 0 0) := ⟨⟨w.drew, 0, Nat.le_refl _, Nat.le_refl _, hC0⟩⟩
            have hsh : ∀ W : World, _ = Result.ok _ W := fun W => slice_h W g a n c k (by omega) HCP.out
            have hsl : ∀ W : World, _ = Result.ok _ W := fun W => slice_lhm W g a n c k (by omega) HCP.out
            have hcv : ∀ x : Mix.Wx (NmC w w.drew) 0 0, (convert 45 9 (.slice (some ⟨g, a, none⟩) k c)).run Try.prog x.1 = .ok (.string (st (l.take k))) x.1 := fun x => by
              obtain ⟨y, i, h1, h2, h3⟩ := x
              obtain rfl : i = 0 := by omega
              have h3' : y = w.drew := h3
              subst h3'
              exact conv_bt (w := w.drew) (HB.out.keep rfl) (by omega)
            have hltk : (l.take k).length = k := by rw [List.length_take]; have := HLN.out; omega
            have HLT := Lib.hid hltk
            clear hltk
            refine Mix.wp_region_mix (C := NmC w w.drew) [4] (by kernel_rfl) (by kernel_rfl) hC0 ?_
            iterate 3 (refine Mix.mix_still (by decide) (fun K hK => ?_); go_simp; refine hK _ ?_; clear hK K)
            (refine Mix.mix_in 0 0 (by decide) (by kernel_rfl) (fun K hK => ?_); go_simp; refine hK _ ?_; clear hK K)
            refine Mix.mix_turn (by decide) (fun K hK => ?_)
            go_simp
            refine ⟨_, fun y hy => (lower_calls (st (l.take k)) y (by show (l.take k).toArray.size ≤ 600000; rw [List.size_toArray, HLT.out]; omega)).mono fun e w' h => ⟨h.1, by have hy' : y = w.drew := hy; rw [hy'] at h; exact Below.trans (b := w.drew) ⟨rfl, rfl, rfl, Nat.le_refl _, fun _ _ => rfl⟩ h.2⟩, hK _ ?_⟩
            clear hK K
            iterate 10 (refine Mix.mix_still (by decide) (fun K hK => ?_); go_simp; refine hK _ ?_; clear hK K)
            refine Mix.mix_nil ?_
            intro w6 hw6
            have HW6 := Lib.hid (show Below w.heap.size w w6 from hw6)
            clear hw6 ne ne0 hC0 hcv hsh hsl
            show Exit.then _ _ _ _ w6
            go_wp2_with fail
            refine bodyPost_ret (v := .tuple #[.string (st (lows (st (l.take k)).data.toList)), .slice (some ⟨g, bof a n k, none⟩) (n - k) (n - k), .bool true]) (by simp [results, Try.results17, go_sem]) rfl ⟨by rw [HN0.out]; rfl, HW6.out⟩
/-- How many that pass stand first. -/
theorem twl {p : UInt8 → Bool} {l : List UInt8} {n : Nat} (h : ∀ c ∈ l.take n, p c = true) (hn : n ≤ l.length) (hs : n = l.length ∨ ∃ h : n < l.length, p l[n] = false) : (l.takeWhile p).length = n := by
  induction l generalizing n with
  | nil => simp at hn; simp [hn]
  | cons c l ih =>
    cases n with
    | zero =>
      rcases hs with h0 | ⟨h0, h1⟩
      · simp at h0
      · simp at h1; simp [List.takeWhile_cons, h1]
    | succ n =>
      have h1 := h c (by simp)
      rw [List.takeWhile_cons, if_pos h1, List.length_cons, ih (n := n) (fun d hd => h d (by simp [hd])) (by simpa using hn) ?_]
      rcases hs with h0 | ⟨h0, h2⟩
      · left; simpa using h0
      · right; exact ⟨by simpa using h0, by simpa using h2⟩
/-- A blank. -/
def bl (c : UInt8) : Bool := decide (c.toNat = 32) || decide (c.toNat = 9) || decide (c.toNat = 10) || decide (c.toNat = 13)
def spLen (l : List UInt8) : Nat := (l.takeWhile bl).length
theorem spLen_le (l : List UInt8) : spLen l ≤ l.length := (List.takeWhile_prefix _).length_le
theorem bl_idx (c : UInt8) : (bl c = true → 0 ≤ Lib.indexByte [32, 9, 10, 13] c) ∧ (bl c = false → Lib.indexByte [32, 9, 10, 13] c = -1) := by
  have h : ∀ n : Fin 256, (bl (UInt8.ofNat n.val) = true → 0 ≤ Lib.indexByte [32, 9, 10, 13] (UInt8.ofNat n.val)) ∧ (bl (UInt8.ofNat n.val) = false → Lib.indexByte [32, 9, 10, 13] (UInt8.ofNat n.val) = -1) := by decide +kernel
  have := h ⟨c.toNat, c.toNat_lt⟩
  simpa using this
set_option maxRecDepth 100000 in
set_option maxHeartbeats 1600000 in
theorem sidx_calls (s : ByteArray) (c : Int) (w : World) :
    Calls Try.prog 49 #[.string s, .int .u8 c] w fun e w' => e = .returned (.int .i64 (Lib.indexByte s.data.toList c.toNat.toUInt8)) ∧ w = w' := by
  go_enter Try.func49, Try.ntmps49
  go_wp2_with fail
  rw [run_callFunc_extern Try.func62 (by kernel_rfl) (by kernel_rfl) (by kernel_rfl) (e := Extern.BytealgIndexByte.indexByte) (by kernel_rfl), Lib.run_indexByteString]
  simp only [Result.andThen]
  rw [Oper.upon_value]
  go_wp2_with fail
  go_ret
  exact ⟨rfl, rfl⟩
set_option maxHeartbeats 1600000 in
theorem idx_calls (s : ByteArray) (c : Int) (w : World) :
    Calls Try.prog 39 #[.string s, .int .u8 c] w fun e w' => e = .returned (.int .i64 (Lib.indexByte s.data.toList c.toNat.toUInt8)) ∧ w = w' := by
  go_enter Try.func39, Try.ntmps39
  go_wp2_with (go_at_call 49; refine (sidx_calls _ _ _).mono ?_; rintro e w' ⟨rfl, rfl⟩)
  go_ret
  exact ⟨rfl, rfl⟩
/-- What 'space' tells. -/
def SpPost (g a n : Nat) (l : List UInt8) (w : World) (e : Ending) (w' : World) : Prop :=
  e = .returned (.tuple #[.slice (some ⟨g, bof a n (spLen l), none⟩) (n - spLen l) (n - spLen l), .bool (decide (0 < spLen l))]) ∧ w = w'
set_option maxRecDepth 100000 in
set_option maxHeartbeats 1600000 in
theorem space_calls (g a n c : Nat) (l : List UInt8) (w : World) (hB : Bt w g a n c l) (hn : n ≤ 600000) :
    Calls Try.prog 29 #[.slice (some ⟨g, a, none⟩) n c] w (SpPost g a n l w) := by
  have HB := Lib.hid hB
  have HLN := Lib.hid hB.len
  have HCP := Lib.hid hB.cap
  clear hB
  go_enter Try.func29, Try.ntmps29
  go_wp2_with fail
  go_loop [4] (fun iv => ∃ k : Nat, k ≤ n ∧ iv = .int .i64 (k : Int) ∧ Hid (∀ c ∈ l.take k, bl c = true)) (fun iv => n - (intOf iv).toNat)
  case atStart => exact ⟨0, by omega, rfl, Lib.hid (by simp)⟩
  case round =>
    obtain ⟨k, hk, rfl, HA⟩ := hrel
    have hsl : ∀ W : World, _ = Result.ok _ W := fun W => slice_lhm W g a n c k (by omega) HCP.out
    have hfin : spLen l = k → SpPost g a n l w (.returned (.tuple #[.slice (some ⟨g, bof a n k, none⟩) (n - k) (n - k), .bool (decide ((k : Int) > 0))])) w := fun h => by
      unfold SpPost
      rw [h, show decide ((k : Int) > 0) = decide (0 < k) by rw [decide_eq_decide]; omega]
      exact ⟨rfl, rfl⟩
    have HF := Lib.hid hfin
    clear hfin
    by_cases hlt : k < n
    · have v1 : (k : Int) < (n : Int) := by omega
      have v2 : (0 : Int) ≤ (k : Int) := by omega
      obtain ⟨d, hd⟩ : ∃ d, d = l[k]'(by have := HLN.out; omega) := ⟨_, rfl⟩
      have d0 : w.cell? ⟨g, a + k, none⟩ = some (.int .u8 (d.toNat : Int)) := by rw [hd]; exact HB.out.cell k (by have := HLN.out; omega)
      have HTK := Lib.hid (show l.take (k + 1) = l.take k ++ [d] by rw [hd]; exact List.take_succ_eq_append_getElem (by have := HLN.out; omega))
      have HD := Lib.hid hd
      have hbi := bl_idx d
      obtain ⟨x, hx⟩ : ∃ x, Lib.indexByte [32, 9, 10, 13] d = x := ⟨_, rfl⟩
      rw [hx] at hbi
      have HL := Lib.hid (show Calls Try.prog 39 #[.string ⟨#[32, 9, 10, 13]⟩, .int .u8 (d.toNat : Int)] w fun e w' => e = .returned (.int .i64 x) ∧ w = w' by
        have h := idx_calls ⟨#[32, 9, 10, 13]⟩ (d.toNat : Int) w
        have e1 : ((d.toNat : Int).toNat).toUInt8 = d := by simp
        rw [e1, show (⟨#[32, 9, 10, 13]⟩ : ByteArray).data.toList = [32, 9, 10, 13] from rfl, hx] at h
        exact h)
      obtain ⟨b, hb⟩ : ∃ b, bl d = b := ⟨_, rfl⟩
      have HBD := Lib.hid hb
      have v5 : ((d.toNat : Nat) : Int) < 256 := by have := d.toNat_lt; omega
      cases b with
      | true =>
        have v6 : 0 ≤ x := hbi.1 hb
        clear hb hd hbi hx
        go_wp2_with (go_at_call 39; refine HL.out.mono ?_; rintro e w' ⟨rfl, rfl⟩)
        go_round
        case rel =>
          refine ⟨k + 1, by omega, by go_num, Lib.hid (fun c hc => ?_)⟩
          rw [HTK.out, List.mem_append] at hc
          rcases hc with h | h
          · exact HA.out c h
          · rw [List.mem_singleton] at h; rw [h]; exact HBD.out
        case measure => simp [intOf]; omega
      | false =>
        have v6 : x = -1 := hbi.2 hb
        subst v6
        have HK := Lib.hid (show spLen l = k from twl HA.out (by have := HLN.out; omega) (.inr ⟨by have := HLN.out; omega, by rw [← HD.out]; exact HBD.out⟩))
        clear hb hd hbi hx
        go_wp2_with (go_at_call 39; refine HL.out.mono ?_; rintro e w' ⟨rfl, rfl⟩)
        refine bodyPost_ret (v := .tuple #[.slice (some ⟨g, bof a n k, none⟩) (n - k) (n - k), .bool (decide ((k : Int) > 0))]) (by simp [results, Try.results29, go_sem]) rfl (HF.out HK.out)
    · have v1 : ¬ (k : Int) < (n : Int) := by omega
      have HK := Lib.hid (show spLen l = k from twl HA.out (by have := HLN.out; omega) (.inl (by have := HLN.out; omega)))
      go_wp2_with fail
      refine bodyPost_ret (v := .tuple #[.slice (some ⟨g, bof a n k, none⟩) (n - k) (n - k), .bool (decide ((k : Int) > 0))]) (by simp [results, Try.results29, go_sem]) rfl (HF.out HK.out)
end Go.Proofs.Ytkjgnkmnngaioaa.Q
