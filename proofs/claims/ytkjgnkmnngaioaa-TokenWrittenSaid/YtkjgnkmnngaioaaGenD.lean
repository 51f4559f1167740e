/- What 'strings.makeGenericReplacer' makes of the four signs that a text may hold: plain words. -/
import Derived.Test.YtkjgnkmnngaioaaTrie
import Derived.Deep.MidRow
namespace Go.Proofs.Ytkjgnkmnngaioaa.Q
open Go.RowKit Go.IntWalk Go.Proofs.Ytkjgnkmnngaioaa.Mem
set_option linter.unusedVariables false
set_option linter.unusedSimpArgs false

/-- The replacer's block: the root, the tables' size, the mapping. -/
def GB (tb : Value) (ts : Int) (mp : List Int) : Array Value := (([.string em, .int .i64 0, .string em, .pointer none, tb, .int .i64 ts] : List Value) ++ mp.map fun x => Value.int .u8 x).toArray
theorem gb_map {tb : Value} {ts : Int} {mp : List Int} {c : Nat} (h : c < mp.length) : (GB tb ts mp)[6 + c]? = some (.int .u8 (mp.getD c 0)) := by
  unfold GB
  rw [List.getElem?_toArray, List.getElem?_append_right (by simp), List.getElem?_map]
  simp [List.getElem?_eq_getElem h, List.getD_eq_getElem?_getD]
theorem gb_set {tb : Value} {ts : Int} {mp : List Int} {c : Nat} (x : Int) : (GB tb ts mp).setIfInBounds (6 + c) (.int .u8 x) = GB tb ts (mp.set c x) := by
  unfold GB
  rw [List.setIfInBounds_toArray, List.set_append_right _ _ (by simp), List.map_set]
  simp
theorem gb_ts {tb : Value} {ts ts' : Int} {mp : List Int} : (GB tb ts mp).setIfInBounds 5 (.int .i64 ts') = GB tb ts' mp := by
  unfold GB; simp
theorem gb_tb {tb tb' : Value} {ts : Int} {mp : List Int} : (GB tb ts mp).setIfInBounds 4 tb' = GB tb' ts mp := by
  unfold GB; simp
theorem gb_1 {tb : Value} {ts : Int} {mp : List Int} : (GB tb ts mp)[1]? = some (.int .i64 0) := rfl
theorem gb_2 {tb : Value} {ts : Int} {mp : List Int} : (GB tb ts mp)[2]? = some (.string em) := rfl
theorem gb_4 {tb : Value} {ts : Int} {mp : List Int} : (GB tb ts mp)[4]? = some tb := rfl
theorem gb_5 {tb : Value} {ts : Int} {mp : List Int} : (GB tb ts mp)[5]? = some (.int .i64 ts) := rfl
theorem gb_zero : Try.zeroCells112 = GB (.slice none 0 0) 0 (List.replicate 256 0) := by kernel_rfl

def KS : List ByteArray := [⟨#[38, 108, 116, 59]⟩, ⟨#[38, 103, 116, 59]⟩, ⟨#[38, 97, 109, 112, 59]⟩, ⟨#[38, 113, 117, 111, 116, 59]⟩]
def VS : List ByteArray := [⟨#[60]⟩, ⟨#[62]⟩, ⟨#[38]⟩, ⟨#[34]⟩]
def ks (i : Nat) : ByteArray := KS.getD i em
def vs (i : Nat) : ByteArray := VS.getD i em
def marks (l : List UInt8) : List Int := l.foldl (fun M c => M.set c.toNat 1) (List.replicate 256 0)
theorem marks_len (l : List UInt8) : (marks l).length = 256 := by
  have : ∀ (l : List UInt8) (M : List Int), M.length = 256 → (l.foldl (fun M c => M.set c.toNat 1) M).length = 256 := by
    intro l
    induction l with
    | nil => intro M h; exact h
    | cons c r ih => intro M h; exact ih _ (by simpa using h)
  exact this l _ List.length_replicate
theorem marks_snoc (l : List UInt8) (c : UInt8) : marks (l ++ [c]) = (marks l).set c.toNat 1 := by unfold marks; rw [List.foldl_append]; rfl
/-- The bytes of the first keys. -/
def kbs (a : Nat) : List UInt8 := ((KS.take a).map fun k => k.data.toList).flatten
theorem kbs_succ {a : Nat} (h : a < 4) : kbs (a + 1) = kbs a ++ (ks a).data.toList := by
  have : a = 0 ∨ a = 1 ∨ a = 2 ∨ a = 3 := by omega
  rcases this with rfl | rfl | rfl | rfl <;> rfl

theorem gb_range {w : World} {g : Nat} {tb : Value} {ts : Int} {M : List Int} {T : TypeId} (h : Blk w g (GB tb ts M) T) : w.rangeAt g 6 (M.map fun x => Value.int .u8 x) := fun j v hv => by
  rw [h.cell (6 + j)]
  have hj : j < M.length := by have := (List.getElem?_eq_some_iff.1 hv).1; simpa using this
  rw [gb_map hj, ← hv, List.getElem?_map, List.getElem?_eq_getElem hj, List.getD_eq_getElem?_getD, List.getElem?_eq_getElem hj]
  rfl
/-- How many there are. -/
def sm (M : List Int) (k : Nat) : Int := (M.take k).foldl (· + ·) 0
theorem idx_agg (AM : Array Value) (k : Nat) (v : Value) (hk : k < 256) (h : AM[k]? = some v) (w : World) : (Instr.index 87 (.agg AM) (.int .i64 k)).run Try.prog w = .ok v w := by
  have h1 : (0 : Int) ≤ (k : Int) ∧ (k : Int) < 256 := by omega
  have hs : (sizeOf 5).run Try.prog w = .ok 1 w := by kernel_rfl
  have hu : (underlying 87).run Try.prog w = .ok (.array 256 5) w := by kernel_rfl
  unfold Instr.index
  simp [Sem.run_bind, hs, hu, h1, part, go_sem, h]
  intro h; omega
theorem sm_succ {M : List Int} {k : Nat} (h : k < M.length) : sm M (k + 1) = sm M k + M.getD k 0 := by
  unfold sm
  rw [List.take_succ_eq_append_getElem h, List.foldl_append, List.getD_eq_getElem?_getD, List.getElem?_eq_getElem h]
  rfl
def B01 (M : List Int) : Prop := ∀ k, M.getD k 0 = 0 ∨ M.getD k 0 = 1
theorem marks_01 (l : List UInt8) : B01 (marks l) := by
  have : ∀ (l : List UInt8) (M : List Int), B01 M → B01 (l.foldl (fun M c => M.set c.toNat 1) M) := by
    intro l
    induction l with
    | nil => intro M h; exact h
    | cons c r ih =>
      intro M h
      refine ih _ (fun k => ?_)
      rw [List.getD_eq_getElem?_getD, List.getElem?_set]
      split
      · split
        · exact .inr rfl
        · exact .inl rfl
      · have := h k; rwa [List.getD_eq_getElem?_getD] at this
  refine this l _ (fun k => .inl ?_)
  rw [List.getD_eq_getElem?_getD, List.getElem?_replicate]
  split <;> rfl
theorem sm_le {M : List Int} (h : B01 M) : ∀ k, k ≤ M.length → 0 ≤ sm M k ∧ sm M k ≤ k
  | 0, _ => by simp [sm]
  | k + 1, hk => by
    have ih := sm_le h k (by omega)
    rw [sm_succ (by omega)]
    have := h k
    omega
theorem sm_mono {M : List Int} (h : B01 M) {k : Nat} : ∀ {n : Nat}, k ≤ n → n ≤ M.length → sm M k ≤ sm M n
  | 0, h1, _ => by obtain rfl : k = 0 := by omega
                   exact Int.le_refl _
  | n + 1, h1, h2 => by
    rcases Nat.lt_or_ge n k with h3 | h3
    · obtain rfl : k = n + 1 := by omega
      exact Int.le_refl _
    · have := sm_mono h (k := k) (n := n) h3 (by omega)
      rw [sm_succ (by omega)]
      have := h n
      omega
/-- The mapping, so far. -/
def mp2 (M : List Int) (k : Nat) : List Int := (List.range 256).map fun i => if i < k then (if M.getD i 0 = 0 then 11 else sm M i) else M.getD i 0
theorem mp2_len (M : List Int) (k : Nat) : (mp2 M k).length = 256 := by unfold mp2; rw [List.length_map, List.length_range]
theorem mp2_zero {M : List Int} (h : M.length = 256) : mp2 M 0 = M := by
  apply List.ext_getElem (by rw [mp2_len, h])
  intro i h1 h2
  unfold mp2
  simp [List.getD_eq_getElem?_getD, List.getElem?_eq_getElem h2]
theorem mp2_get (M : List Int) (k i : Nat) : (mp2 M k)[i]? = if i < 256 then some (if i < k then (if M.getD i 0 = 0 then 11 else sm M i) else M.getD i 0) else none := by
  unfold mp2
  rw [List.getElem?_map]
  by_cases h : i < 256
  · rw [if_pos h, List.getElem?_range h]; rfl
  · rw [if_neg h, List.getElem?_eq_none (by rw [List.length_range]; omega)]; rfl
theorem mp2_succ {M : List Int} {k : Nat} (h : k < 256) : mp2 M (k + 1) = (mp2 M k).set k (if M.getD k 0 = 0 then 11 else sm M k) := by
  apply List.ext_getElem?
  intro i
  rw [List.getElem?_set, mp2_get, mp2_get, mp2_len]
  by_cases hk : k = i
  · subst hk
    rw [if_pos h, if_pos (by omega), if_pos rfl, if_pos h]
  · rw [if_neg hk]
    by_cases h2 : i < 256
    · rw [if_pos h2, if_pos h2]
      by_cases h3 : i < k
      · rw [if_pos (by omega), if_pos h3]
      · rw [if_neg (by omega), if_neg h3]
    · rw [if_neg h2, if_neg h2]
theorem mp2_at {M : List Int} {k : Nat} (h : k < 256) : (mp2 M k).getD k 0 = M.getD k 0 := by
  rw [List.getD_eq_getElem?_getD, List.getElem?_eq_getElem (by rw [mp2_len]; exact h)]
  unfold mp2
  simp
/-- The mapping. -/
def MP : List Int := mp2 (marks (kbs 4)) 256
theorem mp_def : MP = mp2 (marks (kbs 4)) 256 := rfl
theorem marks_11 : sm (marks (kbs 4)) 256 = 11 := by decide +kernel
theorem ks_size {a : Nat} (h : a < 4) : (ks a).size ≤ 1000 := by
  have : a = 0 ∨ a = 1 ∨ a = 2 ∨ a = 3 := by omega
  rcases this with rfl | rfl | rfl | rfl <;> decide
theorem take_snoc' {s : ByteArray} {k : Nat} (h : k < s.size) : s.data.toList.take (k + 1) = s.data.toList.take k ++ [s[k]] := by
  rw [List.take_succ_eq_append_getElem (by simpa using h)]; rfl
end Go.Proofs.Ytkjgnkmnngaioaa.Q
