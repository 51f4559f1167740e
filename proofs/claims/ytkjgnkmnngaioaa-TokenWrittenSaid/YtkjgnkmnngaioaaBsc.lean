/- A replacer of single bytes, once; counting; plain words of signing. -/
import Derived.Test.YtkjgnkmnngaioaaBs
import Derived.Lib.Bytealg
/- strings.Replacer of single bytes: built, once. -/
namespace Go.Proofs.Ytkjgnkmnngaioaa.Q
open Go.RowKit Go.IntWalk Go.Proofs.Ytkjgnkmnngaioaa.Mem
set_option linter.unusedVariables false
set_option linter.unusedSimpArgs false

theorem Bs.keep {q base np b : Nat} {W W' : World} {cs : Array Value} (h : Bs q base np W) (hb : Blk W b cs 70) (hk : ∀ g, g < W.heap.size → g ≠ b → W'.heap[g]? = W.heap[g]?) : Bs q base np W' := by
  obtain ⟨f, tr, hs⟩ := h
  unfold Blk at hb
  have hlt : ∀ g (o : Obj), W.heap[g]? = some o → g < W.heap.size := fun g o h => by
    rcases Nat.lt_or_ge g W.heap.size with h1 | h1
    · exact h1
    · rw [Array.getElem?_eq_none h1] at h; cases h
  have hq := hs.blk
  unfold Blk at hq
  refine ⟨f, tr, hs.blk.of_block (hk q hs.blk.lt (fun e => by subst e; rw [hb] at hq; cases hq)), own_keep hs.own (fun g cur h => hk g (hlt g _ h) (fun e => by subst e; rw [hb] at h; cases h)), fun a h1 h2 => (hs.done a h1 h2).keep (fun g cur fz h => hk g (hlt g _ h) (fun e => by subst e; rw [hb] at h; cases h)), hs.rest, hs.ge⟩
/-- What buildOnce leaves. -/
structure BsBuilt (b np base q : Nat) (w w' : World) : Prop where
  rep : ∃ c4, Blk w' b (RB 0 1 (.iface 93 (.pointer (some ⟨q, 0, none⟩))) c4) 70
  bs : Bs q base np w'
  but : But b w w'
set_option maxRecDepth 100000 in
set_option maxHeartbeats 1600000 in
theorem bs_once (b ob c m np : Nat) (w : World) (hm : m = 2 * np) (hnp : np = 3 ∨ np = 4) (hB : Blk w b (RB 0 1 .nilIface (.slice (some ⟨ob, 0, none⟩) m c)) 70) (hob : ob ≠ b) (hK : ∀ a, a < np → w.cell? ⟨ob, 2 * a, none⟩ = some (.string (os a)) ∧ w.cell? ⟨ob, 2 * a + 1, none⟩ = some (.string (ns a))) :
    Calls Try.prog 20 #[.pointer (some ⟨b, 0, none⟩)] w fun e w' => e = .returned (.tuple #[]) ∧ ∃ q, BsBuilt b np w.heap.size q w w' := by
  have HK := Lib.hid hK
  have HB := Lib.hid hB
  have HM := Lib.hid hm
  have HNP := Lib.hid hnp
  clear hK hB hm hnp
  go_enter Try.func20, Try.ntmps20
  go_wp2_with (go_at_call 28; refine (bs_build b ob c m np _ HM.out HNP.out (HB.out.cell 4) HK.out).mono ?_; rintro e w1 ⟨q, rfl, ht, hb⟩; have HT := Lib.hid ht; have HW := Lib.hid hb; have HB1 := Lib.hid (HB.out.below hb HB.out.lt); have c3 := HB1.out.cell 3; have c4 := HB1.out.cell 4; have f3 := HB1.out.free 3; have f4 := HB1.out.free 4; simp only [List.getElem?_toArray, List.getElem?_cons_zero, List.getElem?_cons_succ] at c3 c4; clear ht hb)
  first | go_end0 | refine bodyPost_ret (results_none rfl _ _ _) rfl ?_
  have hb1 := HB1.out
  refine ⟨rfl, q, ⟨_, (hb1.set 3 _).set 4 _⟩, HT.out.keep hb1 (fun j h1 h2 => (Below.heap_setCell _ _ _ _ h2).trans (Below.heap_setCell _ _ _ _ h2)), ?_⟩
  exact ((But.of_below HW.out).setCell 3 _).setCell 4 _
end Go.Proofs.Ytkjgnkmnngaioaa.Q

/- strings.Count of one byte. -/
namespace Go.Proofs.Ytkjgnkmnngaioaa.Q
open Go.RowKit Go.IntWalk Go.Proofs.Ytkjgnkmnngaioaa.Mem
set_option linter.unusedVariables false
set_option linter.unusedSimpArgs false
set_option maxRecDepth 100000 in
set_option maxHeartbeats 1600000 in
theorem count_calls (s : ByteArray) (c : UInt8) (w : World) :
    Calls Try.prog 109 #[.string s, .string ⟨#[c]⟩] w fun e w' => e = .returned (.int .i64 (Lib.countByte s.data.toList c)) ∧ w' = w := by
  go_enter Try.func109, Try.ntmps109
  go_wp2_with fail
  rw [run_callFunc_extern Try.func111 (by kernel_rfl) (by kernel_rfl) (by kernel_rfl) (e := Extern.BytealgCount.count) (by kernel_rfl), Lib.run_countString]
  simp only [Result.andThen]
  rw [Oper.upon_value]
  go_wp2_with fail
  go_ret
  exact ⟨by simp; rfl, rfl⟩
end Go.Proofs.Ytkjgnkmnngaioaa.Q

/- What a text is when single bytes are replaced: plain words. -/
namespace Go.Proofs.Ytkjgnkmnngaioaa.Q
set_option linter.unusedVariables false
set_option linter.unusedSimpArgs false

/-- What one byte is replaced by. -/
def sg (np : Nat) (c : UInt8) : List UInt8 := match (List.range np).find? (fun a => oby a == c.toNat) with
  | some a => (ns a).data.toList
  | none => [c]
def signF (np : Nat) (s : List UInt8) : List UInt8 := s.flatMap (sg np)
theorem sg_some {np a : Nat} {c : UInt8} (hnp : np ≤ 4) (ha : a < np) (h : c.toNat = oby a) : sg np c = (ns a).data.toList := by
  unfold sg
  cases hf : (List.range np).find? (fun a => oby a == c.toNat) with
  | none =>
    rw [List.find?_eq_none] at hf
    exact absurd (by simp [h]) (hf a (List.mem_range.2 ha))
  | some a' =>
    have h1 := List.find?_some hf
    have h2 := List.mem_of_find?_eq_some hf
    rw [List.mem_range] at h2
    have h3 : oby a' = oby a := by rw [← h]; simpa using h1
    rw [ob_inj (by omega) (by omega) h3]
theorem sg_none {np : Nat} {c : UInt8} (h : ∀ a, a < np → c.toNat ≠ oby a) : sg np c = [c] := by
  unfold sg
  rw [List.find?_eq_none.2 (fun a ha => by
    rw [List.mem_range] at ha
    have := h a ha
    simp
    exact fun e => this e.symm)]
theorem signF_succ {np i : Nat} {l : List UInt8} (h : i < l.length) : signF np (l.take (i + 1)) = signF np (l.take i) ++ sg np l[i] := by
  unfold signF
  rw [List.take_succ_eq_append_getElem h, List.flatMap_append]
  simp
/-- What the counts of the last `k` bytes add. -/
def wsum (np : Nat) (l : List UInt8) : Nat → Nat
  | 0 => 0
  | k + 1 => wsum np l k + Lib.countByte l (oby (np - 1 - k)).toUInt8 * ((ns (np - 1 - k)).size - 1)
theorem wsum_three (l : List UInt8) : wsum 3 l 3 = Lib.countByte l 62 * 3 + Lib.countByte l 60 * 3 + Lib.countByte l 38 * 4 := by
  show 0 + Lib.countByte l 62 * 3 + Lib.countByte l 60 * 3 + Lib.countByte l 38 * 4 = _
  omega
theorem wsum_four (l : List UInt8) : wsum 4 l 4 = Lib.countByte l 34 * 5 + Lib.countByte l 62 * 3 + Lib.countByte l 60 * 3 + Lib.countByte l 38 * 4 := by
  show 0 + Lib.countByte l 34 * 5 + Lib.countByte l 62 * 3 + Lib.countByte l 60 * 3 + Lib.countByte l 38 * 4 = _
  omega
theorem cb_cons (c x : UInt8) (l : List UInt8) : Lib.countByte (c :: l) x = Lib.countByte l x + if c = x then 1 else 0 := by
  unfold Lib.countByte
  rw [List.count_cons]
  simp
theorem sg_len3 (c : UInt8) : (sg 3 c).length = 1 + (if c = 62 then 3 else 0) + (if c = 60 then 3 else 0) + (if c = 38 then 4 else 0) := by
  by_cases h1 : c = 62
  · subst h1; rfl
  by_cases h2 : c = 60
  · subst h2; rfl
  by_cases h3 : c = 38
  · subst h3; rfl
  rw [sg_none (fun a ha e => by
    have h : a = 0 ∨ a = 1 ∨ a = 2 := by omega
    rcases h with rfl | rfl | rfl
    · exact h3 (UInt8.toNat_inj.1 e)
    · exact h2 (UInt8.toNat_inj.1 e)
    · exact h1 (UInt8.toNat_inj.1 e)), if_neg h1, if_neg h2, if_neg h3]
  rfl
theorem sg_len4 (c : UInt8) : (sg 4 c).length = 1 + (if c = 34 then 5 else 0) + (if c = 62 then 3 else 0) + (if c = 60 then 3 else 0) + (if c = 38 then 4 else 0) := by
  by_cases h0 : c = 34
  · subst h0; rfl
  by_cases h1 : c = 62
  · subst h1; rfl
  by_cases h2 : c = 60
  · subst h2; rfl
  by_cases h3 : c = 38
  · subst h3; rfl
  rw [sg_none (fun a ha e => by
    have h : a = 0 ∨ a = 1 ∨ a = 2 ∨ a = 3 := by omega
    rcases h with rfl | rfl | rfl | rfl
    · exact h3 (UInt8.toNat_inj.1 e)
    · exact h2 (UInt8.toNat_inj.1 e)
    · exact h1 (UInt8.toNat_inj.1 e)
    · exact h0 (UInt8.toNat_inj.1 e)), if_neg h0, if_neg h1, if_neg h2, if_neg h3]
  rfl
theorem signF_len {np : Nat} (h : np = 3 ∨ np = 4) (l : List UInt8) : (signF np l).length = l.length + wsum np l np := by
  induction l with
  | nil => rcases h with rfl | rfl <;> rfl
  | cons c l ih =>
    have e : signF np (c :: l) = sg np c ++ signF np l := by simp [signF]
    rw [e, List.length_append, ih, List.length_cons]
    rcases h with rfl | rfl
    · rw [wsum_three, wsum_three, cb_cons, cb_cons, cb_cons, sg_len3]
      split <;> split <;> split <;> omega
    · rw [wsum_four, wsum_four, cb_cons, cb_cons, cb_cons, cb_cons, sg_len4]
      split <;> split <;> split <;> split <;> omega
theorem sg_one {np : Nat} {c : UInt8} (hnp : np ≤ 4) (h : (sg np c).length = 1) : sg np c = [c] := by
  unfold sg at h ⊢
  cases hf : (List.range np).find? (fun a => oby a == c.toNat) with
  | none => rfl
  | some a =>
    rw [hf] at h
    have h2 := List.mem_of_find?_eq_some hf
    rw [List.mem_range] at h2
    have := (ns_size (a := a) (by omega)).1
    have h3 : (ns a).size = 1 := by simpa using h
    omega
theorem sg_pos {np : Nat} {c : UInt8} (hnp : np ≤ 4) : 1 ≤ (sg np c).length := by
  unfold sg
  cases hf : (List.range np).find? (fun a => oby a == c.toNat) with
  | none => exact Nat.le_refl _
  | some a =>
    have h2 := List.mem_of_find?_eq_some hf
    rw [List.mem_range] at h2
    have := (ns_size (a := a) (by omega)).1
    show 1 ≤ (ns a).data.toList.length
    have h3 : (ns a).data.toList.length = (ns a).size := by simp
    omega
theorem signF_ge {np : Nat} (hnp : np ≤ 4) (l : List UInt8) : l.length ≤ (signF np l).length := by
  induction l with
  | nil => exact Nat.le_refl _
  | cons c l ih =>
    have e : signF np (c :: l) = sg np c ++ signF np l := by simp [signF]
    have := sg_pos (c := c) hnp
    rw [e, List.length_append, List.length_cons]
    omega
theorem signF_same {np : Nat} (hnp : np ≤ 4) (l : List UInt8) (h : (signF np l).length = l.length) : signF np l = l := by
  induction l with
  | nil => rfl
  | cons c l ih =>
    have e : signF np (c :: l) = sg np c ++ signF np l := by simp [signF]
    have h1 := sg_pos (c := c) hnp
    have h2 := signF_ge hnp l
    rw [e, List.length_append, List.length_cons] at h
    rw [e, sg_one hnp (by omega), ih (by omega)]
    rfl
end Go.Proofs.Ytkjgnkmnngaioaa.Q
