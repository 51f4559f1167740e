/- strings.Replacer of single bytes (token.Sign): built. -/
import Derived.Test.YtkjgnkmnngaioaaOnce
import Derived.Test.YtkjgnkmnngaioaaMmx
import Derived.StillTailTactics
import Derived.Lib.SliceRun
import Derived.IntWalk
import Derived.Deep.MidRow
import Derived.WalkSpells
import Derived.Laws.MakeOwn
import Derived.Laws.IdiomStrings
import Derived.Laws.AppendOwn
import Derived.Laws.CopyRow
import Derived.Laws.Tables
namespace Go.Proofs.Ytkjgnkmnngaioaa.Q
open Go.RowKit Go.Proofs.Ytkjgnkmnngaioaa.Mem
set_option linter.unusedVariables false
set_option linter.unusedSimpArgs false

def os (a : Nat) : ByteArray := ([⟨#[38]⟩, ⟨#[60]⟩, ⟨#[62]⟩, ⟨#[34]⟩] : List ByteArray).getD a ⟨#[]⟩
def ns (a : Nat) : ByteArray := ([⟨#[38, 97, 109, 112, 59]⟩, ⟨#[38, 108, 116, 59]⟩, ⟨#[38, 103, 116, 59]⟩, ⟨#[38, 113, 117, 111, 116, 59]⟩] : List ByteArray).getD a ⟨#[]⟩
theorem os_size {a : Nat} (h : a < 4) : (os a).size = 1 := by
  have : a = 0 ∨ a = 1 ∨ a = 2 ∨ a = 3 := by omega
  rcases this with rfl | rfl | rfl | rfl <;> rfl
theorem ns_size {a : Nat} (h : a < 4) : 4 ≤ (ns a).size ∧ (ns a).size ≤ 6 := by
  have : a = 0 ∨ a = 1 ∨ a = 2 ∨ a = 3 := by omega
  rcases this with rfl | rfl | rfl | rfl <;> decide
/-- The replacer's block: what each byte is replaced by, and the bytes that are. -/
def BSB (f : Nat → Value) (tr : Value) : Array Value := ((List.range 256).map f ++ [tr]).toArray
abbrev nlb : Value := .slice none 0 0
theorem bsb_zero : Try.zeroCells92 = BSB (fun _ => nlb) nlb := by kernel_rfl
theorem bsb_size (f : Nat → Value) (tr : Value) : (BSB f tr).size = 257 := by unfold BSB; simp
theorem bsb_at {f : Nat → Value} {tr : Value} {c : Nat} (h : c < 256) : (BSB f tr)[c]? = some (f c) := by
  unfold BSB
  rw [List.getElem?_toArray, List.getElem?_append_left (by simpa using h), List.getElem?_map, List.getElem?_range h]
  rfl
theorem bsb_tr {f : Nat → Value} {tr : Value} : (BSB f tr)[256]? = some tr := by
  unfold BSB
  rw [List.getElem?_toArray, List.getElem?_append_right (by simp)]
  simp
theorem bsb_set_tr {f : Nat → Value} {tr tr' : Value} : (BSB f tr).setIfInBounds 256 tr' = BSB f tr' := by
  unfold BSB
  rw [List.setIfInBounds_toArray, List.set_append_right _ _ (by simp)]
  simp
theorem bsb_set {f : Nat → Value} {tr v : Value} {c : Nat} (h : c < 256) : (BSB f tr).setIfInBounds c v = BSB (fun i => if i = c then v else f i) tr := by
  unfold BSB
  rw [List.setIfInBounds_toArray, List.set_append_left _ _ (by simpa using h)]
  congr 2
  apply List.ext_getElem?
  intro i
  rw [List.getElem?_set, List.getElem?_map, List.getElem?_map, List.length_map, List.length_range]
  by_cases hi : i < 256
  · rw [List.getElem?_range hi]
    by_cases hc : c = i
    · subst hc; rw [if_pos rfl, if_pos h]; simp
    · rw [if_neg hc]; simp [Ne.symm hc]
  · rw [List.getElem?_eq_none (by rw [List.length_range]; omega), if_neg (by omega)]; rfl
theorem store_whole (W : World) (q n : Nat) (v : Value) (cur : Array Value) (T : TypeId) (hv : v.oneCell' = true) (hc : ∀ u ∈ cur.toList, u.oneCell' = true) (hB : Blk W q cur T) :
    ∃ W', (storeCells ⟨q, 0, none⟩ (cur.toList.set n v)).run Try.prog W = .ok () W' ∧ Blk W' q (cur.setIfInBounds n v) T ∧ But q W W' ∧ W'.heap.size = W.heap.size := by
  have h1 : ∀ u ∈ cur.toList.set n v, u.oneCell' = true := fun u hu => by
    rcases List.mem_or_eq_of_mem_set hu with h | h
    · exact hc u h
    · rw [h]; exact hv
  have hs := run_storeCells_at (P := Try.prog) q 0 T (cur.toList.set n v) 0 cur W hB (by rw [List.length_set, Array.length_toList]; omega) h1
  refine ⟨_, hs, ?_, ⟨rfl, rfl, rfl, by simp [World.setRow], fun k _ hk => setRow_other _ _ _ _ hk⟩, by simp [World.setRow]⟩
  have := setRow_heap W q cur (List.take (0 + 0) cur.toList ++ cur.toList.set n v ++ List.drop (0 + 0 + (cur.toList.set n v).length) cur.toList).toArray T (0, 0) hB
  have e : (List.take (0 + 0) cur.toList ++ cur.toList.set n v ++ List.drop (0 + 0 + (cur.toList.set n v).length) cur.toList).toArray = cur.setIfInBounds n v := by
    rw [List.drop_of_length_le (by rw [List.length_set]; omega), List.append_nil]
    apply Array.ext'
    simp
  rw [e] at this
  rw [e]
  exact this
theorem bsb_one : ∀ u ∈ (BSB (fun _ => nlb) nlb).toList, u.oneCell' = true := fun u h => by
  unfold BSB at h
  rw [List.mem_append, List.mem_map, List.mem_singleton] at h
  rcases h with ⟨_, _, h⟩ | h
  · rw [← h]; rfl
  · rw [h]; rfl
theorem bsb_store (W : World) (q : Nat) (v : Value) (hv : v.oneCell' = true) (hB : Blk W q (BSB (fun _ => nlb) nlb) 92) :
    ∃ W', (storeCells ⟨q, 0, none⟩ ((BSB (fun _ => nlb) nlb).toList.set 256 v)).run Try.prog W = .ok () W' ∧ Blk W' q (BSB (fun _ => nlb) v) 92 ∧ But q W W' ∧ W'.heap.size = W.heap.size := by
  have := store_whole W q 256 v _ _ hv bsb_one hB
  rw [bsb_set_tr] at this
  exact this
/-- A row of bytes that reads so. -/
def Rp (W : World) (v : Value) (n : ByteArray) : Prop := ∃ (g cap : Nat) (cur : Array Value) (fz : Nat × Nat), v = .slice (some ⟨g, 0, none⟩) n.size cap ∧ W.heap[g]? = some (.cells cur 5 fz) ∧ ∀ j (hj : j < n.size), cur[j]? = some (.int .u8 n[j].toNat)
theorem Rp.keep {W W' : World} {v : Value} {n : ByteArray} (h : Rp W v n) (hk : ∀ (g : Nat) (cur : Array Value) (fz : Nat × Nat), W.heap[g]? = some (.cells cur 5 fz) → W'.heap[g]? = W.heap[g]?) : Rp W' v n := by
  obtain ⟨g, cap, cur, fz, h1, h2, h3⟩ := h
  exact ⟨g, cap, cur, fz, h1, (hk g cur fz h2).trans h2, h3⟩
theorem own_keep {W W' : World} {base n : Nat} {v : Value} {xs : List Value} (h : W.ownsRow base 9 1 v n xs) (hk : ∀ (g : Nat) (cur : Array Value), W.heap[g]? = some (.cells cur 9 (0, 0)) → W'.heap[g]? = W.heap[g]?) : W'.ownsRow base 9 1 v n xs := by
  refine ⟨h.1, ?_⟩
  rcases h.2 with h | ⟨g, cap, cur, h1, h2, h3, h4⟩
  · exact .inl h
  · exact .inr ⟨g, cap, cur, h1, h2, (hk g cur h3).trans h3, h4⟩
theorem own_sl {w : World} {base : Nat} {e : TypeId} {v : Value} {n : Nat} {xs : List Value} (h : w.ownsRow base e 1 v n xs) : ∃ A c, v = .slice A n c := by
  rcases h.2 with ⟨rfl, rfl⟩ | ⟨g, cap, cur, rfl, -⟩
  · exact ⟨_, _, rfl⟩
  · exact ⟨_, _, rfl⟩
def oby (a : Nat) : Nat := ([38, 60, 62, 34] : List Nat).getD a 0
theorem ob_os {a : Nat} (h : a < 4) : ∃ h' : 0 < (os a).size, (os a)[0].toNat = oby a := by
  have : a = 0 ∨ a = 1 ∨ a = 2 ∨ a = 3 := by omega
  rcases this with rfl | rfl | rfl | rfl <;> exact ⟨by decide, rfl⟩
theorem own_nt {w : World} {base n q : Nat} {v : Value} {xs : List Value} {cs : Array Value} {T : TypeId} {fz : Nat × Nat} (h : w.ownsRow base 9 1 v n xs) (hb : w.heap[q]? = some (.cells cs T fz)) (hT : T ≠ 9) : some q ≠ v.ownBlock := by
  rcases h.2 with ⟨rfl, -⟩ | ⟨g, cap, cur, rfl, -, hg, -⟩
  · exact fun e => by cases e
  · intro e
    cases e
    have hb' : w.heap[g]? = some (.cells cs T fz) := hb
    rw [hb'] at hg
    cases hg
    exact hT rfl
theorem os_one {a : Nat} (h : a < 4) : ∀ h' : 0 < (os a).size, (⟨[(os a)[0]'h'].toArray⟩ : ByteArray) = os a := by
  have : a = 0 ∨ a = 1 ∨ a = 2 ∨ a = 3 := by omega
  rcases this with rfl | rfl | rfl | rfl <;> exact fun _ => rfl
theorem ob_lt {a : Nat} (h : a < 4) : oby a < 256 := by
  have : a = 0 ∨ a = 1 ∨ a = 2 ∨ a = 3 := by omega
  rcases this with rfl | rfl | rfl | rfl <;> decide
theorem ob_inj {a b : Nat} (h : a < 4) (h' : b < 4) (e : oby a = oby b) : a = b := by
  have : a = 0 ∨ a = 1 ∨ a = 2 ∨ a = 3 := by omega
  have : b = 0 ∨ b = 1 ∨ b = 2 ∨ b = 3 := by omega
  rcases ‹a = 0 ∨ _› with rfl | rfl | rfl | rfl <;> rcases ‹b = 0 ∨ _› with rfl | rfl | rfl | rfl <;> first | rfl | (exact absurd e (by decide))
/-- What stands when `k` of `np` bytes are put in, the last ones first. -/
structure BsS (q base np k : Nat) (f : Nat → Value) (tr : Value) (W : World) : Prop where
  blk : Blk W q (BSB f tr) 92
  own : W.ownsRow base 9 1 tr k ((List.range k).map fun j => .string (os (np - 1 - j)))
  done : ∀ a, a < np → np - k ≤ a → Rp W (f (oby a)) (ns a)
  rest : ∀ c, c < 256 → (∀ a, a < np → np - k ≤ a → c ≠ oby a) → f c = nlb
  ge : base ≤ q
/-- The replacer of `np` bytes. -/
def Bs (q base np : Nat) (W : World) : Prop := ∃ f tr, BsS q base np np f tr W
theorem bs_step {q base np k a1 c cap : Nat} {f : Nat → Value} {tr v1 : Value} {W w1 : World} {fz : Nat × Nat} (ha : a1 + k + 1 = np) (hnp : np ≤ 4) (hc : c = oby a1) (HS : BsS q base np k f tr W)
    (hB : Blk w1 q (BSB f tr) 92) (hu : ∀ (g : Nat) (cur : Array Value) (fz : Nat × Nat), W.heap[g]? = some (.cells cur 5 fz) → w1.heap[g]? = W.heap[g]?)
    (ho : w1.ownsRow base 9 1 v1 (k + 1) (((List.range k).map fun j => .string (os (np - 1 - j))) ++ [.string (os a1)])) :
    BsS q base np (k + 1) (fun i => if i = c then .slice (some ⟨w1.heap.size, 0, none⟩) (ns a1).size cap else f i) v1
      ((((w1.setCell ⟨q, 256, none⟩ v1).drew.alloc (.cells (bytesRow (ns a1) cap) 5 fz)).setCell ⟨q, c, none⟩ (.slice (some ⟨w1.heap.size, 0, none⟩) (ns a1).size cap))) := by
  subst hc
  have hq : q < w1.heap.size := hB.lt
  have hsz : (w1.setCell ⟨q, 256, none⟩ v1).heap.size = w1.heap.size := by simp [World.setCell]
  have hk : ∀ g, g < w1.heap.size → g ≠ q → ((((w1.setCell ⟨q, 256, none⟩ v1).drew.alloc (.cells (bytesRow (ns a1) cap) 5 fz)).setCell ⟨q, oby a1, none⟩ (.slice (some ⟨w1.heap.size, 0, none⟩) (ns a1).size cap))).heap[g]? = w1.heap[g]? := fun g hg hn => by
    rw [Below.heap_setCell _ _ _ _ hn, Below.heap_alloc _ _ _ (by show g < (w1.setCell ⟨q, 256, none⟩ v1).heap.size; rw [hsz]; exact hg)]
    exact Below.heap_setCell _ _ _ _ hn
  have hlt : ∀ g (o : Obj), w1.heap[g]? = some o → g < w1.heap.size := fun g o h => by
    rcases Nat.lt_or_ge g w1.heap.size with h1 | h1
    · exact h1
    · rw [Array.getElem?_eq_none h1] at h; cases h
  have hb := hB
  unfold Blk at hb
  refine ⟨?_, own_keep (xs := (List.range (k + 1)).map fun j => .string (os (np - 1 - j))) ?_ (fun g cur h => hk g (hlt g _ h) (fun e => by subst e; rw [hb] at h; cases h)), fun a h1 h2 => ?_, fun i h1 h2 => ?_, HS.ge⟩
  · have h1 := hB.set 256 v1
    rw [bsb_set_tr] at h1
    have h2 := ((h1.drew).alloc_old (.cells (bytesRow (ns a1) cap) 5 fz)).set (oby a1) (.slice (some ⟨w1.heap.size, 0, none⟩) (ns a1).size cap)
    rw [bsb_set (ob_lt (by omega))] at h2
    exact h2
  · have e : (List.range (k + 1)).map (fun j => Value.string (os (np - 1 - j))) = ((List.range k).map fun j => Value.string (os (np - 1 - j))) ++ [Value.string (os a1)] := by
      rw [List.range_succ, List.map_append]
      show _ ++ [Value.string (os (np - 1 - k))] = _
      rw [show np - 1 - k = a1 from by omega]
    rw [e]; exact ho
  · by_cases e : a = a1
    · subst e
      show Rp _ (if oby a = oby a then _ else _) _
      rw [if_pos rfl]
      refine ⟨w1.heap.size, cap, bytesRow (ns a) cap, fz, rfl, ?_, fun j hj => bytesRow_at _ _ _ hj⟩
      rw [Below.heap_setCell _ _ _ _ (by show w1.heap.size ≠ q; omega)]
      show ((w1.setCell ⟨q, 256, none⟩ v1).heap.push _)[w1.heap.size]? = _
      rw [Array.getElem?_push, if_pos hsz.symm]
    · show Rp _ (if oby a = oby a1 then _ else _) _
      rw [if_neg (fun h => e (ob_inj (by omega) (by omega) h))]
      refine ((HS.done a h1 (by omega)).keep hu).keep fun g cur fz h => hk g (hlt g _ h) (fun e => by subst e; rw [hb] at h; cases h)
  · show (if i = oby a1 then _ else _) = _
    rw [if_neg (h2 a1 (by omega) (by omega))]
    exact HS.rest i h1 fun a h3 h4 => h2 a h3 (by omega)
theorem bs_cell {q c a1 : Nat} {x1 : World} {f : Nat → Value} {tr v : Value} (hB : Blk x1 q (BSB f tr) 92) (hc : c = oby a1) (h : a1 < 4) (hof : f (oby a1) = nlb) (C : Array Value) (fz : Nat × Nat) :
    ((x1.setCell ⟨q, 256, none⟩ v).alloc (.cells C 5 fz)).cell? ⟨q, c, none⟩ = some nlb ∧ ((x1.setCell ⟨q, 256, none⟩ v).alloc (.cells C 5 fz)).frozen? ⟨q, c, none⟩ = false := by
  have hb : Blk ((x1.setCell ⟨q, 256, none⟩ v).alloc (.cells C 5 fz)) q _ _ := (Below.heap_alloc _ _ _ (hB.set 256 v).lt).trans (hB.set 256 v)
  refine ⟨?_, hb.free _⟩
  rw [hb.cell, bsb_set_tr, hc, bsb_at (ob_lt h), hof]
theorem bs_app {q base np k : Nat} {f : Nat → Value} {tr : Value} {w x1 : World} {o1 o2 : Obj} (HS : BsS q base np k f tr w) (hg : ((w.alloc o1).alloc o2).grownBy x1 tr.ownBlock) :
    Blk x1 q (BSB f tr) 92 ∧ ∀ (g : Nat) (cur : Array Value) (fz : Nat × Nat), w.heap[g]? = some (.cells cur 5 fz) → x1.heap[g]? = w.heap[g]? := by
  refine ⟨((HS.blk.alloc_old _).alloc_old _).of_block (hg.block q ((HS.blk.alloc_old _).alloc_old _).lt (own_nt HS.own HS.blk (by decide))), fun g cur fz hh => ?_⟩
  have hl : g < w.heap.size := by
    rcases Nat.lt_or_ge g w.heap.size with h5 | h5
    · exact h5
    · rw [Array.getElem?_eq_none h5] at hh; cases hh
  rw [hg.block g (by simp; omega) (own_nt HS.own hh (by decide)), Below.heap_alloc _ _ _ (by simp; omega), Below.heap_alloc _ _ _ hl]
theorem bs_below {q base np k c : Nat} {f : Nat → Value} {tr v v' : Value} {w x1 : World} {o1 o2 o : Obj} (HS : BsS q base np k f tr w) (hg : ((w.alloc o1).alloc o2).grownBy x1 tr.ownBlock) (hb : base ≤ w.heap.size) :
    Below base w (((x1.setCell ⟨q, 256, none⟩ v).drew.alloc o).setCell ⟨q, c, none⟩ v') := by
  have hs1 : w.heap.size + 2 ≤ x1.heap.size := by have := hg.size; simp at this; omega
  have hsz : (x1.setCell ⟨q, 256, none⟩ v).heap.size = x1.heap.size := by simp [World.setCell]
  refine ⟨hg.os, hg.tape, hg.output, ?_, fun g h => ?_⟩
  · have : (((x1.setCell ⟨q, 256, none⟩ v).drew.alloc o).setCell ⟨q, c, none⟩ v').heap.size = x1.heap.size + 1 := by simp [World.setCell]
    omega
  · have hn : g ≠ q := by have := HS.ge; omega
    have ho : some g ≠ tr.ownBlock := by
      rcases HS.own.2 with ⟨rfl, -⟩ | ⟨g', cap, cur, rfl, h1, -⟩
      · exact fun e => by cases e
      · intro e
        cases e
        have h1' : base ≤ _ := h1
        have h' := h
        exact absurd (Nat.lt_of_lt_of_le h' h1') (Nat.lt_irrefl _)
    rw [Below.heap_setCell _ _ _ _ hn, Below.heap_alloc _ _ _ (by show g < (x1.setCell ⟨q, 256, none⟩ v).heap.size; omega)]
    show (x1.setCell ⟨q, 256, none⟩ v).heap[g]? = _
    rw [Below.heap_setCell _ _ _ _ hn, hg.block g (by simp; omega) ho, Below.heap_alloc _ _ _ (by simp; omega), Below.heap_alloc _ _ _ (by omega)]
set_option maxRecDepth 100000 in
set_option maxHeartbeats 1600000 in
theorem bs_build (b ob c m np : Nat) (w : World) (hm : m = 2 * np) (hnp : np = 3 ∨ np = 4) (h4 : w.cell? ⟨b, 4, none⟩ = some (.slice (some ⟨ob, 0, none⟩) m c)) (hK : ∀ a, a < np → w.cell? ⟨ob, 2 * a, none⟩ = some (.string (os a)) ∧ w.cell? ⟨ob, 2 * a + 1, none⟩ = some (.string (ns a))) :
    Calls Try.prog 28 #[.pointer (some ⟨b, 0, none⟩)] w fun e w' => ∃ q, e = .returned (.iface 93 (.pointer (some ⟨q, 0, none⟩))) ∧ Bs q w.heap.size np w' ∧ Below w.heap.size w w' := by
  have HK := Lib.hid hK
  have HM := Lib.hid hm
  have hnp1 : 3 ≤ np ∧ np ≤ 4 := by omega
  have m0 : ((m : Int) == 2) = false := by simp; omega
  have hq : ∀ (w : World) (a : Option Addr) (n c n' c' : Nat), (binOp .eql 45 (.slice a n c) (.slice none n' c')).run Try.prog w = .ok (.bool a.isNone) w := fun w a n c n' c' => Lib.run_eql_slice_nil w _ _ a n c n' c' Try.underlying45
  clear hK hm hnp
  go_enter Try.func28, Try.ntmps28
  go_wp2_with fail
  go_loopw [4, 5] (fun bv iv wr => ∃ a ia : Nat, Hid (ia = 2 * a) ∧ ia ≤ m ∧ bv = .bool (decide (a = 0)) ∧ iv = .int .i64 (ia : Int) ∧ Hid (wr = w)) (fun _ iv _ => m - (intOf iv).toNat)
  case atStart => exact ⟨0, 0, Lib.hid rfl, by omega, rfl, rfl, by first | exact Lib.hid rfl | exact Lib.hid trivial⟩
  case round =>
    obtain ⟨a, ia, HIA, hia, rfl, rfl, HWR⟩ := hrel
    obtain rfl : w = wr := HWR.out.symm
    clear HWR
    by_cases hi : ia < m
    · have h4' : a < np := by have := HIA.out; have := HM.out; omega
      have hk0 : w.cell? ⟨ob, ia, none⟩ = some (.string (os a)) := by rw [HIA.out]; exact (HK.out a h4').1
      have hk1 : w.cell? ⟨ob, ia + 1, none⟩ = some (.string (ns a)) := by rw [HIA.out]; exact (HK.out a h4').2
      have z0 : (((os a).size : Int) != 1) = false := by rw [os_size (by omega)]; rfl
      have z1 : (((ns a).size : Int) != 1) = true := by have := ns_size (a := a) (by omega); simp; omega
      have u1 : (ia : Int) < (m : Int) := by omega
      have u2 : (0 : Int) ≤ (ia : Int) := by omega
      have u3 : (ia : Int) + 1 < (m : Int) := by have := HIA.out; have := HM.out; omega
      have u4 : (m : Int) ≤ 8 := by have := HM.out; omega
      generalize os a = o at *
      generalize ns a = n at *
      go_wp2_with fail
      go_roundw
      case rel => exact ⟨a + 1, ia + 2, Lib.hid (by have := HIA.out; omega), by have := HIA.out; have := HM.out; omega, by simp, by go_num, by first | exact Lib.hid rfl | exact Lib.hid trivial⟩
      case measure => simp [intOf]; omega
    · have u1 : ¬ (ia : Int) < (m : Int) := by omega
      have ha : decide (a = 0) = false := by have := HIA.out; have := HM.out; simp; omega
      rw [ha]
      have HDA := Lib.hid ha
      clear ha
      obtain ⟨i0, hi0, hzz⟩ : ∃ i0, Try.prog.info? 9 = some i0 ∧ (i0.zero, i0.size, i0.bytes) = (some (.string ⟨#[]⟩), 1, 16) := Option.map_eq_some_iff.1 (show (Try.prog.info? 9).map (fun i => (i.zero, i.size, i.bytes)) = some (some (.string ⟨#[]⟩), 1, 16) by kernel_rfl)
      simp only [Prod.mk.injEq] at hzz
      obtain ⟨hz0, hz1, hz2⟩ := hzz
      obtain ⟨w1, hrun, hown, hgr⟩ := run_make_own (P := Try.prog) w w.heap.size 42 9 i0 (.string ⟨#[]⟩) 1 Try.underlying42 hi0 hz0 hz1 .i64 .i64 np (by rw [hz2]; omega) (by unfold maxLen; omega) (Nat.le_refl _)
      have hdv : wrap64 ((m : Int) / 2) = (np : Int) := by have := HM.out; rw [IntWalk.wrap64_in _ (by omega)]; omega
      rw [← hdv] at hrun
      have HOWN := Lib.hid hown
      have HGR := Lib.hid hgr
      have HDV := Lib.hid hdv
      have HI0 := Lib.hid hi0
      have HZI0 := Lib.hid hz0
      have HZI1 := Lib.hid hz1
      have HZI2 := Lib.hid hz2
      clear hi0 hz0 hz1 hz2 hown hgr hdv
      have hal := Blk.alloc w1 Try.zeroCells92 92
      rw [bsb_zero] at hal
      obtain ⟨W2, hst, hB2, hZ2, hS2⟩ := bsb_store _ _ (.slice (some ⟨w.heap.size, 0, none⟩) 0 np) rfl hal
      rw [← bsb_zero] at hst
      have HB2 := Lib.hid hB2
      have HZ2 := Lib.hid hZ2
      have HS2 := Lib.hid hS2
      clear hal hB2 hZ2 hS2
      go_upto_region 27 with (fail)
      clear hst hrun
      have HS0 := Lib.hid (show BsS w1.heap.size w.heap.size np 0 (fun _ => nlb) (.slice (some ⟨w.heap.size, 0, none⟩) 0 np) W2 from by
        refine ⟨HB2.out, ?_, fun a h1 h2 => by omega, fun _ _ _ => rfl, HGR.out.size⟩
        have h1 := HOWN.out.alloc (.cells (BSB (fun _ => nlb) nlb) 92)
        refine ⟨h1.1, ?_⟩
        rcases h1.2 with h | ⟨g, cap, cur, e1, e2, e3, e4⟩
        · exact .inl h
        · refine .inr ⟨g, cap, cur, e1, e2, ?_, e4⟩
          rw [HZ2.out.block g (by rcases Nat.lt_or_ge g _ with h5 | h5; exact h5; rw [Array.getElem?_eq_none h5] at e3; cases e3) (fun e => by
            have := HB2.out
            have h6 : (w1.alloc (.cells (BSB (fun _ => nlb) nlb) 92)).heap[w1.heap.size]? = some (.cells (BSB (fun _ => nlb) nlb) 92 (0, 0)) := Blk.alloc w1 _ _
            subst e
            rw [h6] at e3
            cases e3)]
          exact e3)
      have HW0 := Lib.hid (show Below w.heap.size w W2 from
        ((show Below w.heap.size w w1 from ⟨HGR.out.os, HGR.out.tape, HGR.out.output, HGR.out.size, fun k hk => HGR.out.block k hk (by simp)⟩).alloc HGR.out.size _).trans (HZ2.out.below HGR.out.size (by have := HGR.out.size; simp; omega)))
      obtain ⟨q, hq'⟩ : ∃ q, q = w1.heap.size := ⟨_, rfl⟩
      rw [← hq'] at HS0 ⊢
      clear HB2 HZ2 HS2 HGR HOWN hq'
      go_wp2_with fail
      go_loopw [12] (fun iv wz => ∃ (k : Nat) (x : Int) (f : Nat → Value) (tr : Value), Hid (x = 2 * ((np : Int) - 1 - k)) ∧ k ≤ np ∧ -2 ≤ x ∧ x ≤ 6 ∧ iv = .int .i64 x ∧ Hid (BsS q w.heap.size np k f tr wz) ∧ Hid (Below w.heap.size w wz)) (fun iv _ => (intOf iv + 2).toNat)
      case atStart =>
        first
          | exact ⟨0, wrap64 ((m : Int) - 2), _, _, Lib.hid (by have := HM.out; rw [IntWalk.wrap64_in _ (by omega)]; omega), by omega, by have := HM.out; rw [IntWalk.wrap64_in _ (by omega)]; omega, by have := HM.out; rw [IntWalk.wrap64_in _ (by omega)]; omega, rfl, HS0, HW0⟩
          | exact ⟨0, (m : Int) - 2, _, _, Lib.hid (by have := HM.out; omega), by omega, by have := HM.out; omega, by have := HM.out; omega, rfl, HS0, HW0⟩
      case round =>
        clear HS0 HW0
        obtain ⟨k, x, f, tr, HX, hk, hx1, hx2, rfl, HS, HW⟩ := hrel
        by_cases hx : 0 ≤ x
        · obtain ⟨a1, ha1⟩ : ∃ a1, a1 + k + 1 = np := ⟨np - 1 - k, by have := HX.out; omega⟩
          obtain ⟨y, hy⟩ : ∃ y, y = 2 * a1 := ⟨_, rfl⟩
          obtain rfl : x = (y : Int) := by have := HX.out; omega
          have HA1 := Lib.hid ha1
          have HY := Lib.hid hy
          have hob : ob < w.heap.size := by
            have := (HK.out 0 (by omega)).1
            unfold World.cell? at this
            rcases Nat.lt_or_ge ob w.heap.size with h | h
            · exact h
            · rw [show w.heap[ob]? = none from Array.getElem?_eq_none h] at this; cases this
          have k0 : wr.cell? ⟨ob, y, none⟩ = some (.string (os a1)) := by
            have := (HK.out a1 (by omega)).1
            rw [← hy] at this
            unfold World.cell? at this ⊢
            rw [HW.out.block ob hob]; exact this
          have k1 : wr.cell? ⟨ob, y + 1, none⟩ = some (.string (ns a1)) := by
            have := (HK.out a1 (by omega)).2
            rw [← hy] at this
            unfold World.cell? at this ⊢
            rw [HW.out.block ob hob]; exact this
          have hm8 : (m : Int) ≤ 8 := by have := HM.out; omega
          have v1 : (y : Int) < (m : Int) := by have := HM.out; omega
          have v2 : (0 : Int) ≤ (y : Int) := by omega
          have v3 : (y : Int) + 1 < (m : Int) := by have := HM.out; omega
          have v4 : (os a1).size = 1 := os_size (by omega)
          obtain ⟨p0, e0⟩ := ob_os (a := a1) (by omega)
          have hof : f (oby a1) = nlb := HS.out.rest _ (ob_lt (by omega)) (fun a h1 h2 e => by have := ob_inj (by omega) (by omega) e; omega)
          have l0 : wr.cell? ⟨q, ((os a1)[0]'p0).toNat, none⟩ = some (.slice none 0 0) := by
            rw [HS.out.blk.cell, e0, bsb_at (ob_lt (by omega)), hof]
          have l1 : wr.cell? ⟨q, 256, none⟩ = some tr := by rw [HS.out.blk.cell]; exact bsb_tr
          have hcv : (convert 45 9 (.slice (some ⟨wr.heap.size, 0, none⟩) 1 1)).run Try.prog (wr.alloc (.cells #[.int .u8 (((os a1)[0]'p0).toNat : Int)] 5)) = .ok (.string (os a1)) (wr.alloc (.cells #[.int .u8 (((os a1)[0]'p0).toNat : Int)] 5)) := by
            have := run_convert_bytes_back (P := Try.prog) (wr.alloc (.cells #[.int .u8 (((os a1)[0]'p0).toNat : Int)] 5)) 45 9 5 ⟨wr.heap.size, 0, none⟩ 1 [(os a1)[0]'p0] Try.underlying45 Try.underlying5 Try.underlying9 (fun j hj => by
              obtain rfl : j = 0 := by simpa using hj
              exact (Blk.alloc wr _ _).cell 0)
            rw [os_one (by omega)] at this
            exact this
          have hbs : ∀ W : World, (convert 9 45 (.string (ns a1))).run Try.prog W = _ := fun W => run_bytes_of_string (P := Try.prog) W 9 45 5 (ns a1) Try.underlying9 Try.underlying45 Try.underlying5
          have HE0 := Lib.hid e0
          have HOF := Lib.hid hof
          have v5 : ((((os a1)[0]'p0).toNat : Nat) : Int) < 256 := by have := ob_lt (a := a1) (by omega); rw [e0]; omega
          obtain ⟨A0, c0', htr⟩ := own_sl HS.out.own
          subst htr
          clear ha1 hy hob hm8 hof e0
          go_wp2_with (at_builtin; refine wpList_append_own _ rfl _ _ 42 rfl w.heap.size 9 i0 (.string ⟨#[]⟩) 1 16 Try.underlying42 HI0.out HZI0.out HZI1.out HZI2.out rfl (by decide) (.slice A0 k c0') k _ rfl ((HS.out.own.alloc _).alloc _) ⟨wr.heap.size + 1, 0, none⟩ 1 1 [.string (os a1)] rfl rfl (by intro j u hj; cases j with | zero => (rw [← hj]; exact (Blk.alloc_at _ _ _ (by simp)).cell 0) | succ j => (exfalso; simp at hj)) (by intro u hu; rw [List.mem_singleton] at hu; rw [hu]; rfl) (by have := hnp1; unfold maxLen; omega) (by have := hnp1; omega) (by have := HW.out.size; simp; omega) ?_; intro v1' x1 ho1 hg1 h1'; obtain ⟨A1, c1', rfl⟩ := own_sl ho1; have HO1 := Lib.hid ho1; have HG1 := Lib.hid hg1; have HB1 := Lib.hid (bs_app HS.out hg1).1; have HU := Lib.hid (bs_app HS.out hg1).2; have d0 : x1.cell? ⟨q, 256, none⟩ = some (.slice A0 k c0') := (by rw [HB1.out.cell]; exact bsb_tr); have d1 := HB1.out.free 256; have d2 := fun C fz => (bs_cell (v := .slice A1 (k + 1) c1') HB1.out HE0.out (by have := hnp1; have := HA1.out; omega) HOF.out C fz).1; have d3 := fun C fz => (bs_cell (v := .slice A1 (k + 1) c1') HB1.out HE0.out (by have := hnp1; have := HA1.out; omega) HOF.out C fz).2; clear ho1 hg1 h1')
          go_roundw
          case rel =>
            exact ⟨k + 1, (y : Int) - 2, _, _, Lib.hid (by have := HX.out; omega), by have := HA1.out; omega, by omega, by omega, rfl, Lib.hid (bs_step HA1.out (by have := hnp1; omega) HE0.out HS.out HB1.out HU.out HO1.out), Lib.hid (HW.out.trans (bs_below HS.out HG1.out HW.out.size))⟩
          case measure => simp [intOf]; omega
        · have u2 : ¬ 0 ≤ x := hx
          go_wp2_with fail
          have hkn : k = np := by have := HX.out; omega
          have HSE := HS.out
          rw [hkn] at HSE
          refine bodyPost_ret (v := .iface 93 (.pointer (some ⟨q, 0, none⟩))) (by simp [results, Try.results28, go_sem]) rfl ⟨q, rfl, ⟨f, tr, HSE⟩, HW.out⟩
end Go.Proofs.Ytkjgnkmnngaioaa.Q
