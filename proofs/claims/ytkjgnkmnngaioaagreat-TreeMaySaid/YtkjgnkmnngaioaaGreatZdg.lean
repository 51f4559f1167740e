/- What the proof of treeMay_holds needs, of the texts that this work has written and of the words that the kit's print lends. -/
import Derived.Test.YtkjgnkmnngaioaaGreatZdf
import Derived.Test.YtkjgnkmnngaioaaGreatZdb
import Derived.Test.YtkjgnkmnngaioaaGreatZdd
import Derived.Test.YtkjgnkmnngaioaaGreatZde
import Derived.Lib.Bytealg
import Derived.Laws.Cover3
import Derived.Deep.OwnRows
import Derived.StillTailTactics
import Derived.Laws.OwnMore
import Derived.RangeFuncWrites
import Derived.RangeFuncNested
import Derived.RangeFuncBound
import Derived.RangeFuncCalls
import Derived.RangeFuncLeaves
import Derived.RangeFuncFrom
import Derived.OwnWalkIn
import Derived.TacticsInMore
import Derived.LoopNIn
import Derived.LoopIn
import Derived.Shelf.Abstract
import Derived.Lib.SliceRun
import Derived.Deep.RegionLaw
namespace Go.Proofs.YtkjgnkmnngaioaaGreat.Q
open Go.RowKit Go.IntWalk Go.Proofs.YtkjgnkmnngaioaaGreat.Mem
set_option linter.unusedVariables false
set_option linter.unusedSimpArgs false
/-- What buildOnce leaves. -/
structure BsBuilt (b np base q : Nat) (w w' : World) : Prop where
  rep : ∃ c4, Blk w' b (RB 0 1 (.iface 180 (.pointer (some ⟨q, 0, none⟩))) c4) 139
  bs : Bs q base np w'
  but : But b w w'
end Go.Proofs.YtkjgnkmnngaioaaGreat.Q
namespace Go.Proofs.YtkjgnkmnngaioaaGreat.Q
open Go.RowKit Go.IntWalk Go.Proofs.YtkjgnkmnngaioaaGreat.Mem
set_option linter.unusedVariables false
set_option linter.unusedSimpArgs false
end Go.Proofs.YtkjgnkmnngaioaaGreat.Q
namespace Go.Proofs.YtkjgnkmnngaioaaGreat.Q
set_option linter.unusedVariables false
set_option linter.unusedSimpArgs false
/-- What one byte is replaced by. -/
def sg (np : Nat) (c : UInt8) : List UInt8 := match (List.range np).find? (fun a => oby a == c.toNat) with
  | some a => (ns a).data.toList
  | none => [c]
def signF (np : Nat) (s : List UInt8) : List UInt8 := s.flatMap (sg np)
/-- What the counts of the last `k` bytes add. -/
def wsum (np : Nat) (l : List UInt8) : Nat → Nat
  | 0 => 0
  | k + 1 => wsum np l k + Lib.countByte l (oby (np - 1 - k)).toUInt8 * ((ns (np - 1 - k)).size - 1)
end Go.Proofs.YtkjgnkmnngaioaaGreat.Q
namespace Go.Proofs.YtkjgnkmnngaioaaGreat.Q
open Go.RowKit Go.IntWalk Go.Proofs.YtkjgnkmnngaioaaGreat.Mem
set_option linter.unusedVariables false
set_option linter.unusedSimpArgs false
def by8 (l : List UInt8) : List Value := l.map fun b => Value.int .u8 b.toNat
/-- Ahead of a piece that is copied, and behind it. -/
def CpC (q g : Nat) (S cur cur' : Array Value) (w0 : World) : Nat → World → Prop
  | 0, y => Blk y g cur 5 ∧ Blk y q S 179 ∧ Below w0.heap.size w0 y
  | _, y => Blk y g cur' 5 ∧ Blk y q S 179 ∧ Below w0.heap.size w0 y
end Go.Proofs.YtkjgnkmnngaioaaGreat.Q
namespace Go.Proofs.YtkjgnkmnngaioaaGreat.Q
open Go.RowKit Go.IntWalk Go.Proofs.YtkjgnkmnngaioaaGreat.Mem
set_option linter.unusedVariables false
set_option linter.unusedSimpArgs false
/-- The pairs of bytes and signs. -/
def PS (np : Nat) : List Value := (List.range np).flatMap fun a => [.string (os a), .string (ns a)]
/-- The signs in use. -/
def sgn (q : Bool) : Nat := if q then 4 else 3
end Go.Proofs.YtkjgnkmnngaioaaGreat.Q
namespace Go.Proofs.YtkjgnkmnngaioaaGreat.Q
open Go.RowKit Go.Proofs.YtkjgnkmnngaioaaGreat.Mem Go.Proofs.YtkjgnkmnngaioaaGreatW.PrintWords Go.Proofs.YtkjgnkmnngaioaaGreatW.PrintLast Go.Proofs.YtkjgnkmnngaioaaGreatW.PrintMore
set_option linter.unusedVariables false
set_option linter.unusedSimpArgs false
def token_Read.f (a0 : ByteArray) : Option (List S46 × Int) := if a0.size ≤ 140737488351232 then (if a0.size ≤ 4000 then some (readF a0.data.toList, 0) else some ([], 3)) else none
theorem token_Read.calls (a0 : ByteArray) (r0 : List S46) (r1 : Int) (w : World) (h : token_Read.f a0 = some (r0, r1)) :
    Calls Tryz.prog 13 #[.string a0] w fun e w' => ∃ v, e = .returned (.tuple #[v, .int .i64 r1]) ∧ Kd.S k46 46 w' w.heap.size (fun _ => True) v r0 ∧ Below w.heap.size w w' := by
  unfold token_Read.f at h
  split at h
  · rename_i h1
    split at h
    · rename_i h2
      injection h with h
      injection h with h3 h4
      subst h3 h4
      exact read_calls a0 w h2
    · rename_i h2
      injection h with h
      injection h with h3 h4
      subst h3 h4
      exact (read_long a0 w (by omega) h1).mono fun e w' ⟨he, hw⟩ => ⟨_, he, Kd.S_nil _ _ _ _ _, by subst hw; exact Below.refl _ _⟩
  · cases h
def token_Tell.f (a0 : ByteArray) : Option ByteArray := if a0.size ≤ 600000 then some (st (tellF a0 0)) else none
def token_Sign.f (a0 : ByteArray) (a1 : Bool) : Option ByteArray := if a0.size ≤ 600000 then some (st (signF (sgn a1) a0.data.toList)) else none
def token_Name.f (a0 : ByteArray) : Option Bool := if a0.size ≤ 9223372036854775807 then some (nameB a0.data.toList) else none
theorem token_Name.calls (a0 : ByteArray) (r : Bool) (w : World) (h : token_Name.f a0 = some r) :
    Calls Tryz.prog 17 #[.string a0] w fun e w' => e = .returned (.bool r) ∧ Below w.heap.size w w' := by
  unfold token_Name.f at h
  split at h
  · rename_i h1
    injection h with h
    subst h
    exact isName_calls a0 w h1
  · cases h
end Go.Proofs.YtkjgnkmnngaioaaGreat.Q
namespace Go.Proofs.YtkjgnkmnngaioaaGreat.Q
open Go.RowKit Go.IntWalk Go.Proofs.YtkjgnkmnngaioaaGreat.Mem Go.Proofs.YtkjgnkmnngaioaaGreatW.PrintWords Go.Proofs.YtkjgnkmnngaioaaGreatW.PrintLast Go.Proofs.YtkjgnkmnngaioaaGreatW.PrintMore
set_option linter.unusedVariables false
set_option linter.unusedSimpArgs false
theorem asksT_calls (s x : ByteArray) (b : Nat) (src : ByteArray) (w : World) (hc : w.cell? ⟨b, 0, none⟩ = some (.string src)) (hb : b < w.heap.size) :
    Calls Tryz.prog 114 #[.agg #[.string s, .string x], .pointer (some ⟨b, 0, none⟩)] w fun e w' => e = .returned (.bool (eqS s src)) ∧ Below w.heap.size w w' := by
  have hn : b ≠ w.heap.size := by omega
  go_enter Tryz.func114, Tryz.ntmps114
  go_wp2
  go_ret
  exact ⟨ret_bool' (by unfold eqS; rw [Bool.eq_iff_iff]; simp), (Below.refl _ _).alloc (Nat.le_refl _) _⟩
set_option maxHeartbeats 1000000 in
theorem kindexT_calls (A0 : Option Addr) (c0 : Nat) (l : List S70) (b : Nat) (src : ByteArray) (w : World) (hr0 : Kd.C k70 w A0 l.length l) (hl : l.length ≤ 9223372036854775806)
    (hc : w.cell? ⟨b, 0, none⟩ = some (.string src)) (hb : b < w.heap.size) :
    Calls Tryz.prog 80 #[.slice A0 l.length c0, .func (.func 114) #[] #[.pointer (some ⟨b, 0, none⟩)]] w fun e w' => e = .returned (.int .i64 (kidxFrom src l 0)) ∧ Below w.heap.size w w' := by
  have HR := Lib.hid hr0
  have HC := Lib.hid hc
  clear hr0 hc
  go_enter Tryz.func80, Tryz.ntmps80
  go_wp2_with fail
  go_loopw [8] (fun i wr => ∃ k : Nat, k ≤ l.length ∧ i = .int .i64 k ∧ Hid (kidxFrom src l 0 = kidxFrom src (l.drop k) k) ∧ Hid (Below w.heap.size w wr)) (fun i wr => l.length - (intOf i).toNat)
  case atStart => exact ⟨0, Nat.zero_le _, rfl, Lib.hid rfl, Lib.hid (Below.refl _ _)⟩
  case round =>
    obtain ⟨k, hk, rfl, HI, HB⟩ := hrel
    by_cases hlt : k < l.length
    · obtain ⟨ad, rfl, h0, h1⟩ := at_T70 (Kd.C_below HR.out HB.out) (k : Int) (by omega) (by omega)
      have hrd : Hid (rd_T70 l (k : Int) = l[k]) := Lib.hid (by simp [rd_T70, hlt])
      have HS := Lib.hid (kidxFrom_drop src l k hlt)
      simp only [Int.toNat_natCast] at h0 h1
      generalize hx : rd_T70 l (k : Int) = x at *
      have HX := Lib.hid hx
      clear hx
      have q0 : (wr.cell? ⟨b, 0, none⟩ = some (.string src)) := by rw [HB.out.cell (p := ⟨b, 0, none⟩) hb]; exact HC.out
      have q1 : b < wr.heap.size := Nat.lt_of_lt_of_le hb HB.out.size
      have Q0 := Lib.hid q0
      clear q0
      rcases (show eqS x.f0 src = false ∨ eqS x.f0 src = true by cases eqS x.f0 src <;> simp) with he | he
      · have HE := Lib.hid he
        clear he
        go_wp2_with fail
        refine (asksT_calls x.f0 x.f1 b src _ Q0.out q1).mono ?_
        rintro e w' ⟨rfl, hb'⟩
        rw [HE.out]
        have HB' := Lib.hid (HB.out.trans (hb'.mono HB.out.size))
        clear hb'
        go_wp2_with fail
        go_roundw
        case rel => exact ⟨k + 1, by omega, by go_num, Lib.hid (by rw [HI.out, HS.out, ← hrd.out, if_neg (by rw [HE.out]; decide)]), HB'⟩
        case measure => simp [intOf]; omega
      · have HE := Lib.hid he
        clear he
        go_wp2_with fail
        refine (asksT_calls x.f0 x.f1 b src _ Q0.out q1).mono ?_
        rintro e w' ⟨rfl, hb'⟩
        rw [HE.out]
        have HB' := Lib.hid (HB.out.trans (hb'.mono HB.out.size))
        clear hb'
        go_wp2_with fail
        go_ret
        exact ⟨by rw [HI.out, HS.out, ← hrd.out, if_pos HE.out]; rfl, HB'.out⟩
    · have hd : l.drop k = [] := by rw [List.drop_eq_nil_iff]; omega
      have HD := Lib.hid hd
      clear hd
      go_wp2_with fail
      go_ret
      exact ⟨by rw [HI.out, HD.out]; rfl, HB.out⟩
theorem hasKeyT_calls (A0 : Option Addr) (c0 : Nat) (l : List S70) (b : Nat) (src : ByteArray) (w : World) (hr0 : Kd.C k70 w A0 l.length l) (hl : l.length ≤ 9223372036854775806)
    (hc : w.cell? ⟨b, 0, none⟩ = some (.string src)) (hb : b < w.heap.size) :
    Calls Tryz.prog 108 #[.slice A0 l.length c0, .func (.func 114) #[] #[.pointer (some ⟨b, 0, none⟩)]] w fun e w' => e = .returned (.bool (l.any fun x => eqS x.f0 src)) ∧ Below w.heap.size w w' := by
  have HR := Lib.hid hr0
  have HC := Lib.hid hc
  clear hr0 hc
  go_enter Tryz.func108, Tryz.ntmps108
  go_wp2_with fail
  refine (kindexT_calls A0 c0 l b src _ HR.out hl HC.out hb).mono ?_
  rintro e w' ⟨rfl, hb'⟩
  have HB' := Lib.hid hb'
  clear hb'
  go_wp2_with fail
  go_ret
  exact ⟨by rw [← kidxFrom_any src l 0]; rfl, HB'.out⟩
abbrev At := S70
def atAt (l : List At) (i : Nat) : At := l.getD i z70
def attrOk (l : List At) (i : Nat) : Bool := nameB (atAt l i).f0.data.toList && !((l.take i).any fun x => eqS x.f0 (atAt l i).f0)
/-- May attributes be? -/
def attrsF (l : List At) : Bool := (List.range l.length).all (attrOk l)
theorem attrsF_true {l : List At} (h : ∀ i, i < l.length → attrOk l i = true) : attrsF l = true := by
  unfold attrsF
  rw [List.all_eq_true]
  intro i hi
  exact h i (List.mem_range.1 hi)
theorem attrsF_false {l : List At} {i : Nat} (hi : i < l.length) (h : attrOk l i = false) : attrsF l = false := by
  unfold attrsF
  rw [Bool.eq_false_iff]
  intro h1
  rw [List.all_eq_true] at h1
  have := h1 i (List.mem_range.2 hi)
  rw [h] at this
  cases this
set_option maxRecDepth 100000 in
set_option maxHeartbeats 4000000 in
theorem attrs_calls (A : Option Addr) (c : Nat) (l : List At) (w : World) (hC : Kd.C k70 w A l.length l) (hc : l.length ≤ c) (hl : l.length ≤ 9223372036854775806) (hs : ∀ x ∈ l, x.f0.size ≤ 9223372036854775807) :
    Calls Tryz.prog 95 #[.slice A l.length c] w fun e w' => e = .returned (.bool (attrsF l)) ∧ Below w.heap.size w w' := by
  have HC := Lib.hid hC
  have HS := Lib.hid hs
  have HCC := Lib.hid hc
  have HLL := Lib.hid hl
  clear hC hs hc hl
  go_enter Tryz.func95, Tryz.ntmps95
  go_wp2_with fail
  go_loopw [7] (fun i wr => ∃ k : Nat, k ≤ l.length ∧ i = .int .i64 k ∧ Hid (∀ j, j < k → attrOk l j = true) ∧ Hid (Below w.heap.size w wr)) (fun i wr => l.length - (intOf i).toNat)
  case atStart => exact ⟨0, Nat.zero_le _, rfl, Lib.hid (fun j hj => absurd hj (Nat.not_lt_zero _)), Lib.hid (Below.refl _ _)⟩
  case round =>
    obtain ⟨k, hk, rfl, HI, HB⟩ := hrel
    by_cases hlt : k < l.length
    · obtain ⟨ad, rfl, h0, h1⟩ := at_T70 (Kd.C_below HC.out HB.out) (k : Int) (by omega) (by omega)
      have hrd : rd_T70 l (k : Int) = atAt l k := by unfold rd_T70 atAt; rw [Int.toNat_natCast]
      rw [hrd] at h0 h1
      simp only [Int.toNat_natCast] at h0 h1
      obtain ⟨x, hx⟩ : ∃ x, x = atAt l k := ⟨_, rfl⟩
      rw [← hx] at h0 h1
      have HX := Lib.hid hx
      have HXS := Lib.hid (show x.f0.size ≤ 9223372036854775807 from HS.out x (by rw [hx]; unfold atAt; rw [List.getD_eq_getElem?_getD, List.getElem?_eq_getElem hlt]; exact List.getElem_mem _))
      clear hx hrd
      have X1 := Lib.hid (Blk.alloc wr #[.string x.f0, .string x.f1] 70)
      have XB := Lib.hid (HB.out.trans ((below_alloc (Below.refl wr.heap.size wr) (.cells #[.string x.f0, .string x.f1] 70)).mono HB.out.size))
      have HTK := Lib.hid (show (l.take k).length = k by rw [List.length_take]; omega)
      have i1 : (k : Int) ≤ (c : Int) := by have := HCC.out; omega
      have i2 : (0 : Int) ≤ (k : Int) := by omega
      have hll : l.length ≤ 9223372036854775806 := HLL.out
      go_upto_region 4 with (fail)
      generalize wr.alloc (.cells #[.string x.f0, .string x.f1] 70) = w1 at X1 XB ⊢
      have y0 := X1.out.cell 0
      have y1 := X1.out.cell 1
      simp only [List.getElem?_toArray, List.getElem?_cons_zero, List.getElem?_cons_succ] at y0 y1
      rcases (show nameB x.f0.data.toList = false ∨ nameB x.f0.data.toList = true by cases nameB x.f0.data.toList <;> simp) with hn | hn
      · have HN := Lib.hid hn
        clear hn
        go_wp2_with (go_at_call 17; refine (isName_calls x.f0 _ HXS.out).mono ?_; rintro e w2 ⟨rfl, hb2⟩; rw [HN.out]; have HB2 := Lib.hid (XB.out.trans (hb2.mono XB.out.size)); clear hb2)
        go_ret
        exact ⟨by rw [attrsF_false hlt (by unfold attrOk; rw [← HX.out, HN.out]; rfl)]; rfl, HB2.out⟩
      · have HN := Lib.hid hn
        clear hn
        obtain ⟨h, hh⟩ : ∃ h, h = (l.take k).any (fun y => eqS y.f0 x.f0) := ⟨_, rfl⟩
        have HH := Lib.hid hh
        clear hh
        cases h
        all_goals
          go_wp2_with (first
            | (go_at_call 17; refine (isName_calls x.f0 _ HXS.out).mono ?_; rintro e w2 ⟨rfl, hb2⟩; rw [HN.out]; have HB2 := Lib.hid (XB.out.trans (hb2.mono XB.out.size)); have HX2 := Lib.hid (X1.out.below hb2 X1.out.lt); have z0 : w2.cell? ⟨wr.heap.size, 0, none⟩ = some (.string x.f0) := HX2.out.cell 0; have z1 : wr.heap.size < w2.heap.size := HX2.out.lt; clear hb2 y0 y1)
            | (go_at_call 108; refine Calls.mono (by have hq := hasKeyT_calls (some ad) c (l.take k) wr.heap.size x.f0 w2 (Kd.C_take (m := k) (Kd.C_below HC.out HB2.out) (by omega)) (by have := HLL.out; have := HTK.out; omega) z0 z1; rw [HTK.out] at hq; exact hq) ?_; rintro e w3 ⟨rfl, hb3⟩; rw [← HH.out]; have HB3 := Lib.hid (HB2.out.trans (hb3.mono HB2.out.size)); clear hb3 z0 z1))
        · go_roundw
          case rel => exact ⟨k + 1, by omega, by go_num, Lib.hid (fun j hj => by
            by_cases hjk : j < k
            · exact HI.out j hjk
            · have : j = k := by omega
              subst this
              unfold attrOk
              rw [← HX.out, HN.out, ← HH.out]; rfl), HB3⟩
          case measure => simp [intOf]; omega
        · go_ret
          exact ⟨by rw [attrsF_false hlt (by unfold attrOk; rw [← HX.out, HN.out, ← HH.out]; rfl)]; rfl, HB3.out⟩
    · go_wp2_with fail
      go_ret
      exact ⟨by rw [attrsF_true (fun i hi => HI.out i (by omega))]; rfl, HB.out⟩
/-- May a token be? -/
def rightF (t : S46) : Bool := if t.f0 = 1 then nameB t.f1.data.toList && attrsF t.f3 else if t.f0 = 2 then nameB t.f1.data.toList else decide (t.f0 = 3)
set_option maxRecDepth 100000 in
set_option maxHeartbeats 4000000 in
theorem right_calls (t : S46) (A : Option Addr) (c : Nat) (w : World) (hC : Kd.C k70 w A t.f3.length t.f3) (hc : t.f3.length ≤ c) (hl : t.f3.length ≤ 9223372036854775806) (hs : ∀ x ∈ t.f3, x.f0.size ≤ 9223372036854775807) (hn : t.f1.size ≤ 9223372036854775807) :
    Calls Tryz.prog 60 #[.agg #[.int .i64 t.f0, .string t.f1, .string t.f2, .slice A t.f3.length c]] w fun e w' => e = .returned (.bool (rightF t)) ∧ Below w.heap.size w w' := by
  have HC := Lib.hid (Kd.C_below hC (below_alloc (Below.refl w.heap.size w) (.cells #[.int .i64 t.f0, .string t.f1, .string t.f2, .slice A t.f3.length c] 46)))
  have X1 := Lib.hid (Blk.alloc w #[.int .i64 t.f0, .string t.f1, .string t.f2, .slice A t.f3.length c] 46)
  have XB := Lib.hid (below_alloc (Below.refl w.heap.size w) (.cells #[.int .i64 t.f0, .string t.f1, .string t.f2, .slice A t.f3.length c] 46))
  have HS := Lib.hid hs
  have HCC := Lib.hid hc
  have HLL := Lib.hid hl
  have HN := Lib.hid hn
  clear hC hs hc hl hn
  by_cases h1 : t.f0 = 1
  · rcases (show nameB t.f1.data.toList = false ∨ nameB t.f1.data.toList = true by cases nameB t.f1.data.toList <;> simp) with hb | hb
    all_goals
      have HR := Lib.hid (show rightF t = (nameB t.f1.data.toList && attrsF t.f3) from by unfold rightF; rw [if_pos h1])
      have HNB := Lib.hid hb
    · clear hb
      have v1 : (t.f0 == 1) = true := by simpa using h1
      clear h1
      go_enter Tryz.func60, Tryz.ntmps60
      go_upto_region 1 with (fail)
      generalize w.alloc (.cells #[.int .i64 t.f0, .string t.f1, .string t.f2, .slice A t.f3.length c] 46) = w1 at HC X1 XB ⊢
      have y0 := X1.out.cell 0
      have y1 := X1.out.cell 1
      simp only [List.getElem?_toArray, List.getElem?_cons_zero, List.getElem?_cons_succ] at y0 y1
      go_wp2_with (go_at_call 17; refine (isName_calls t.f1 _ HN.out).mono ?_; rintro e w2 ⟨rfl, hb2⟩; rw [HNB.out]; have HB2 := Lib.hid (XB.out.trans (hb2.mono XB.out.size)); clear hb2)
      go_ret
      exact ⟨by rw [HR.out, HNB.out]; rfl, HB2.out⟩
    · clear hb
      have v1 : (t.f0 == 1) = true := by simpa using h1
      clear h1
      go_enter Tryz.func60, Tryz.ntmps60
      go_upto_region 1 with (fail)
      generalize w.alloc (.cells #[.int .i64 t.f0, .string t.f1, .string t.f2, .slice A t.f3.length c] 46) = w1 at HC X1 XB ⊢
      have y0 := X1.out.cell 0
      have y1 := X1.out.cell 1
      simp only [List.getElem?_toArray, List.getElem?_cons_zero, List.getElem?_cons_succ] at y0 y1
      go_wp2_with (first
        | (go_at_call 17; refine (isName_calls t.f1 _ HN.out).mono ?_; rintro e w2 ⟨rfl, hb2⟩; rw [HNB.out]; have HB2 := Lib.hid (XB.out.trans (hb2.mono XB.out.size)); have HC2 := Lib.hid (Kd.C_below HC.out hb2); have z3 : w2.cell? ⟨w.heap.size, 3, none⟩ = some (.slice A t.f3.length c) := (X1.out.below hb2 X1.out.lt).cell 3; clear hb2 y0 y1)
        | (go_at_call 95; refine (attrs_calls A c t.f3 _ HC2.out HCC.out HLL.out HS.out).mono ?_; rintro e w3 ⟨rfl, hb3⟩; have HB3 := Lib.hid (HB2.out.trans (hb3.mono HB2.out.size)); clear hb3))
      go_ret
      exact ⟨by rw [HR.out, HNB.out]; rfl, HB3.out⟩
  by_cases h2 : t.f0 = 2
  · have HR := Lib.hid (show rightF t = nameB t.f1.data.toList from by unfold rightF; rw [if_neg h1, if_pos h2])
    have v1 : (t.f0 == 1) = false := by simpa using h1
    have v2 : (t.f0 == 2) = true := by simpa using h2
    clear h1 h2
    go_enter Tryz.func60, Tryz.ntmps60
    go_upto_region 1 with (fail)
    generalize w.alloc (.cells #[.int .i64 t.f0, .string t.f1, .string t.f2, .slice A t.f3.length c] 46) = w1 at HC X1 XB ⊢
    have y0 := X1.out.cell 0
    have y1 := X1.out.cell 1
    simp only [List.getElem?_toArray, List.getElem?_cons_zero, List.getElem?_cons_succ] at y0 y1
    go_wp2_with (go_at_call 17; refine (isName_calls t.f1 _ HN.out).mono ?_; rintro e w2 ⟨rfl, hb2⟩; have HB2 := Lib.hid (XB.out.trans (hb2.mono XB.out.size)); clear hb2)
    go_ret
    exact ⟨by rw [HR.out]; rfl, HB2.out⟩
  · have HR := Lib.hid (show rightF t = (t.f0 == 3) from by unfold rightF; rw [if_neg h1, if_neg h2]; rfl)
    have v1 : (t.f0 == 1) = false := by simpa using h1
    have v2 : (t.f0 == 2) = false := by simpa using h2
    clear h1 h2
    go_enter Tryz.func60, Tryz.ntmps60
    go_upto_region 1 with (fail)
    generalize w.alloc (.cells #[.int .i64 t.f0, .string t.f1, .string t.f2, .slice A t.f3.length c] 46) = w1 at HC X1 XB ⊢
    have y0 := X1.out.cell 0
    simp only [List.getElem?_toArray, List.getElem?_cons_zero, List.getElem?_cons_succ] at y0
    go_wp2_with fail
    go_ret
    exact ⟨by rw [HR.out]; rfl, XB.out⟩
end Go.Proofs.YtkjgnkmnngaioaaGreat.Q
namespace Go.Proofs.YtkjgnkmnngaioaaGreat.Q
open Go.RowKit
variable {F : Fence} {n : Nat} {P : Program}
/-- What the iterator owes: over whatever is true between two rounds and does not look at its box. -/
def BoxSeq {α : Type} (F : Fence) (n : Nat) (P : Program) (gf : Nat) (lb : Array Value) (encs : α → Array Value) (Bx : Nat) (Kp : World → World → Prop) (S Sp : List α → Prop) (N : Nat) (w : World) : Prop :=
  ∀ (l : Nat) (J Jx : List α → World → Prop) (W : World), Below w.heap.size w W → (∀ s X v, J s X → J s (X.setCell ⟨Bx, 0, none⟩ v)) →
    (∀ pre x W1, J pre W1 → pre.length < N → YieldAt F (n - 1) P l (encs x) W1 fun e W' =>
      (e = .returned (.bool true) ∧ J (pre ++ [x]) W' ∧ Kp W1 W') ∨ (e = .returned (.bool false) ∧ Jx (pre ++ [x]) W')) →
    J [] W →
    CallsIn F n P gf (#[.func (.yield l) #[] #[]] ++ lb) W fun e W' => (∃ v, e = .returned v) ∧ ((∃ xs, S xs ∧ J xs W') ∨ (∃ pre, Sp pre ∧ Jx pre W'))
theorem range_box {α : Type} {g : Operand} {ps : Array Tmp} {assign body : Code} {Q : Exit → Act → World → Prop} {a : Act} {w : World}
    (hro : F.round = none) (h1 : 1 ≤ n) {gf : Nat} {lb : Array Value} (hg : a.eval g = .func (.func gf) #[] lb) (hFg : F.fn gf) (eg : ∀ args w, (callFunc gf args).run P w = .ok (.enter gf args) w)
    {encs : α → Array Value} {Bx : Nat} {Kp : World → World → Prop} {S Sp : List α → Prop} {N : Nat} (hBx : Bx < w.heap.size) (hseq : BoxSeq F (n - 1) P gf lb encs Bx Kp S Sp N w)
    (hKt : ∀ {A B C : World}, Kp A B → Kp B C → Kp A C) (hKb : ∀ (W : World) (l : Nat) (o o' : Obj), w.heap.size ≤ l → W.heap[l]? = some o → o.isCells = false → Kp W (W.putObj l o')) (hps : ∀ x, (encs x).size = ps.size)
    (I : List α → World → Prop) (Ix : Code → List α → World → Prop) (hI : OwnFrom w.heap.size I) (hIx : ∀ c, OwnFrom w.heap.size (Ix c)) (hIb : ∀ s X v, I s X → I s (X.setCell ⟨Bx, 0, none⟩ v)) (h0 : I [] w) (a₁ : α → Act)
    (hassign : ∀ (l : Nat) (x : α) (W : World) (K : Act → World → Prop), K (a₁ x) W →
      assign.wpIn (F.inRound l) (n - 1 - 1) P (Exit.then K (fun _ _ _ => False)) { tmps := (ps.zip (encs x)).foldl (fun t (p, v) => t.setIfInBounds p v) a.tmps, defers := [] } W)
    (hbody : ∀ (l : Nat) (pre : List α) (x : α) (W : World), I pre W → pre.length < N → body.wpIn (F.inRound l) (n - 1 - 1) P (ownPostG w.heap.size Kp I Ix (pre ++ [x]) W) (a₁ x) W)
    (hdone : ∀ (D : Nat) (xs : List α) (W : World), w.heap.size ≤ D → S xs → I xs W → W.heap[D]? = some (.deferred (some [])) → Q .normal { a with defers := { target := .collected D, args := #[] } :: a.defers } W)
    (hstop : ∀ (D : Nat) (c : Code) (pre : List α) (W : World), w.heap.size ≤ D → Sp pre → Ix c pre W → W.heap[D]? = some (.deferred (some [])) → c.wpIn F n P Q { a with defers := { target := .collected D, args := #[] } :: a.defers } W) :
    (Code.rangeFunc g ps assign body).wpIn F n P Q a w := by
  refine wpIn_rangeFunc fun fn hfn => ?_
  rw [hro]
  -- the loop's record, and the block for the rounds' deferred calls
  obtain ⟨rec, hrec⟩ : ∃ rec : LoopState → Option Code → Loop, rec = fun st pe => { state := st, pending := pe, fn, tmps := a.tmps, params := ps, assign, body, defers := w.heap.size } := ⟨_, rfl⟩
  let V : World → LoopState → Option Code → Prop := fun X st pe => X.heap[w.heap.size + 1]? = some (.loop (rec st pe)) ∧ X.heap[w.heap.size]? = some (.deferred (some []))
  have hV0 : V ((w.alloc (.deferred (some []))).alloc (.loop (rec .ready none))) .ready none := by
    refine ⟨?_, (Below.heap_alloc _ _ _ (by simp)).trans (World.alloc_heap_new w _)⟩
    have := World.alloc_heap_new (w.alloc (.deferred (some []))) (.loop (rec .ready none))
    rwa [World.size_alloc] at this
  have hVs : ∀ X v st pe, V X st pe → V (X.setCell ⟨Bx, 0, none⟩ v) st pe := fun X v st pe h =>
    ⟨(Below.heap_setCell X ⟨Bx, 0, none⟩ v _ (show w.heap.size + 1 ≠ Bx by omega)).trans h.1, (Below.heap_setCell X ⟨Bx, 0, none⟩ v _ (show w.heap.size ≠ Bx by omega)).trans h.2⟩
  have hB0 : Below w.heap.size w ((w.alloc (.deferred (some []))).alloc (.loop (rec .ready none))) := ((Below.refl _ w).alloc (Nat.le_refl _) _).alloc (by simp) _
  have hI0 : I [] ((w.alloc (.deferred (some []))).alloc (.loop (rec .ready none))) := hI.alloc _ (hI.alloc _ h0)
  obtain ⟨W1, hW1⟩ : ∃ W1, W1 = (w.alloc (.deferred (some []))).alloc (.loop (rec .ready none)) := ⟨_, rfl⟩
  rw [← hW1] at hV0 hB0 hI0
  refine ⟨w.heap.size + 1, [{ target := .collected w.heap.size, args := #[] }], W1, { target := .fn (.func gf) lb, args := #[.func (.yield (w.heap.size + 1)) #[] #[]] }, W1, gf,
    #[.func (.yield (w.heap.size + 1)) #[] #[]] ++ lb, W1, ?_, ?_, ?_, ?_, fun _ => h1, ?_⟩
  · rw [hW1, hrec]; exact run_enterLoop_outer _ _ _ _ _
  · simp only [resolve, hg]
    simp [go_sem]
  · intro f' hf'
    simp [Target.leads] at hf'
    subst hf'
    exact hFg
  · simp [invoke, go_sem, eg]
  · refine (hseq (w.heap.size + 1) (fun pre X => I pre X ∧ V X .ready none) (fun pre X => ∃ c, Ix c pre X ∧ V X .done (some c)) _ hB0 (fun s X v h => ⟨hIb s X v h.1, hVs X v _ _ h.2⟩) ?_ ⟨hI0, hV0⟩).mono ?_
    · -- a round
      rintro pre x X ⟨hi, hl, hk⟩ hlen
      have hlt : w.heap.size + 1 < X.heap.size := (Array.getElem?_eq_some_iff.1 hl).1
      have hy := run_yield (P := P) (args := encs x) hl (by rw [hrec]; exact hps x)
      rw [hrec] at hy
      refine ⟨fn, _, assign, body, hy, roundIn_of_wpIn hfn (hassign _ x X _ ⟨_, run_beginRound hl (by rw [hrec]), ?_⟩)⟩
      obtain ⟨Y, hYe⟩ : ∃ Y, Y = X.putObj (w.heap.size + 1) (.loop { rec .ready none with state := .busy }) := ⟨_, rfl⟩
      have hlY : Y.heap[w.heap.size + 1]? = some (.loop { rec .ready none with state := .busy }) := by rw [hYe]; exact World.putObj_heap_same hlt
      have hkY : Y.heap[w.heap.size]? = some (.deferred (some [])) := by rw [hYe]; exact (World.putObj_heap_other (by omega)).trans hk
      have hpY : Kp X Y := by rw [hYe]; exact hKb _ _ _ _ (by omega) hl rfl
      have hiY : I pre Y := by rw [hYe]; exact hI.putObj _ hi (by omega) hl rfl
      have hb := hbody (w.heap.size + 1) pre x Y hiY hlen
      rw [← hYe]
      refine wpIn_mono hb ?_
      -- behind the body: the record is laid anew
      have fin : ∀ (jump : Option Code) (Z : World), KeepsFrom w.heap.size Y Z →
          Z.heap[w.heap.size + 1]? = some (.loop { rec .ready none with state := .busy }) ∧
          (Instr.endRound (w.heap.size + 1) jump).run P Z = .ok (.bool jump.isNone) (Z.putObj (w.heap.size + 1) (.loop (rec (if jump.isNone then .ready else .done) jump))) ∧
          V (Z.putObj (w.heap.size + 1) (.loop (rec (if jump.isNone then .ready else .done) jump))) (if jump.isNone then .ready else .done) jump := by
        intro jump Z hz
        have hlZ := hz.same _ _ (by omega) hlY rfl
        refine ⟨hlZ, ?_, World.putObj_heap_same (Array.getElem?_eq_some_iff.1 hlZ).1, (World.putObj_heap_other (by omega)).trans (hz.same _ _ (Nat.le_refl _) hkY rfl)⟩
        have hr := run_endRound (P := P) jump hlZ
        rw [hrec] at hr ⊢
        exact hr
      have out : ∀ (c : Code) (Z : World), KeepsFrom w.heap.size Y Z → Ix c (pre ++ [x]) Z → ∃ v W', (Instr.endRound (w.heap.size + 1) (some c)).run P Z = .ok v W' ∧
          ((v = .bool true ∧ (I (pre ++ [x]) W' ∧ V W' .ready none) ∧ Kp X W') ∨ (v = .bool false ∧ ∃ c, Ix c (pre ++ [x]) W' ∧ V W' .done (some c))) := by
        intro c Z hz hi3
        obtain ⟨hlZ, hr, hv⟩ := fin (some c) Z hz
        exact ⟨_, _, hr, .inr ⟨rfl, c, (hIx c).putObj _ hi3 (by omega) hlZ rfl, hv⟩⟩
      rintro e a3 Z hp
      cases e with
      | normal =>
        obtain ⟨hz, hkp, hi3⟩ := hp
        obtain ⟨hlZ, hr, hv⟩ := fin none Z hz
        exact ⟨_, _, hr, .inl ⟨rfl, ⟨hI.putObj _ hi3 (by omega) hlZ rfl, hv⟩, hKt (hKt hpY hkp) (hKb _ _ _ _ (by omega) hlZ rfl)⟩⟩
      | ret =>
        obtain ⟨_, _, hr, h⟩ := out .ret Z hp.1 hp.2
        exact ⟨_, _, hr, h.imp (fun h => ⟨congrArg _ h.1, h.2⟩) (fun h => ⟨congrArg _ h.1, h.2⟩)⟩
      | exit id =>
        obtain ⟨_, _, hr, h⟩ := out (.exit id) Z hp.1 hp.2
        exact ⟨_, _, hr, h.imp (fun h => ⟨congrArg _ h.1, h.2⟩) (fun h => ⟨congrArg _ h.1, h.2⟩)⟩
      | goto t =>
        obtain ⟨_, _, hr, h⟩ := out (.goto t) Z hp.1 hp.2
        exact ⟨_, _, hr, h.imp (fun h => ⟨congrArg _ h.1, h.2⟩) (fun h => ⟨congrArg _ h.1, h.2⟩)⟩
      | panic ch => exact hp.elim
      | outgrown => exact hp.elim
    · -- behind the iterator
      rintro e X ⟨⟨v, rfl⟩, (⟨xs, hS, hi, hl, hk⟩ | ⟨pre, hSp, c, hi, hl, hk⟩)⟩
      · have hr := run_endLoop (P := P) hl (by rw [hrec]; simp)
        rw [hrec] at hr
        exact ⟨none, _, hr, hdone _ xs _ (Nat.le_refl _) hS (hI.putObj _ hi (by omega) hl rfl) ((World.putObj_heap_other (by omega)).trans hk)⟩
      · have hr := run_endLoop (P := P) hl (by rw [hrec]; simp)
        rw [hrec] at hr
        exact ⟨some c, _, hr, hstop _ c pre _ (Nat.le_refl _) hSp ((hIx c).putObj _ hi (by omega) hl rfl) ((World.putObj_heap_other (by omega)).trans hk)⟩
end Go.Proofs.YtkjgnkmnngaioaaGreat.Q
namespace Go.Proofs.YtkjgnkmnngaioaaGreat.Q
open Go.RowKit Go.IntWalk Go.Proofs.YtkjgnkmnngaioaaGreat.Mem Go.Proofs.YtkjgnkmnngaioaaGreatW.PrintWords Go.Proofs.YtkjgnkmnngaioaaGreatW.PrintLast Go.Proofs.YtkjgnkmnngaioaaGreatW.PrintMore
set_option linter.unusedVariables false
set_option linter.unusedSimpArgs false
attribute [local go_sem] Oper.semAt_some
abbrev Nd := S49
def ndAt (l : List Nd) (i : Nat) : Nd := l.getD i z49
/-- A node and those above it. -/
def upL (l : List Nd) : Nat → Int → List (Fin l.length)
  | 0, _ => []
  | f + 1, a => if h : 0 ≤ a ∧ a.toNat < l.length then ⟨a.toNat, h.2⟩ :: upL l f (ndAt l a.toNat).f0 else []
/-- Parents stand ahead. -/
def okUp (l : List Nd) : Prop := ∀ i, i < l.length → (ndAt l i).f0 < (i : Int)
theorem upL_len (l : List Nd) : ∀ f a, (upL l f a).length ≤ f
  | 0, _ => Nat.le_refl _
  | f + 1, a => by
    rw [upL]
    split
    · have := upL_len l f (ndAt l a.toNat).f0
      rw [List.length_cons]; omega
    · exact Nat.zero_le _
theorem upL_step {l : List Nd} {f m : Nat} (h : m < l.length) : upL l (f + 1) (m : Int) = ⟨m, h⟩ :: upL l f (ndAt l m).f0 := by
  rw [upL, dif_pos ⟨by omega, by rw [Int.toNat_natCast]; exact h⟩]
  rfl
theorem upL_stop {l : List Nd} {f : Nat} {a : Int} (h : ¬ (0 ≤ a ∧ a < (l.length : Int))) : upL l f a = [] := by
  cases f with
  | zero => rfl
  | succ f => rw [upL, dif_neg (fun h1 => h ⟨h1.1, by omega⟩)]
def encU {L : Nat} (x : Fin L) : Array Value := #[.int .i64 (x.1 : Int)]
/-- What a round that goes on keeps: what lay below, and the two boxes. -/
def KpU (n0 Ba Bl : Nat) (W W' : World) : Prop := Below n0 W W' ∧ ∀ (b : Nat) (cs : Array Value) (T : TypeId), b = Ba ∨ b = Bl → Blk W b cs T → Blk W' b cs T
theorem up_calls (A : Option Addr) (n c : Nat) (a : Int) (w : World) :
    Calls Tryz.prog 94 #[.slice A n c, .int .i64 a] w fun e w' => e = .returned (.func (.func 113) #[] #[.pointer (some ⟨w.heap.size + 1, 0, none⟩), .pointer (some ⟨w.heap.size, 0, none⟩)]) ∧
      w' = (w.alloc (.cells #[.slice A n c] 38)).alloc (.cells #[.int .i64 a] 3) := by
  go_enter Tryz.func94, Tryz.ntmps94
  go_wp2
  go_ret
  exact ⟨rfl, rfl⟩
def leftU (B : Nat) (W : World) : Nat := match W.cell? ⟨B, 0, none⟩ with
  | some (.int _ a) => (a + 1).toNat
  | _ => 0
theorem leftU_of {B : Nat} {W : World} {a : Int} (h : Blk W B #[.int .i64 a] 3) : leftU B W = (a + 1).toNat := by
  unfold leftU
  rw [h.cell 0]
  rfl
set_option maxRecDepth 100000 in
set_option maxHeartbeats 4000000 in
theorem up_box (F : Fence) (n : Nat) (hf : F.fn 113) (hro : F.round = none) (hn : 1 ≤ n) (Ba Bl : Nat) (A : Option Addr) (c : Nat) (l : List Nd) (a0 : Int) (w0 w1 : World) (hC : Kd.C k49 w0 A l.length l) (hok : okUp l)
    (h1 : Below w0.heap.size w0 w1) (hBa : Blk w1 Ba #[.int .i64 a0] 3) (hBl : Blk w1 Bl #[.slice A l.length c] 38) (hab : Ba ≠ Bl) (h0a : w0.heap.size ≤ Ba) :
    BoxSeq F n Tryz.prog 113 #[.pointer (some ⟨Ba, 0, none⟩), .pointer (some ⟨Bl, 0, none⟩)] (fun x : Fin l.length => encU x) Ba (KpU w0.heap.size Ba Bl) (fun ys => ys = upL l (l.length + 1) a0) (fun pre => ∃ q, upL l (l.length + 1) a0 = pre ++ q) (l.length + 1) w1 := by
  intro r J Jx W hW hJb hY h0
  have HC := Lib.hid hC
  have HOK := Lib.hid hok
  have HY := Lib.hid hY
  have HJB := Lib.hid hJb
  have HA := Lib.hid (hBa.below hW hBa.lt)
  have HL := Lib.hid (hBl.below hW hBl.lt)
  have HB := Lib.hid (h1.trans (hW.mono h1.size))
  have HAB := Lib.hid hab
  have H0A := Lib.hid h0a
  clear hC hok hY hJb hBa hBl h1 hW hab h0a
  refine callsIn_of_wp Tryz.func113 rfl hf ?_ hro
  simp only [Tryz.ntmps113, List.size_toArray, List.length_cons, List.length_nil, Nat.reduceAdd, Nat.reduceSub, Array.replicate_succ, Array.replicate_zero, List.push_toArray, List.append_toArray, List.nil_append, List.cons_append]
  gi_wp2
  gi_loopw [] (fun wr => ∃ (pre : List (Fin l.length)) (a : Int) (f : Nat), Hid ((a < (f : Int) ∨ (l.length : Int) ≤ a) ∧ upL l (l.length + 1) a0 = pre ++ upL l f a) ∧ J pre wr ∧ Hid (Blk wr Ba #[.int .i64 a] 3) ∧ Hid (Blk wr Bl #[.slice A l.length c] 38) ∧ Hid (Below w0.heap.size w0 wr))
    (fun wr => leftU Ba wr)
  case atStart => exact ⟨[], a0, l.length + 1, Lib.hid ⟨by omega, rfl⟩, h0, HA, HL, HB⟩
  case round =>
    obtain ⟨pre, a, f, HP, hJs, HA, HL, HB⟩ := hrel
    have y0 := HA.out.cell 0
    have y1 := HL.out.cell 0
    have z0 := HA.out.free 0
    simp only [List.getElem?_toArray, List.getElem?_cons_zero] at y0 y1
    by_cases h : 0 ≤ a ∧ a < (l.length : Int)
    · obtain ⟨m, rfl⟩ : ∃ m : Nat, a = (m : Int) := ⟨a.toNat, by omega⟩
      have hm : m < l.length := by omega
      obtain ⟨f, rfl⟩ : ∃ f', f = f' + 1 := ⟨f - 1, by have := HP.out.1; omega⟩
      have HP2 := Lib.hid (show upL l (l.length + 1) a0 = (pre ++ [⟨m, hm⟩]) ++ upL l f (ndAt l m).f0 from by rw [HP.out.2, upL_step hm]; simp)
      have HF := Lib.hid (show (ndAt l m).f0 < (f : Int) from by have := HP.out.1; have := HOK.out m hm; omega)
      have HLT := Lib.hid (HOK.out m hm)
      have hpl : pre.length < l.length + 1 := by
        have := upL_len l (l.length + 1) a0
        rw [HP2.out] at this
        simp at this
        omega
      obtain ⟨fn, tmps, assign, body, hy, hR⟩ := HY.out pre ⟨m, hm⟩ wr hJs hpl
      simp only [encU] at hy
      have HR := Lib.hid hR
      clear hR HP hpl
      have HW := Lib.hid HB.out
      have HLW := Lib.hid (leftU_of HA.out)
      have i1 : (0 : Int) ≤ (m : Int) := by omega
      have i2 : (m : Int) < (l.length : Int) := h.2
      clear h
      gi_wp2
      refine HR.out.mono ?_
      rintro e W3 (⟨rfl, hJ3, hk3⟩ | ⟨rfl, hJx3⟩)
      · have HJ3 := Lib.hid hJ3
        have HB3 := Lib.hid (HB.out.trans hk3.1)
        have HA3 := Lib.hid (hk3.2 _ _ _ (.inl rfl) HA.out)
        have HL3 := Lib.hid (hk3.2 _ _ _ (.inr rfl) HL.out)
        clear hJ3 hk3 y0 y1 z0
        obtain ⟨ad, A3, c3, A4, c4, hadA, e0, -⟩ := at_T49 (Kd.C_below HC.out HB3.out) (m : Int) i1 i2
        rw [Int.toNat_natCast] at e0
        have y0 := HA3.out.cell 0
        have y1 := HL3.out.cell 0
        have z0 := HA3.out.free 0
        simp only [List.getElem?_toArray, List.getElem?_cons_zero] at y0 y1
        subst hadA
        have hrd : rd_T49 l (m : Int) = ndAt l m := by unfold rd_T49 ndAt; rw [Int.toNat_natCast]
        rw [hrd] at e0
        clear hrd
        have HNE := Lib.hid (show ((ndAt l m).f0 + 1).toNat < m + 1 from by have := HLT.out; omega)
        obtain ⟨p, hp⟩ : ∃ p, p = (ndAt l m).f0 := ⟨_, rfl⟩
        rw [← hp] at e0 HP2 HF HNE
        clear hp HLT
        gi_wp2
        have HAF := Lib.hid (show Blk (W3.setCell ⟨Ba, 0, none⟩ (.int .i64 p)) Ba #[.int .i64 p] 3 from HA3.out.set 0 (.int .i64 p))
        go_roundw
        case rel => exact ⟨_, p, f, Lib.hid ⟨.inl HF.out, HP2.out⟩, HJB.out _ _ _ HJ3.out, HAF, Lib.hid (HL3.out.setCell_other _ (Ne.symm HAB.out)), Lib.hid (HB3.out.setCell (p := ⟨Ba, 0, none⟩) H0A.out _)⟩
        case measure => rw [leftU_of HAF.out, HLW.out]; have := HNE.out; omega
      · gi_wp2
        go_end0
        exact ⟨⟨_, rfl⟩, .inr ⟨_, ⟨_, HP2.out⟩, hJx3⟩⟩
    · have HE := Lib.hid (show upL l (l.length + 1) a0 = pre from by rw [HP.out.2, upL_stop h, List.append_nil])
      by_cases h1 : 0 ≤ a
      · have h2 : ¬ (a < (l.length : Int)) := fun h2 => h ⟨h1, h2⟩
        clear h
        gi_wp2
        refine ⟨fun _ h => (by cases h), ?_⟩
        gi_wp2
        go_end0
        exact ⟨⟨_, rfl⟩, .inl ⟨_, HE.out.symm, hJs⟩⟩
      · clear h
        gi_wp2
        refine ⟨fun _ h => (by cases h), ?_⟩
        gi_wp2
        go_end0
        exact ⟨⟨_, rfl⟩, .inl ⟨_, HE.out.symm, hJs⟩⟩
end Go.Proofs.YtkjgnkmnngaioaaGreat.Q
namespace Go.Proofs.YtkjgnkmnngaioaaGreat.Q
open Go.RowKit Go.Shelf Go.IntWalk Go.Proofs.YtkjgnkmnngaioaaGreat.Mem Go.Proofs.YtkjgnkmnngaioaaGreatW.PrintWords Go.Proofs.YtkjgnkmnngaioaaGreatW.PrintLast Go.Proofs.YtkjgnkmnngaioaaGreatW.PrintMore
set_option linter.unusedVariables false
set_option linter.unusedSimpArgs false
attribute [local go_sem] Oper.semAt_some
/-- How deep a node is. -/
def depthF (l : List Nd) (a : Int) : Int := ((upL l (l.length + 1) a).length : Int) - 1
theorem kept_row {b B : Nat} {W W' : World} {row : Option Nat} {cs : Array Value} {T : TypeId} (h : Blk W b cs T) (hg : W.grownBy W' row) (hr : ∀ r, row = some r → B ≤ r ∧ ∃ o : Obj, W.heap[r]? = some o ∧ o.isCells = false) : Blk W' b cs T := by
  refine (hg.block b h.lt (fun e => ?_)).trans h
  obtain ⟨-, o, ho, hc⟩ := hr b e.symm
  unfold Blk at h
  rw [h] at ho
  cases ho
  cases hc
theorem below_row {n0 B : Nat} {w W W' : World} {row : Option Nat} (h : Below n0 w W) (hw : n0 ≤ w.heap.size) (hB : n0 ≤ B) (hg : W.grownBy W' row) (hr : ∀ r, row = some r → B ≤ r ∧ ∃ o : Obj, W.heap[r]? = some o ∧ o.isCells = false) : Below n0 w W' :=
  h.grown hg (Nat.le_trans hw h.size) (fun r e => by have := (hr r e).1; omega)
theorem kpu_b {n0 Ba Bl : Nat} {w : World} (hn : n0 ≤ w.heap.size) (W : World) (k : Nat) (o o' : Obj) (hk : w.heap.size ≤ k) (h : W.heap[k]? = some o) (hc : o.isCells = false) : KpU n0 Ba Bl W (W.putObj k o') := by
  refine ⟨(Below.refl n0 W).grown (grownBy_putObj' W k o') (by have := (Array.getElem?_eq_some_iff.1 h).1; omega) (fun j e => by cases e; omega), fun b cs T _ hb => ?_⟩
  exact kept_row (B := 0) hb (grownBy_putObj' W k o') (fun r e => by cases e; exact ⟨Nat.zero_le _, o, h, hc⟩)
def DpI (n0 : Nat) (w : World) {L : Nat} (pre : List (Fin L)) (W : World) : Prop := Blk W n0 #[.int .i64 ((pre.length : Int) - 1)] 3 ∧ Below n0 w W
set_option maxRecDepth 100000 in
set_option maxHeartbeats 4000000 in
theorem depth_calls (A : Option Addr) (c : Nat) (l : List Nd) (a : Int) (w : World) (hC : Kd.C k49 w A l.length l) (hok : okUp l) (hL : l.length ≤ 1000000) :
    Calls Tryz.prog 59 #[.slice A l.length c, .int .i64 a] w fun e w' => e = .returned (.int .i64 (depthF l a)) ∧ Below w.heap.size w w' := by
  have HC := Lib.hid hC
  have HOK := Lib.hid hok
  have HLL := Lib.hid hL
  clear hC hok hL
  refine (callsIn_wide (n := 5)).1 ?_
  refine callsIn_of_wp_marks Tryz.func59 rfl trivial ?_ rfl
  simp only [Tryz.ntmps59, List.size_toArray, List.length_cons, List.length_nil, Nat.reduceAdd, Nat.reduceSub, Array.replicate_succ, Array.replicate_zero, List.push_toArray, List.append_toArray, List.nil_append, List.cons_append]
  refine wpIn_wide.2 ?_
  go_wp2_with (go_at_call 94; refine (up_calls _ _ _ _ _).mono ?_; rintro e w2 ⟨rfl, rfl⟩)
  rename_i K hKK
  have HKK := Lib.hid hKK
  clear hKK
  have X0 := Blk.alloc w #[.int .i64 (-1)] 3
  have X1 := Blk.alloc_at (w.alloc (.cells #[.int .i64 (-1)] 3)) (b := w.heap.size + 1) #[.slice A l.length c] 38 (by simp)
  have X2 := Blk.alloc_at ((w.alloc (.cells #[.int .i64 (-1)] 3)).alloc (.cells #[.slice A l.length c] 38)) (b := w.heap.size + 2) #[.int .i64 a] 3 (by simp)
  have Y0 := Lib.hid ((X0.alloc_old (.cells #[.slice A l.length c] 38)).alloc_old (.cells #[.int .i64 a] 3))
  have Y1 := Lib.hid (X1.alloc_old (.cells #[.int .i64 a] 3))
  have Y2 := Lib.hid X2
  have YB := Lib.hid (show Below w.heap.size w (((w.alloc (.cells #[.int .i64 (-1)] 3)).alloc (.cells #[.slice A l.length c] 38)).alloc (.cells #[.int .i64 a] 3)) from below_alloc (below_alloc (below_alloc (Below.refl _ _) _) _) _)
  have YS := Lib.hid (show (((w.alloc (.cells #[.int .i64 (-1)] 3)).alloc (.cells #[.slice A l.length c] 38)).alloc (.cells #[.int .i64 a] 3)).heap.size = w.heap.size + 3 by simp)
  clear X0 X1 X2
  generalize (((w.alloc (.cells #[.int .i64 (-1)] 3)).alloc (.cells #[.slice A l.length c] 38)).alloc (.cells #[.int .i64 a] 3)) = W0 at Y0 Y1 Y2 YB YS ⊢
  refine (wpIn_wide (n := 5)).1 ?_
  refine range_box (α := Fin l.length) rfl (by decide) (gf := 113) (lb := #[.pointer (some ⟨w.heap.size + 1 + 1, 0, none⟩), .pointer (some ⟨w.heap.size + 1, 0, none⟩)]) rfl trivial (enters_of Tryz.func113 (by kernel_rfl) rfl)
    (show w.heap.size + 2 < W0.heap.size by have := YS.out; omega)
    (up_box Fence.wide (5 - 1) trivial rfl (by decide) (w.heap.size + 2) (w.heap.size + 1) A c l a w W0 HC.out HOK.out YB.out Y2.out Y1.out (by omega) (by omega))
    (fun h k => ⟨h.1.trans k.1, fun b cs T hb h3 => k.2 b cs T hb (h.2 b cs T hb h3)⟩) (kpu_b (by have := YS.out; omega)) (fun _ => rfl)
    (DpI w.heap.size w) (fun _ _ _ => False)
    (fun s X X' row hs hg hr => ⟨kept_row hs.1 hg hr, below_row hs.2 (Nat.le_refl _) (by have := YS.out; omega) hg hr⟩)
    (fun _ _ _ _ _ h _ _ => h)
    (fun s X v hs => ⟨hs.1.setCell_other v (by simp), hs.2.setCell (p := ⟨w.heap.size + 2, 0, none⟩) (by simp) v⟩)
    ⟨Y0.out, YB.out⟩
    (fun x => { tmps := #[.slice A l.length c, .int .i64 a, undef, undef, .int .i64 0, .pointer (some ⟨w.heap.size, 0, none⟩), .slice A l.length c, .int .i64 a, .func (.func 113) #[] #[.pointer (some ⟨w.heap.size + 1 + 1, 0, none⟩), .pointer (some ⟨w.heap.size + 1, 0, none⟩)], .int .i64 (x.1 : Int), undef, undef, undef], defers := [] })
    ?assign ?body ?done ?stop
  case assign =>
    intro r x W K hK
    unfold encU
    gi_wp2
    simpa using hK
  case body =>
    rintro r pre x W ⟨hn, hb⟩ hlt
    have HN := Lib.hid hn
    have HB := Lib.hid hb
    have i1 : (pre.length : Int) - 1 + 1 ≤ 1000001 := by have := HLL.out; omega
    have i2 : -1 ≤ (pre.length : Int) - 1 := by omega
    have HE := Lib.hid (show ((pre ++ [x]).length : Int) - 1 = (pre.length : Int) - 1 + 1 by simp)
    have y0 := HN.out.cell 0
    have z0 := HN.out.free 0
    simp only [List.getElem?_toArray, List.getElem?_cons_zero] at y0
    clear hn hb hlt
    obtain ⟨m, hm⟩ : ∃ m : Int, m = (pre.length : Int) - 1 := ⟨_, rfl⟩
    rw [← hm] at y0 i1 i2 HE HN
    clear hm
    gi_wp2
    refine ⟨(KeepsOthers.setCell _ _ _).from _, ⟨?_, fun b cs T hb h3 => h3.setCell_other _ (by simp; omega)⟩, ?_, HB.out.setCell (p := ⟨w.heap.size, 0, none⟩) (Nat.le_refl _) _⟩
    · exact (Below.refl w.heap.size W).setCell (p := ⟨w.heap.size, 0, none⟩) (Nat.le_refl _) _
    · rw [HE.out]
      exact HN.out.set 0 _
  case done =>
    rintro D xs W hD rfl ⟨hn, hb⟩ hK
    have HN := Lib.hid hn
    have HB := Lib.hid hb
    have HD := Lib.hid hD
    have HK := Lib.hid hK
    have y0 := HN.out.cell 0
    simp only [List.getElem?_toArray, List.getElem?_cons_zero] at y0
    clear hn hb hD hK
    show K _ _
    refine HKK.out _ _ ?_
    clear HKK
    go_wp2
    refine ⟨by simp, .inl ⟨_, _, rfl, run_takeDeferred HK.out, ?_⟩⟩
    exact ⟨_, results_tmp rfl _ _ _, rfl, HB.out.trans ((Below.refl w.heap.size W).grown (grownBy_putObj' W D _) HB.out.size (fun j e => by cases e; have := HD.out; have := YS.out; omega))⟩
  case stop =>
    rintro D c pre W _ _ h _
    exact h.elim
end Go.Proofs.YtkjgnkmnngaioaaGreat.Q
namespace Go.Proofs.YtkjgnkmnngaioaaGreat.Q
open Go.RowKit Go.IntWalk Go.Proofs.YtkjgnkmnngaioaaGreat.Mem Go.Proofs.YtkjgnkmnngaioaaGreatW.PrintWords Go.Proofs.YtkjgnkmnngaioaaGreatW.PrintLast Go.Proofs.YtkjgnkmnngaioaaGreatW.PrintMore
set_option linter.unusedVariables false
set_option linter.unusedSimpArgs false
theorem k70_KM {w w' : World} {base : Nat} {ok : Nat → Prop} {x : S70} {cs : List Value} (h : k70.K w x cs) : k70.M w' base ok x cs := by
  have := k70_open h
  subst this
  exact k70_mkM _ _ _ _
def nlv : Value := .slice none 0 0
theorem eql_nilA (A : Option Addr) (n c : Nat) (y : World) : (binOp .eql 44 (.slice A n c) (.slice none 0 0)).run Tryz.prog y = .ok (.bool A.isNone) y := Lib.run_eql_slice_nil y 44 70 A n c 0 0 Tryz.underlying44
set_option maxRecDepth 100000 in
set_option maxHeartbeats 2000000 in
theorem cloneA_calls (A : Option Addr) (c : Nat) (l : List (S70)) (w : World) (hC : Kd.C (k70) w A l.length l) (hl : l.length ≤ 1000000) :
    Calls Tryz.prog 83 #[.slice A l.length c] w fun e w' => ∃ v, e = .returned v ∧ Kd.R (k70) 70 w' w.heap.size (fun _ => True) v l ∧ Below w.heap.size w w' := by
  have HC := Lib.hid hC
  have HL := Lib.hid hl
  clear hC hl
  rcases A with _ | ad
  · have hn : l = [] := by
      rcases l with _ | ⟨x, l⟩
      · rfl
      · obtain ⟨ad, h, _⟩ := HC.out.2.2 (by simp)
        cases h
    subst hn
    have hq : ∀ y, (binOp .eql 44 (.slice none ([] : List (S70)).length c) (.slice none 0 0)).run Tryz.prog y = .ok (.bool true) y := fun y => eql_nilA none _ c y
    simp only [List.length_nil] at hq ⊢
    go_enter Tryz.func83, Tryz.ntmps83
    go_wp2_with fail
    go_ret
    exact ⟨_, rfl, Kd.R_nil _ _ _ _ _, Below.refl _ _⟩
  · have hq : ∀ y, (binOp .eql 44 (.slice (some ad) l.length c) (.slice none 0 0)).run Tryz.prog y = .ok (.bool false) y := fun y => eql_nilA (some ad) _ c y
    go_enter Tryz.func83, Tryz.ntmps83
    go_wp2_with (first
      | ((with_reducible refine gate_dst (N := 5) rfl ?_); refine Kd.R_lit (k70) w.heap.size 70 ?hg (N := 5) ?hd (w0 := w) (xs := ([] : List (S70))) (inner := []) (ok := fun _ => True) (okp := fun _ => True) ?hr ?hp (fun _ hk => hk) trivial (Below.refl _ _) (Nat.le_refl _) (by simp) ?_; (case hd => rfl); (case hg => rfl); (case hr => first | (go_simp; done) | (go_simp; rfl)); (case hp => exact (Reps.none _ _)); intro v1 w1 ho hb hg hat; have HO1 := Lib.hid ho; have HB1 := Lib.hid hb; have HS1 := Lib.hid hb.size; have HC1 := Lib.hid (Kd.C_below HC.out hb); have HO2 := Lib.hid (Kd.R_own ho); clear ho hb hg hat)
      | ((with_reducible refine gate_builtin (b := .append) (xs := #[.tmp 5, .tmp 6]) rfl ?_); at_builtin; refine Kd.R_append_rows (k70) (Rr := (k70).K w1) (w0 := w) w.heap.size rfl (.tmp 5) (.tmp 6) 44 70 (.agg #[.string ⟨#[]⟩, .string ⟨#[]⟩]) 32 rfl Tryz.underlying44 info70 rfl (by decide) (by decide) v1 [] l (some ad) l.length c (fun _ => True) (fun _ => False) rfl rfl HO1.out HC1.out (fun _ _ h => k70_KM h) (fun _ h => h.elim) (fun _ _ => trivial) HB1.out HS1.out (by have := HL.out; simp only [List.length_nil]; omega) ?_; intro v2 w2 ho2 hb2 hg2 hat2; rw [List.nil_append] at ho2; have HO3 := Lib.hid ho2; have HB3 := Lib.hid hb2; clear ho2 hb2 hg2 hat2))
    go_ret
    exact ⟨_, rfl, HO3.out, HB3.out⟩
theorem eql_nilI (A : Option Addr) (n c : Nat) (y : World) : (binOp .eql 47 (.slice A n c) (.slice none 0 0)).run Tryz.prog y = .ok (.bool A.isNone) y := Lib.run_eql_slice_nil y 47 3 A n c 0 0 Tryz.underlying47
set_option maxRecDepth 100000 in
set_option maxHeartbeats 2000000 in
theorem cloneI_calls (A : Option Addr) (c : Nat) (l : List (Int)) (w : World) (hC : Kd.C (Kd.int .i64) w A l.length l) (hl : l.length ≤ 1000000) :
    Calls Tryz.prog 84 #[.slice A l.length c] w fun e w' => ∃ v, e = .returned v ∧ Kd.R (Kd.int .i64) 3 w' w.heap.size (fun _ => True) v l ∧ Below w.heap.size w w' := by
  have HC := Lib.hid hC
  have HL := Lib.hid hl
  clear hC hl
  rcases A with _ | ad
  · have hn : l = [] := by
      rcases l with _ | ⟨x, l⟩
      · rfl
      · obtain ⟨ad, h, _⟩ := HC.out.2.2 (by simp)
        cases h
    subst hn
    have hq : ∀ y, (binOp .eql 47 (.slice none ([] : List (Int)).length c) (.slice none 0 0)).run Tryz.prog y = .ok (.bool true) y := fun y => eql_nilI none _ c y
    simp only [List.length_nil] at hq ⊢
    go_enter Tryz.func84, Tryz.ntmps84
    go_wp2_with fail
    go_ret
    exact ⟨_, rfl, Kd.R_nil _ _ _ _ _, Below.refl _ _⟩
  · have hq : ∀ y, (binOp .eql 47 (.slice (some ad) l.length c) (.slice none 0 0)).run Tryz.prog y = .ok (.bool false) y := fun y => eql_nilI (some ad) _ c y
    go_enter Tryz.func84, Tryz.ntmps84
    go_wp2_with (first
      | ((with_reducible refine gate_dst (N := 5) rfl ?_); refine Kd.R_lit (Kd.int .i64) w.heap.size 3 ?hg (N := 5) ?hd (w0 := w) (xs := ([] : List (Int))) (inner := []) (ok := fun _ => True) (okp := fun _ => True) ?hr ?hp (fun _ hk => hk) trivial (Below.refl _ _) (Nat.le_refl _) (by simp) ?_; (case hd => rfl); (case hg => rfl); (case hr => first | (go_simp; done) | (go_simp; rfl)); (case hp => exact (Reps.none _ _)); intro v1 w1 ho hb hg hat; have HO1 := Lib.hid ho; have HB1 := Lib.hid hb; have HS1 := Lib.hid hb.size; have HC1 := Lib.hid (Kd.C_below HC.out hb); have HO2 := Lib.hid (Kd.R_own ho); clear ho hb hg hat)
      | ((with_reducible refine gate_builtin (b := .append) (xs := #[.tmp 5, .tmp 6]) rfl ?_); at_builtin; refine Kd.R_append_rows (Kd.int .i64) (Rr := (Kd.int .i64).K w1) (w0 := w) w.heap.size rfl (.tmp 5) (.tmp 6) 47 3 (.int .i64 0) 8 rfl Tryz.underlying47 info3 rfl (by decide) (by decide) v1 [] l (some ad) l.length c (fun _ => True) (fun _ => False) rfl rfl HO1.out HC1.out (fun _ _ h => id h) (fun _ h => h.elim) (fun _ _ => trivial) HB1.out HS1.out (by have := HL.out; simp only [List.length_nil]; omega) ?_; intro v2 w2 ho2 hb2 hg2 hat2; rw [List.nil_append] at ho2; have HO3 := Lib.hid ho2; have HB3 := Lib.hid hb2; clear ho2 hb2 hg2 hat2))
    go_ret
    exact ⟨_, rfl, HO3.out, HB3.out⟩
end Go.Proofs.YtkjgnkmnngaioaaGreat.Q
namespace Go.Proofs.YtkjgnkmnngaioaaGreat.Q
open Go.RowKit Go.IntWalk Go.Proofs.YtkjgnkmnngaioaaGreat.Mem Go.Proofs.YtkjgnkmnngaioaaGreatW.PrintWords Go.Proofs.YtkjgnkmnngaioaaGreatW.PrintLast Go.Proofs.YtkjgnkmnngaioaaGreatW.PrintMore
set_option linter.unusedVariables false
set_option linter.unusedSimpArgs false
theorem attr_E : ∀ q, q ∈ 70 :: k70.E → q ≠ 3 := by
  intro q hq
  have h : q = 70 := by simpa [k70, Kd.iso, Kd.pair, Kd.string, Kd.scalar] using hq
  subst h
  decide
theorem kids_set {w6 w7 : World} {B0 g c a : Nat} {l : List S49} {ok oki : Nat → Prop} {x : S49} {va vk v7 : Value} {k0 : Int}
    (HH : Kd.H k49 49 w6 B0 ok (.slice (some ⟨g, 0, none⟩) l.length c) l (a : Int) oki [.int .i64 x.f0, .string x.f1, .string x.f2, va, vk])
    (ha : a < l.length) (HRA : Kd.R k70 70 w6 B0 oki va x.f3) (HRK : Kd.R (Kd.int .i64) 3 w6 B0 oki vk x.f4)
    (hoi : ∀ k, oki k → k ≠ g) (hg2 : g < w6.heap.size) (hnew : ∀ k, w6.heap.size ≤ k → ok k)
    (HG7 : w6.grownBy w7 vk.ownBlock) (HR7 : Kd.R (Kd.int .i64) 3 w7 B0 (fun k => oki k ∨ w6.heap.size ≤ k) v7 (x.f4 ++ [k0])) :
    Kd.S k49 49 (w7.setCell ⟨g, a * 5 + 4, none⟩ v7) B0 ok (.slice (some ⟨g, 0, none⟩) l.length c) (l.set a ⟨x.f0, x.f1, x.f2, x.f3, x.f4 ++ [k0]⟩) ∧ w7.grownBy (w7.setCell ⟨g, a * 5 + 4, none⟩ v7) (some g) := by
  have hw := Kd.H_widen HH
  have hr1 : ∀ k, vk.ownBlock = some k → oki k := HRK.1
  have h7 := Kd.H_grown hw HG7 (fun k hk => .inl (hr1 k hk))
  have hai : ((a : Int)).toNat = a := Int.toNat_natCast a
  obtain ⟨hs, hg⟩ := Kd.H_seg (seg := [v7]) (j := 4) h7 (by omega) (by omega) (show 4 + 1 ≤ k49.sz by decide) (fun q hq => by
    rw [List.mem_singleton.1 hq]
    exact (Kd.R_val HR7).2)
  rw [hai] at hs hg
  have hne : ∀ k, (oki k ∨ w6.heap.size ≤ k) → k ≠ g := fun k hk => hk.elim (hoi k) (fun h => by omega)
  have e8 : w7.setCells g (a * k49.sz + 4) [v7] = w7.setCell ⟨g, a * 5 + 4, none⟩ v7 := rfl
  rw [e8] at hs hg
  refine ⟨?_, hg⟩
  have ra : Kd.R k70 70 (w7.setCell ⟨g, a * 5 + 4, none⟩ v7) B0 oki va x.f3 :=
    Kd.R_far (p := ⟨g, a * 5 + 4, none⟩) (Kd.R_over' HRA (fun k hk => own_typed HRK.2.choose_spec.1 k hk) attr_E HG7) hoi v7
  have rk : Kd.R (Kd.int .i64) 3 (w7.setCell ⟨g, a * 5 + 4, none⟩ v7) B0 (fun k => oki k ∨ w6.heap.size ≤ k) v7 (x.f4 ++ [k0]) := Kd.R_far (p := ⟨g, a * 5 + 4, none⟩) HR7 hne v7
  have hb := Kd.H_back hs (x' := ⟨x.f0, x.f1, x.f2, x.f3, x.f4 ++ [k0]⟩) (okp := fun k => oki k ∨ w6.heap.size ≤ k) (k49_mkM _ _ _ ⟨x.f0, x.f1, x.f2, x.f3, x.f4 ++ [k0]⟩ (Kd.R_mono ra (fun k hk => .inl hk)) rk) (fun k hk => hk.elim .inl (fun h => .inr ⟨hnew k h, h⟩))
  rw [hai] at hb
  exact hb
/-- A text's end put to it. -/
theorem text_set {w6 : World} {B0 g c a : Nat} {l : List S49} {ok oki : Nat → Prop} {x : S49} {va vk : Value} (s : ByteArray)
    (HH : Kd.H k49 49 w6 B0 ok (.slice (some ⟨g, 0, none⟩) l.length c) l (a : Int) oki [.int .i64 x.f0, .string x.f1, .string x.f2, va, vk])
    (ha : a < l.length) (HRA : Kd.R k70 70 w6 B0 oki va x.f3) (HRK : Kd.R (Kd.int .i64) 3 w6 B0 oki vk x.f4) (hoi : ∀ k, oki k → k ≠ g) :
    Kd.S k49 49 (w6.setCell ⟨g, a * 5 + 2, none⟩ (.string s)) B0 ok (.slice (some ⟨g, 0, none⟩) l.length c) (l.set a ⟨x.f0, x.f1, s, x.f3, x.f4⟩) ∧ w6.grownBy (w6.setCell ⟨g, a * 5 + 2, none⟩ (.string s)) (some g) := by
  have hai : ((a : Int)).toNat = a := Int.toNat_natCast a
  obtain ⟨hs, hg⟩ := Kd.H_seg (seg := [.string s]) (j := 2) HH (by omega) (by omega) (show 2 + 1 ≤ k49.sz by decide) (fun q hq => by
    rw [List.mem_singleton.1 hq]; rfl)
  rw [hai] at hs hg
  have e8 : w6.setCells g (a * k49.sz + 2) [.string s] = w6.setCell ⟨g, a * 5 + 2, none⟩ (.string s) := rfl
  rw [e8] at hs hg
  refine ⟨?_, hg⟩
  have hb := Kd.H_back hs (x' := ⟨x.f0, x.f1, s, x.f3, x.f4⟩) (okp := oki) (k49_mkM _ _ _ ⟨x.f0, x.f1, s, x.f3, x.f4⟩ (Kd.R_far (p := ⟨g, a * 5 + 2, none⟩) HRA hoi _) (Kd.R_far (p := ⟨g, a * 5 + 2, none⟩) HRK hoi _)) (fun _ hk => hk)
  rw [hai] at hb
  exact hb
section
variable {P : Program} {α : Type}
/-- append of one element, whose blocks are okp, to a row whose elements' blocks are apart: one run, what it gives. -/
theorem app_run_S (d : Kd α) {w0 W : World} (base : Nat) (t ty e : TypeId) (z : Value) (bytes : Nat) (ht : P.underlying t = some (.slice e)) (hinfo : (P.info? e).map (fun i => (i.zero, i.size, i.bytes)) = some (some z, d.sz, bytes)) (hz : z.cells.size = d.sz) (hs0 : 0 < d.sz) (hb0 : 0 < bytes)
    (v : Value) (xs : List α) (p : α) (cs : List Value) (ok okp : Nat → Prop) (hp : d.M W base okp p cs) (hokp : ∀ k, okp k → ok k ∧ some k ≠ v.ownBlock) (hfresh : ∀ k, W.heap.size ≤ k → ok k)
    (HO : Kd.S d e W base (fun k => ok k ∧ ¬ okp k) v xs) (HB : Below base w0 W) (hbase : base ≤ W.heap.size) (hl : (xs.length + 1) * bytes ≤ 140737488355328) :
    ∃ v1 w1, (Builtin.append_ #[t, t] ty #[v, .slice (some ⟨W.heap.size, 0, none⟩) 1 1]).run P (W.alloc (.cells cs.toArray e)) = .ok v1 w1 ∧ Kd.S d e w1 base ok v1 (xs ++ [p]) ∧ Below base w0 w1 ∧ W.grownBy w1 v.ownBlock := by
  obtain ⟨f, hf, hR⟩ := Kd.S_tag HO xs.length okp (fun _ hk h2 => h2.2 hk)
  obtain ⟨v1, w1, hrun, hr, hb, hg⟩ := Mix.app_run (P := P) (Kd.tag f d) (w0 := w0) (W := W) base t ty e z bytes ht hinfo hz hs0 hb0 v xs.zipIdx (p, xs.length) cs ok okp (d.M_mono (fun k hk => ⟨hk, hf k hk⟩) hp) hokp hfresh (Kd.R_mono hR (fun _ hk => hk.1)) HB hbase (by rw [List.length_zipIdx]; exact hl)
  rw [← Kd.zip_snoc] at hr
  exact ⟨v1, w1, hrun, ⟨f, hr⟩, hb, hg⟩
end
end Go.Proofs.YtkjgnkmnngaioaaGreat.Q
namespace Go.Proofs.YtkjgnkmnngaioaaGreat.Q
open Go.RowKit Go.IntWalk Go.Proofs.YtkjgnkmnngaioaaGreat.Mem Go.Proofs.YtkjgnkmnngaioaaGreatW.PrintWords Go.Proofs.YtkjgnkmnngaioaaGreatW.PrintLast Go.Proofs.YtkjgnkmnngaioaaGreatW.PrintMore
set_option linter.unusedVariables false
set_option linter.unusedSimpArgs false
/-- What laying a new last kid tells. -/
def layE (l : List Nd) (a : Nat) : Int := if depthF l a + 1 > 12 then 5 else if l.length = 60 then 3 else 0
def addKid (l : List Nd) (a : Nat) : List Nd := l.set a ⟨(ndAt l a).f0, (ndAt l a).f1, (ndAt l a).f2, (ndAt l a).f3, (ndAt l a).f4 ++ [(l.length : Int)]⟩
def layL (l : List Nd) (a : Nat) (nd : Nd) : List Nd := if layE l a = 0 then addKid l a ++ [⟨(a : Int), nd.f1, nd.f2, nd.f3, nd.f4⟩] else l
theorem info_node : (Tryz.prog.info? 49).map (fun i => (i.zero, i.size, i.bytes)) = some (some (.agg #[.int .i64 0, .string ⟨#[]⟩, .string ⟨#[]⟩, .slice none 0 0, .slice none 0 0]), 5, 88) := by kernel_rfl
/-- The builder: its two cells, the rows that it owns. -/
structure Bd (b B0 : Nat) (ok : Nat → Prop) (v : Value) (l : List Nd) (a : Int) (w : World) : Prop where
  box : Blk w b #[v, .int .i64 a] 92
  rows : Kd.S k49 49 w B0 ok v l
  base : B0 ≤ b
/-- The cells of a node, boxed. -/
theorem depthF_lt (l : List Nd) (a : Int) : -1 ≤ depthF l a ∧ depthF l a ≤ l.length := by
  have := upL_len l (l.length + 1) a
  unfold depthF
  omega
/-- Blocks that are no builder, no nodes and no numbers stay. -/
def KpT (w w' : World) : Prop := ∀ (k : Nat) (cs : Array Value) (T : TypeId), T ≠ 49 → T ≠ 3 → T ≠ 92 → Blk w k cs T → Blk w' k cs T
theorem KpT.of_below {w w' : World} (h : Below w.heap.size w w') : KpT w w' := fun k cs T _ _ _ hb => hb.below h hb.lt
theorem KpT.trans {a b c : World} (h : KpT a b) (k : KpT b c) : KpT a c := fun i cs T h1 h2 h3 hb => k i cs T h1 h2 h3 (h i cs T h1 h2 h3 hb)
theorem KpT.grown {w w' : World} {row : Option Nat} (hg : w.grownBy w' row) (hr : ∀ k, row = some k → ∃ cells T, w.heap[k]? = some (.cells cells T (0, 0)) ∧ (T = 49 ∨ T = 3 ∨ T = 92)) : KpT w w' := fun k cs T h1 h2 h3 hb => by
  refine hb.of_block (hg.block k hb.lt (fun e => ?_))
  obtain ⟨cells, T', hc, ht⟩ := hr k e.symm
  unfold Blk at hb
  rw [hb] at hc
  injection hc with hc
  injection hc with _ hc
  rcases ht with ht | ht | ht
  · exact h1 (hc.trans ht)
  · exact h2 (hc.trans ht)
  · exact h3 (hc.trans ht)
theorem KpT.set {w : World} {g o : Nat} {v : Value} {cells : Array Value} {T : TypeId} (hc : w.heap[g]? = some (.cells cells T (0, 0))) (ht : T = 49 ∨ T = 3 ∨ T = 92) : KpT w (w.setCell ⟨g, o, none⟩ v) := fun k cs T' h1 h2 h3 hb => by
  refine hb.setCell_other _ (fun e => ?_)
  have e2 : k = g := e
  subst e2
  unfold Blk at hb
  rw [hb] at hc
  injection hc with hc
  injection hc with _ hc
  rcases ht with ht | ht | ht
  · exact h1 (hc.trans ht)
  · exact h2 (hc.trans ht)
  · exact h3 (hc.trans ht)
def LayP (b B0 : Nat) (l : List Nd) (a : Nat) (nd : Nd) (w : World) (e : Ending) (w' : World) : Prop :=
  e = .returned (.int .i64 (layE l a)) ∧ (∃ v', Bd b B0 (fun k => k ≠ b) v' (layL l a nd) a w') ∧ Below B0 w w' ∧ KpT w w'
set_option maxRecDepth 100000 in
set_option maxHeartbeats 8000000 in
theorem lay_calls (b B0 : Nat) (v : Value) (l : List Nd) (a : Nat) (nd : Nd) (cs : List Value) (okn : Nat → Prop) (w : World) (hB : Bd b B0 (fun k => k ≠ b ∧ ¬ okn k) v l a w) (hM : k49.M w B0 okn nd cs)
    (hokn : ∀ k, okn k → k ≠ b ∧ k < w.heap.size) (ha : a < l.length) (hok : okUp l) (hl : l.length ≤ 60) (hkl : ∀ i, (ndAt l i).f4.length ≤ 60) :
    Calls Tryz.prog 96 #[.pointer (some ⟨b, 0, none⟩), .agg cs.toArray] w (LayP b B0 l a nd w) := by
  have HB := Lib.hid hB
  have HM := Lib.hid hM
  have HN := Lib.hid hokn
  have HA := Lib.hid ha
  have HK := Lib.hid hok
  have HL := Lib.hid hl
  have HKL := Lib.hid hkl
  obtain ⟨v3, v4, hcs, -, -⟩ := k49_openM hM
  obtain ⟨A, c, rfl, hlc, hrd⟩ := Kd.S_reads hB.rows
  have HC := Lib.hid hrd
  have HBL := Lib.hid hB.box.lt
  clear hB hM hokn ha hok hl hlc hrd hkl
  subst hcs
  have X1 := Lib.hid ((HB.out.box).alloc_old (.cells [.int .i64 nd.f0, .string nd.f1, .string nd.f2, v3, v4].toArray 49))
  have X2 := Lib.hid (Blk.alloc w [.int .i64 nd.f0, .string nd.f1, .string nd.f2, v3, v4].toArray 49)
  have X3 := Lib.hid (Kd.S_old HB.out.rows (below_alloc (Below.refl _ w) (.cells [.int .i64 nd.f0, .string nd.f1, .string nd.f2, v3, v4].toArray 49)))
  have X4 := Lib.hid (Kd.C_below HC.out (below_alloc (Below.refl _ w) (.cells [.int .i64 nd.f0, .string nd.f1, .string nd.f2, v3, v4].toArray 49)))
  have X5 := Lib.hid (below_alloc (Below.refl w.heap.size w) (.cells [.int .i64 nd.f0, .string nd.f1, .string nd.f2, v3, v4].toArray 49))
  go_enter Tryz.func96, Tryz.ntmps96
  go_upto_region 1 with (fail)
  generalize (w.alloc (.cells #[.int .i64 nd.f0, .string nd.f1, .string nd.f2, v3, v4] 49)) = w1 at X1 X2 X3 X4 X5 ⊢
  have hcell0 := X1.out.cell 0
  have hcell1 := X1.out.cell 1
  simp only [List.getElem?_toArray, List.getElem?_cons_zero, List.getElem?_cons_succ] at hcell0 hcell1
  obtain ⟨C, hC⟩ : ∃ C : Nat → World → Prop, C = fun _ w_ => Below w1.heap.size w1 w_ := ⟨_, rfl⟩
  have HCI : Hid (∀ i w_, C i w_ ↔ Below w1.heap.size w1 w_) := Lib.hid (fun i w_ => by rw [hC])
  clear hC
  have ne : Nonempty (Mix.Wd C 0) := ⟨⟨w1, 0, Nat.le_refl _, (HCI.out _ _).2 (Below.refl _ _)⟩⟩
  have q0 : ∀ q : Mix.Wd C 0, q.1.cell? ⟨b, 0, none⟩ = some (.slice A l.length c) := fun ⟨w_, i, _, hw⟩ => (((HCI.out _ _).1 hw).cell (p := ⟨b, 0, none⟩) X1.out.lt).trans hcell0
  have q1 : ∀ q : Mix.Wd C 0, q.1.cell? ⟨b, 1, none⟩ = some (.int .i64 (a : Int)) := fun ⟨w_, i, _, hw⟩ => (((HCI.out _ _).1 hw).cell (p := ⟨b, 1, none⟩) X1.out.lt).trans hcell1
  clear hcell0 hcell1
  have HDL := Lib.hid (depthF_lt l a)
  refine Mix.wp_region_mix (C := C) [8] (by kernel_rfl) (by kernel_rfl) ((HCI.out _ _).2 (below_drew (Below.refl _ _))) ?_
  iterate 8 (refine Mix.mix_still (by decide) (fun K hK => ?_); go_simp; refine hK _ ?_; clear hK K)
  refine Mix.mix_turn (by decide) (fun K hK => ?_)
  go_simp
  refine ⟨.int .i64 (depthF l a), fun w_ hw_ => ?_, hK _ ?_⟩
  · have hy := (HCI.out _ _).1 hw_
    exact (depth_calls A c l a w_ (Kd.C_below X4.out hy) HK.out (by have := HL.out; omega)).mono fun e w2 h => ⟨h.1, (HCI.out _ _).2 (hy.trans (h.2.mono hy.size))⟩
  clear hK K
  obtain ⟨d, hd⟩ : ∃ d, d = depthF l a := ⟨_, rfl⟩
  rw [← hd] at HDL ⊢
  have i1 : d + 1 ≤ 61 := by have := HDL.out.2; have := HL.out; omega
  have i2 : -1 ≤ d := HDL.out.1
  have HD := Lib.hid hd
  clear hd
  have hwr : IntKind.i64.wrap (d + 1) = d + 1 := i64_in _ (by omega)
  iterate 3 (refine Mix.mix_still (by decide) (fun K hK => ?_); go_simp; refine hK _ ?_; clear hK K)
  refine Mix.mix_nil ?_
  intro w2 hw2
  have HW2 := Lib.hid ((HCI.out _ _).1 hw2)
  clear hw2 q0 q1 ne hwr
  show Exit.then _ _ _ _ w2
  have Y1 := Lib.hid (X1.out.below HW2.out X1.out.lt)
  have Y2 := Lib.hid (X2.out.below HW2.out X2.out.lt)
  have Y3 := Lib.hid (Kd.S_below X3.out HW2.out)
  have Y5 := Lib.hid (X5.out.trans (HW2.out.mono X5.out.size))
  clear X1 X2 X3 X4 X5 HW2 HCI
  have e0 := Y1.out.cell 0
  have e1 := Y1.out.cell 1
  have z0 := Y2.out.free 0
  have z1 : ∀ i, w2.cell? ⟨w.heap.size, i, none⟩ = _ := fun i => Y2.out.cell i
  simp only [List.getElem?_toArray, List.getElem?_cons_zero, List.getElem?_cons_succ] at e0 e1
  by_cases h5 : 12 < d + 1
  · have HE := Lib.hid (show layE l a = 5 from by unfold layE; rw [← HD.out, if_pos h5])
    have HV := Lib.hid (show layL l a nd = l from by unfold layL; rw [HE.out, if_neg (by decide)])
    go_wp2_with fail
    go_ret
    exact ⟨by rw [HE.out]; rfl, ⟨_, by rw [HV.out]; exact ⟨Y1.out, Kd.S_mono Y3.out (fun _ h => h.1.1), HB.out.base⟩⟩, Y5.out.mono (Nat.le_trans HB.out.base (Nat.le_of_lt HBL.out)), KpT.of_below Y5.out⟩
  by_cases h6 : l.length = 60
  · have HE := Lib.hid (show layE l a = 3 from by unfold layE; rw [← HD.out, if_neg h5, if_pos h6])
    have HV := Lib.hid (show layL l a nd = l from by unfold layL; rw [HE.out, if_neg (by decide)])
    have i6 : ((l.length : Int) == 60) = true := by simp; omega
    have HL6 := Lib.hid h6
    clear h6
    go_wp2_with fail
    go_ret
    exact ⟨by rw [HE.out]; rfl, ⟨_, by rw [HV.out]; exact ⟨Y1.out, Kd.S_mono Y3.out (fun _ h => h.1.1), HB.out.base⟩⟩, Y5.out.mono (Nat.le_trans HB.out.base (Nat.le_of_lt HBL.out)), KpT.of_below Y5.out⟩
  have HE := Lib.hid (show layE l a = 0 from by unfold layE; rw [← HD.out, if_neg h5, if_neg h6])
  have HV := Lib.hid (show layL l a nd = addKid l a ++ [⟨(a : Int), nd.f1, nd.f2, nd.f3, nd.f4⟩] from by unfold layL; rw [HE.out, if_pos rfl])
  have i6 : ((l.length : Int) == 60) = false := by simp; omega
  clear h6
  go_upto_region 6 with (fail)
  have HQ : Hid (b < w.heap.size) := HBL
  have W1 := Lib.hid (Y1.out.setCell_other (a := ⟨w.heap.size, 0, none⟩) (.int .i64 (a : Int)) (show b ≠ w.heap.size by have := HBL.out; omega))
  have W2 := Lib.hid (show Blk (w2.setCell ⟨w.heap.size, 0, none⟩ (.int .i64 (a : Int))) w.heap.size #[.int .i64 (a : Int), .string nd.f1, .string nd.f2, v3, v4] 49 from Y2.out.set 0 (.int .i64 (a : Int)))
  have W3 := Lib.hid (Kd.S_mono (ok' := fun k => k ≠ b ∧ k ≠ w.heap.size ∧ ¬ okn k) (Kd.S_far (p := ⟨w.heap.size, 0, none⟩) Y3.out (fun k hk => by have := hk.2; show k ≠ w.heap.size; omega) (.int .i64 (a : Int))) (fun k hk => ⟨hk.1.1, by have := hk.2; omega, hk.1.2⟩))
  have W5 := Lib.hid (Y5.out.setCell (p := ⟨w.heap.size, 0, none⟩) (Nat.le_refl _) (.int .i64 (a : Int)))
  have WM := Lib.hid (Kd.M_step HM.out (fun k _ hk => W5.out.block k hk))
  clear Y1 Y2 Y3 Y5 z0 z1 e0 e1
  generalize w2.setCell ⟨w.heap.size, 0, none⟩ (.int .i64 (a : Int)) = w5 at W1 W2 W3 W5 WM ⊢
  have W1 := Lib.hid W1.out.drew
  have W2 := Lib.hid W2.out.drew
  have W3 := Lib.hid (Kd.S_drew W3.out)
  have W5 := Lib.hid (below_drew W5.out)
  have WM := Lib.hid (Kd.M_below WM.out (below_drew (Below.refl _ _)))
  obtain ⟨w6, hw6⟩ : ∃ y, y = w5.drew := ⟨_, rfl⟩
  rw [← hw6] at W1 W2 W3 W5 WM
  have HW6 := Lib.hid hw6
  clear hw6
  obtain ⟨g, cap, hv, hg1, hg2, cellsg, hg3⟩ := Kd.S_form W3.out (by have := HA.out; omega)
  injection hv with hv1 hv2 hv3
  subst hv1 hv3
  obtain ⟨oki, ce, hcl, hMe, hcc, hfr, hoki, hHe⟩ := Kd.S_elem W3.out z49 (a : Int) (by omega) (by have := HA.out; omega)
  obtain ⟨va, vk, hce, hRa, hRk⟩ := k49_openM hMe
  subst hce
  rw [Int.toNat_natCast] at hcc hfr hMe hRa hRk hHe
  obtain ⟨x, hx⟩ : ∃ x, x = l.getD a z49 := ⟨_, rfl⟩
  rw [← hx] at hcc hMe hRa hRk hHe
  have HXE := Lib.hid (show x = ndAt l a from hx)
  clear hx
  have HOI := Lib.hid hoki
  have HRA := Lib.hid hRa
  have HRK := Lib.hid hRk
  have HH := Lib.hid hHe
  have HG2 := Lib.hid hg2
  have c4 : w6.cell? ⟨g, a * 5 + 4, none⟩ = some vk := hcc 4 vk rfl
  have f4 : w6.frozen? ⟨g, a * 5 + 4, none⟩ = false := hfr 4
  have b0 := W1.out.cell 0
  have b1 := W1.out.cell 1
  simp only [List.getElem?_toArray, List.getElem?_cons_zero, List.getElem?_cons_succ] at b0 b1
  obtain ⟨Ak, ck, hvk⟩ := Kd.R_slice hRk
  subst hvk
  have i7 : (a : Int) < (l.length : Int) := by have := HA.out; omega
  have i8 : (0 : Int) ≤ (a : Int) := by omega
  have HG1 := Lib.hid hg1
  have HG3 := Lib.hid hg3
  have HNG := Lib.hid (show ¬ okn g from fun h => (Kd.S_mono (ok' := fun k => ¬ okn k) W3.out (fun _ h => h.2.2) |> Kd.S_R).1 g (by simp [Value.ownBlock]) h)
  have HGQ := Lib.hid (show w.heap.size ≠ g from fun e => by have := (Kd.S_away W3.out (g := w.heap.size) (fun k hk => hk.2.1)); exact this (by rw [e]; simp [Value.ownBlock]))
  have HGB := Lib.hid (show b ≠ g from fun e => by have h := W1.out; unfold Blk at h; rw [e, hg3] at h; cases h)
  clear hoki hRa hRk hMe hHe hcc hfr hcl hg1 hg2 hg3
  have HGO := Lib.hid (show some g ≠ (Value.slice Ak x.f4.length ck).ownBlock from fun e => (HOI.out g (HRK.out.1 g e.symm)).2 rfl)
  have HBD := Lib.hid (show Below B0 w w6 from W5.out.mono (Nat.le_trans HB.out.base (Nat.le_of_lt HBL.out)))
  have HBS := Lib.hid (show B0 ≤ w6.heap.size from Nat.le_trans (Nat.le_trans HB.out.base (Nat.le_of_lt HBL.out)) W5.out.size)
  have HXL := Lib.hid (show (x.f4.length + 1) * 8 ≤ 140737488355328 from by have := HKL.out a; rw [← HXE.out] at this; omega)
  obtain ⟨v7, w7, hrun, hr7, hb7, hg7⟩ := Mix.app_run (P := Tryz.prog) (Kd.int .i64) (w0 := w) (W := w6) B0 47 47 3 (.int .i64 0) 8 Tryz.underlying47 info3 rfl (by decide) (by decide) (.slice Ak x.f4.length ck) x.f4 (l.length : Int) [.int .i64 (l.length : Int)] (fun k => oki k ∨ w6.heap.size ≤ k) (fun _ => False) rfl (fun _ h => h.elim) (fun k hk => .inr hk) (Kd.R_mono HRK.out (fun _ h => .inl h)) HBD.out HBS.out HXL.out
  have HRUN := Lib.hid hrun
  have HR7 := Lib.hid hr7
  have HB7 := Lib.hid hb7
  have HG7 := Lib.hid hg7
  obtain ⟨A7, c7, hv7⟩ := Kd.R_slice hr7
  rw [List.length_append, List.length_singleton] at hv7
  subst hv7
  clear hrun hr7 hb7 hg7
  have HBG := Lib.hid (HG7.out.block g HG2.out HGO.out)
  have c7' : w7.cell? ⟨g, a * 5 + 4, none⟩ = some (.slice Ak x.f4.length ck) := (World.cell?_of_block HBG.out).trans c4
  have f7' : w7.frozen? ⟨g, a * 5 + 4, none⟩ = false := (World.frozen?_of_block HBG.out).trans f4
  have c4' : (w6.alloc (.cells #[.int .i64 (l.length : Int)] 3)).cell? ⟨g, a * 5 + 4, none⟩ = some (.slice Ak x.f4.length ck) := pw_cell_below ((Below.refl _ _).alloc (Nat.le_refl _) _) c4
  have W1a := Lib.hid (W1.out.alloc_old (.cells #[.int .i64 (l.length : Int)] 3))
  have W1b := Lib.hid (show Blk w7 b _ _ from W1.out.of_block (HG7.out.block b W1.out.lt (fun e => (HOI.out b (HRK.out.1 b e.symm)).1.1 rfl)))
  have W2b := Lib.hid (show Blk w7 w.heap.size _ _ from W2.out.of_block (HG7.out.block w.heap.size W2.out.lt (fun e => (HOI.out w.heap.size (HRK.out.1 w.heap.size e.symm)).1.2.1 rfl)))
  have W1c := Lib.hid (W1b.out.setCell_other (a := ⟨g, a * 5 + 4, none⟩) (.slice A7 (x.f4.length + 1) c7) HGB.out)
  have a0 := W1a.out.cell 0
  have a1 := W1a.out.cell 1
  have n0 := W1b.out.cell 0
  have n1 := W1b.out.cell 1
  have m0 := W1c.out.cell 0
  have m1 := W1c.out.cell 1
  simp only [List.getElem?_toArray, List.getElem?_cons_zero, List.getElem?_cons_succ] at a0 a1 n0 n1 m0 m1
  obtain ⟨L, hL⟩ : ∃ L : List World, L = [w6, w6.alloc (.cells #[.int .i64 (l.length : Int)] 3), w7, w7.setCell ⟨g, a * 5 + 4, none⟩ (.slice A7 (x.f4.length + 1) c7)] := ⟨_, rfl⟩
  have HL0 := Lib.hid (show L[0]? = some w6 from by rw [hL]; rfl)
  have HL1 := Lib.hid (show L[1]? = some (w6.alloc (.cells #[.int .i64 (l.length : Int)] 3)) from by rw [hL]; rfl)
  have HL2 := Lib.hid (show L[2]? = some w7 from by rw [hL]; rfl)
  have HL3 := Lib.hid (show L[3]? = some (w7.setCell ⟨g, a * 5 + 4, none⟩ (.slice A7 (x.f4.length + 1) c7)) from by rw [hL]; rfl)
  have q0 : ∀ q : Mix.Wd (Mix.CL L) 0, q.1.cell? ⟨b, 0, none⟩ = some (.slice (some ⟨g, 0, none⟩) l.length c) := Mix.CL.at_all (fun W hW => by rw [hL] at hW; simp only [List.mem_cons, List.not_mem_nil, or_false] at hW; rcases hW with rfl | rfl | rfl | rfl <;> first | exact b0 | exact a0 | exact n0 | exact m0)
  have q1 : ∀ q : Mix.Wd (Mix.CL L) 0, q.1.cell? ⟨b, 1, none⟩ = some (.int .i64 (a : Int)) := Mix.CL.at_all (fun W hW => by rw [hL] at hW; simp only [List.mem_cons, List.not_mem_nil, or_false] at hW; rcases hW with rfl | rfl | rfl | rfl <;> first | exact b1 | exact a1 | exact n1 | exact m1)
  clear hL a0 a1 n0 n1 m0 m1 b0 b1
  have ne := Mix.CL.ne HL0.out
  have ny := Mix.CL.nx (p := 0) (q := 1) HL0.out (Nat.zero_le _)
  have q2 := Mix.CL.at1 HL0.out HL1.out c4 c4'
  clear c4 c4' f4
  refine Mix.wp_region_mix (C := Mix.CL L) [24, 25, 28] (by kernel_rfl) (by kernel_rfl) (by rw [← HW6.out]; exact HL0.out) ?_
  iterate 18 (refine Mix.mix_still (by decide) (fun K hK => ?_); go_simp; refine hK _ ?_; clear hK K)
  iterate 1 (refine Mix.mix_in 0 1 (by decide) (by kernel_rfl) (fun K hK => ?_); go_simp; refine hK _ ?_; clear hK K)
  iterate 5 (refine Mix.mix_still (by decide) (fun K hK => ?_); go_simp; refine hK _ ?_; clear hK K)
  refine Mix.mix_turn (by decide) (fun K hK => ?_)
  go_simp
  refine ⟨.slice (some ⟨w6.heap.size, 0, none⟩) 1 1, fun w_ hw_ => ?_, hK _ ?_⟩
  · have e_ := (Mix.CL.eq HL0.out hw_).symm
    subst e_
    go_simp
    exact HL1.out
  clear hK K
  refine Mix.mix_append (.tmp 47) (.tmp 53) 47 (by decide) (by rfl) (by rfl) (by rfl) (by rfl) HL1.out HL2.out HRUN.out ?_
  simp only [Act.put, List.setIfInBounds_toArray, List.set_cons_zero, List.set_cons_succ]
  iterate 2 (refine Mix.mix_still (by decide) (fun K hK => ?_); go_simp; refine hK _ ?_; clear hK K)
  refine Mix.mix_turn (by decide) (fun K hK => ?_)
  go_simp
  refine ⟨⟨undef, fun w_ hw_ => ?_⟩, hK _ ?_⟩
  · have e_ := (Mix.CL.eq HL2.out hw_).symm
    subst e_
    have d1_ := c7'
    have d2_ := f7'
    have hs_ := HL3.out
    clear ne ny q0 q1 q2 c7' f7'
    generalize w7 = yw_ at d1_ d2_ hs_ ⊢
    go_simp
    all_goals exact hs_
  clear hK K
  refine Mix.mix_nil ?_
  intro w_ hw_
  have e_ := (Mix.CL.eq HL3.out hw_).symm
  subst e_
  clear ne ny q0 q1 q2 hw_ c7' f7'
  have W2c := Lib.hid (show Blk (w7.setCell ⟨g, a * 5 + 4, none⟩ (.slice A7 (x.f4.length + 1) c7)) w.heap.size _ _ from W2b.out.setCell_other _ (fun e => HGQ.out e))
  have hks := kids_set (k0 := (l.length : Int)) HH.out HA.out HRA.out HRK.out (fun k hk => (HOI.out k hk).2) HG2.out (fun k hk => ⟨by have := W1.out.lt; omega, by have := W2.out.lt; omega, fun h => by have := (HN.out k h).2; have := W2.out.lt; omega⟩) HG7.out HR7.out
  have HS8 := Lib.hid hks.1
  have HB8 := Lib.hid (show Below B0 w (w7.setCell ⟨g, a * 5 + 4, none⟩ (.slice A7 (x.f4.length + 1) c7)) from HB7.out.setCell (p := ⟨g, a * 5 + 4, none⟩) HG1.out _)
  have HM8 := Lib.hid (show k49.M (w7.setCell ⟨g, a * 5 + 4, none⟩ (.slice A7 (x.f4.length + 1) c7)) B0 okn nd [.int .i64 nd.f0, .string nd.f1, .string nd.f2, v3, v4] from Kd.M_far (p := ⟨g, a * 5 + 4, none⟩) (Kd.M_grown WM.out HG7.out (fun k hk e => (HOI.out k (HRK.out.1 k e.symm)).1.2.2 hk)) (fun k hk e => HNG.out (by have e2 : k = g := e; rw [← e2]; exact hk)) _)
  have HP8 := Lib.hid (((KpT.of_below W5.out).trans (KpT.grown HG7.out (fun k e => by obtain ⟨cells, hc⟩ := own_typed HRK.out.2.choose_spec.1 k e; exact ⟨cells, _, hc, .inr (.inl rfl)⟩))).trans (KpT.set (o := a * 5 + 4) (v := .slice A7 (x.f4.length + 1) c7) (HBG.out.trans HG3.out) (.inl rfl)))
  have HG8 := Lib.hid (show ∃ cells, (w7.setCell ⟨g, a * 5 + 4, none⟩ (.slice A7 (x.f4.length + 1) c7)).heap[g]? = some (.cells cells 49 (0, 0)) from Kd.S_typed hks.1 g (by simp [Value.ownBlock]))
  clear hks
  clear HH HRA HRK HRUN HR7 HG7 W1a W1b W2b HL0 HL1 HL2 HL3 HGO WM W1 W2 W3 W5 HBD HBS HXL HB7
  generalize (w7.setCell ⟨g, a * 5 + 4, none⟩ (.slice A7 (x.f4.length + 1) c7)) = w8 at W1c W2c HS8 HB8 HM8 HP8 HG8 ⊢
  go_upto_region 7 with (fail)
  have W1 := Lib.hid W1c.out.drew
  have W2 := Lib.hid W2c.out.drew
  have W3 := Lib.hid (Kd.S_drew HS8.out)
  have W5 := Lib.hid (below_drew HB8.out)
  have WM := Lib.hid (Kd.M_below HM8.out (below_drew (Below.refl _ _)))
  have WP := Lib.hid (HP8.out.trans (KpT.of_below (below_drew (Below.refl w8.heap.size w8))))
  have WG := Lib.hid (show ∃ cells, w8.drew.heap[g]? = some (.cells cells 49 (0, 0)) from HG8.out)
  obtain ⟨w9, hw9⟩ : ∃ y, y = w8.drew := ⟨_, rfl⟩
  rw [← hw9] at W1 W2 W3 W5 WM WP WG
  have HW9 := Lib.hid hw9
  clear hw9 W1c W2c HS8 HB8 HM8
  obtain ⟨v3', v4', he34, hr3, hr4⟩ := k49_openM WM.out
  have hv3 : v3' = v3 := by injection he34 with _ he34; injection he34 with _ he34; injection he34 with _ he34; injection he34 with he34 _; exact he34.symm
  have hv4 : v4' = v4 := by injection he34 with _ he34; injection he34 with _ he34; injection he34 with _ he34; injection he34 with _ he34; injection he34 with he34 _; exact he34.symm
  subst hv3 hv4
  have HM9 := Lib.hid (k49_mkM w9 B0 okn ⟨(a : Int), nd.f1, nd.f2, nd.f3, nd.f4⟩ hr3 hr4)
  obtain ⟨A3_, c3_, hs3⟩ := Kd.R_slice hr3
  obtain ⟨A4_, c4_, hs4⟩ := Kd.R_slice hr4
  clear he34 hr3 hr4
  subst hs3 hs4
  obtain ⟨vX, wX, hrun, hrX, hbX, hgX⟩ := app_run_S (P := Tryz.prog) k49 (w0 := w) (W := w9) B0 38 38 49 (.agg #[.int .i64 0, .string ⟨#[]⟩, .string ⟨#[]⟩, .slice none 0 0, .slice none 0 0]) 88 Tryz.underlying38 info_node rfl (by decide) (by decide) (.slice (some ⟨g, 0, none⟩) l.length c) (l.set a ⟨x.f0, x.f1, x.f2, x.f3, x.f4 ++ [(l.length : Int)]⟩) ⟨(a : Int), nd.f1, nd.f2, nd.f3, nd.f4⟩ [.int .i64 (a : Int), .string nd.f1, .string nd.f2, .slice A3_ nd.f3.length c3_, .slice A4_ nd.f4.length c4_] (fun k => k ≠ b) okn HM9.out (fun k hk => ⟨(HN.out k hk).1, fun e => HNG.out (by have e2 : k = g := (by simpa [Value.ownBlock] using e); rw [← e2]; exact hk)⟩) (fun k hk => by have := W1.out.lt; omega) (Kd.S_mono W3.out (fun k hk => ⟨hk.1, hk.2.2⟩)) W5.out (Nat.le_trans (Nat.le_trans HB.out.base (Nat.le_of_lt W1.out.lt)) (Nat.le_refl _)) (by rw [List.length_set]; have := HL.out; omega)
  have HRUN := Lib.hid hrun
  have HRX := Lib.hid hrX
  have HBX := Lib.hid hbX
  have HGX := Lib.hid hgX
  obtain ⟨AX, cX, hvX⟩ := Kd.S_slice hrX
  rw [List.length_append, List.length_set, List.length_singleton] at hvX
  subst hvX
  clear hrun hrX hbX hgX
  have W1x := Lib.hid (show Blk wX b _ _ from W1.out.of_block (HGX.out.block b W1.out.lt (fun e => HGB.out (by simpa [Value.ownBlock] using e))))
  have a0 := W1.out.cell 0
  have a0' := (W1.out.alloc_old (.cells #[.int .i64 (a : Int), .string nd.f1, .string nd.f2, .slice A3_ nd.f3.length c3_, .slice A4_ nd.f4.length c4_] 49)).cell 0
  have x0 := W1x.out.cell 0
  have x0f := W1x.out.free 0
  have e0 := W2.out.cell 0
  have e1 := W2.out.cell 1
  have e2 := W2.out.cell 2
  have e3 := W2.out.cell 3
  have e4 := W2.out.cell 4
  simp only [List.getElem?_toArray, List.getElem?_cons_zero, List.getElem?_cons_succ] at a0 a0' x0 e0 e1 e2 e3 e4
  obtain ⟨L, hL⟩ : ∃ L : List World, L = [w9, w9.alloc (.cells #[.int .i64 (a : Int), .string nd.f1, .string nd.f2, .slice A3_ nd.f3.length c3_, .slice A4_ nd.f4.length c4_] 49), wX, wX.setCell ⟨b, 0, none⟩ (.slice AX (l.length + 1) cX)] := ⟨_, rfl⟩
  have HL0 := Lib.hid (show L[0]? = some w9 from by rw [hL]; rfl)
  have HL1 := Lib.hid (show L[1]? = some (w9.alloc (.cells #[.int .i64 (a : Int), .string nd.f1, .string nd.f2, .slice A3_ nd.f3.length c3_, .slice A4_ nd.f4.length c4_] 49)) from by rw [hL]; rfl)
  have HL2 := Lib.hid (show L[2]? = some wX from by rw [hL]; rfl)
  have HL3 := Lib.hid (show L[3]? = some (wX.setCell ⟨b, 0, none⟩ (.slice AX (l.length + 1) cX)) from by rw [hL]; rfl)
  clear hL
  have ne := Mix.CL.ne HL0.out
  have nx := Mix.CL.nx (p := 0) (q := 0) HL0.out (Nat.le_refl _)
  have ny := Mix.CL.nx (p := 0) (q := 1) HL0.out (Nat.zero_le _)
  have q0 := Mix.CL.at1 HL0.out HL1.out a0 a0'
  have t0 := Mix.CL.at0 HL0.out e0
  have t1 := Mix.CL.at0 HL0.out e1
  have t2 := Mix.CL.at0 HL0.out e2
  have t3 := Mix.CL.at0 HL0.out e3
  have t4 := Mix.CL.at0 HL0.out e4
  clear a0 a0' e0 e1 e2 e3 e4
  refine Mix.wp_region_mix (C := Mix.CL L) [6, 7, 10] (by kernel_rfl) (by kernel_rfl) (by rw [← HW9.out]; exact HL0.out) ?_
  iterate 4 (refine Mix.mix_still (by decide) (fun K hK => ?_); go_simp; refine hK _ ?_; clear hK K)
  iterate 1 (refine Mix.mix_in 0 1 (by decide) (by kernel_rfl) (fun K hK => ?_); go_simp; refine hK _ ?_; clear hK K)
  iterate 1 (refine Mix.mix_in 0 0 (by decide) (by kernel_rfl) (fun K hK => ?_); go_simp; refine hK _ ?_; clear hK K)
  refine Mix.mix_turn (by decide) (fun K hK => ?_)
  go_simp
  refine ⟨.slice (some ⟨w9.heap.size, 0, none⟩) 1 1, fun w_ hw_ => ?_, hK _ ?_⟩
  · have e_ := (Mix.CL.eq HL0.out hw_).symm
    subst e_
    go_simp
    exact HL1.out
  clear hK K
  refine Mix.mix_append (.tmp 61) (.tmp 63) 38 (by decide) (by rfl) (by rfl) (by rfl) (by rfl) HL1.out HL2.out HRUN.out ?_
  simp only [Act.put, List.setIfInBounds_toArray, List.set_cons_zero, List.set_cons_succ]
  iterate 2 (refine Mix.mix_still (by decide) (fun K hK => ?_); go_simp; refine hK _ ?_; clear hK K)
  refine Mix.mix_turn (by decide) (fun K hK => ?_)
  go_simp
  refine ⟨⟨undef, fun w_ hw_ => ?_⟩, hK _ ?_⟩
  · have e_ := (Mix.CL.eq HL2.out hw_).symm
    subst e_
    have d1_ := x0
    have d2_ := x0f
    have hs_ := HL3.out
    clear ne nx ny q0 t0 t1 t2 t3 t4 x0 x0f
    generalize wX = yw_ at d1_ d2_ hs_ ⊢
    go_simp
    all_goals exact hs_
  clear hK K
  refine Mix.mix_nil ?_
  intro w_ hw_
  have e_ := (Mix.CL.eq HL3.out hw_).symm
  subst e_
  clear ne nx ny q0 t0 t1 t2 t3 t4 hw_ x0 x0f
  go_wp2_with fail
  go_ret
  refine ⟨by rw [HE.out]; rfl, ⟨.slice AX (l.length + 1) cX, ⟨W1x.out.set 0 _, ?_, HB.out.base⟩⟩, HBX.out.setCell (p := ⟨b, 0, none⟩) HB.out.base _, ((WP.out.trans (KpT.grown HGX.out (fun k e => by obtain ⟨cells, hc⟩ := WG.out; have e2 : k = g := (by have := e.symm; simpa [Value.ownBlock] using this); exact ⟨cells, _, e2 ▸ hc, .inl rfl⟩))).trans (KpT.set (o := 0) (v := .slice AX (l.length + 1) cX) W1x.out (.inr (.inr rfl))))⟩
  rw [HV.out]
  unfold addKid
  rw [← HXE.out]
  exact Kd.S_far (p := ⟨b, 0, none⟩) HRX.out (fun k hk => hk) _
end Go.Proofs.YtkjgnkmnngaioaaGreat.Q
namespace Go.Proofs.YtkjgnkmnngaioaaGreat.Q
open Go.RowKit Go.IntWalk Go.Proofs.YtkjgnkmnngaioaaGreat.Mem Go.Proofs.YtkjgnkmnngaioaaGreatW.PrintWords Go.Proofs.YtkjgnkmnngaioaaGreatW.PrintLast Go.Proofs.YtkjgnkmnngaioaaGreatW.PrintMore
set_option linter.unusedVariables false
set_option linter.unusedSimpArgs false
def lastIx (l : List Nd) (a : Nat) : Nat := ((ndAt l a).f4.getD ((ndAt l a).f4.length - 1) 0).toNat
/-- Is the last kid a text? -/
def isTx (l : List Nd) (a : Nat) : Bool := decide (0 < (ndAt l a).f4.length) && decide ((ndAt l (lastIx l a)).f1.toList = [])
def addTx (l : List Nd) (k : Nat) (s : ByteArray) : List Nd := l.set k ⟨(ndAt l k).f0, (ndAt l k).f1, (ndAt l k).f2 ++ s, (ndAt l k).f3, (ndAt l k).f4⟩
def txN (s : ByteArray) : Nd := ⟨0, ⟨#[]⟩, s, [], []⟩
def txE (l : List Nd) (a : Nat) (s : ByteArray) : Int := if s.toList = [] then 0 else if isTx l a = true then 0 else layE l a
def txL (l : List Nd) (a : Nat) (s : ByteArray) : List Nd := if s.toList = [] then l else if isTx l a = true then addTx l (lastIx l a) s else layL l a (txN s)
/-- Kids are nodes. -/
def okKids (l : List Nd) : Prop := ∀ i, i < l.length → (ndAt l i).f4.length ≤ 60 ∧ ∀ k ∈ (ndAt l i).f4, 0 ≤ k ∧ k < (l.length : Int)
def TxP (b B0 : Nat) (l : List Nd) (a : Nat) (s : ByteArray) (w : World) (e : Ending) (w' : World) : Prop :=
  e = .returned (.int .i64 (txE l a s)) ∧ (∃ v', Bd b B0 (fun k => k ≠ b) v' (txL l a s) a w') ∧ Below B0 w w' ∧ KpT w w'
theorem ndAt_far {l : List Nd} {i : Nat} (h : ¬ i < l.length) : ndAt l i = z49 := by
  unfold ndAt
  rw [List.getD_eq_getElem?_getD, List.getElem?_eq_none (by omega)]
  rfl
theorem okKids_all {l : List Nd} (h : okKids l) (i : Nat) : (ndAt l i).f4.length ≤ 60 := by
  by_cases hi : i < l.length
  · exact (h i hi).1
  · rw [ndAt_far hi]; exact Nat.zero_le _
theorem Bd.below {b B0 : Nat} {ok : Nat → Prop} {v : Value} {l : List Nd} {a : Int} {w w' : World} (h : Bd b B0 ok v l a w) (hb : Below w.heap.size w w') : Bd b B0 ok v l a w' :=
  ⟨h.box.below hb h.box.lt, Kd.S_below h.rows hb, h.base⟩
theorem Bd.mono {b B0 : Nat} {ok ok' : Nat → Prop} {v : Value} {l : List Nd} {a : Int} {w : World} (h : Bd b B0 ok v l a w) (hk : ∀ k, ok k → ok' k) : Bd b B0 ok' v l a w := ⟨h.box, Kd.S_mono h.rows hk, h.base⟩
theorem lay_text (b B0 : Nat) (v : Value) (l : List Nd) (a : Nat) (s : ByteArray) (w : World) (hB : Bd b B0 (fun k => k ≠ b) v l a w) (ha : a < l.length) (hok : okUp l) (hk : okKids l) (hl : l.length ≤ 60) :
    Calls Tryz.prog 96 #[.pointer (some ⟨b, 0, none⟩), .agg #[.int .i64 0, .string ⟨#[]⟩, .string s, .slice none 0 0, .slice none 0 0]] w (LayP b B0 l a (txN s) w) :=
  lay_calls b B0 v l a (txN s) [.int .i64 0, .string ⟨#[]⟩, .string s, .slice none 0 0, .slice none 0 0] (fun _ => False) w (hB.mono (fun _ h => ⟨h, fun h => h⟩)) (k49_mkM _ _ _ (txN s) (Kd.R_nil _ _ _ _ _) (Kd.R_nil _ _ _ _ _)) (fun _ h => h.elim) ha hok hl (okKids_all hk)
set_option maxRecDepth 100000 in
set_option maxHeartbeats 8000000 in
theorem text_calls (b B0 : Nat) (v : Value) (l : List Nd) (a : Nat) (s : ByteArray) (w : World) (hB : Bd b B0 (fun k => k ≠ b) v l a w) (ha : a < l.length) (hok : okUp l) (hk : okKids l) (hl : l.length ≤ 60)
    (hs : ∀ i, (ndAt l i).f2.size + s.size ≤ 9223372036854775807) :
    Calls Tryz.prog 63 #[.pointer (some ⟨b, 0, none⟩), .string s] w (TxP b B0 l a s w) := by
  have HB := Lib.hid hB
  have HA := Lib.hid ha
  have HU := Lib.hid hok
  have HK := Lib.hid hk
  have HL := Lib.hid hl
  have HS := Lib.hid hs
  have HBL := Lib.hid hB.box.lt
  clear hB ha hok hk hl hs
  by_cases h0 : s.toList = []
  · have HE := Lib.hid (show txE l a s = 0 from by unfold txE; rw [if_pos h0])
    have HV := Lib.hid (show txL l a s = l from by unfold txL; rw [if_pos h0])
    have h0' : s.toList.isEmpty = true := by rw [h0]; rfl
    go_enter Tryz.func63, Tryz.ntmps63
    go_wp2_with fail
    go_ret
    exact ⟨by rw [HE.out]; rfl, ⟨v, by rw [HV.out]; exact HB.out⟩, Below.refl _ _, KpT.of_below (Below.refl _ _)⟩
  have h0' : s.toList.isEmpty = false := by cases h : s.toList with
    | nil => exact (h0 h).elim
    | cons _ _ => rfl
  obtain ⟨g, cap, hv, hg1, hg2, cellsg, hg3⟩ := Kd.S_form HB.out.rows (by have := HA.out; omega)
  subst hv
  obtain ⟨oki, ce, hcl, hMe, hcc, hfr, hoki, hHe⟩ := Kd.S_elem HB.out.rows z49 (a : Int) (by omega) (by have := HA.out; omega)
  obtain ⟨va, vk, hce, hRa, hRk⟩ := k49_openM hMe
  subst hce
  rw [Int.toNat_natCast] at hcc hMe hRa hRk
  obtain ⟨x, hx⟩ : ∃ x, x = l.getD a z49 := ⟨_, rfl⟩
  rw [← hx] at hcc hMe hRa hRk
  have HXE := Lib.hid (show x = ndAt l a from hx)
  clear hx
  have c4 : w.cell? ⟨g, a * 5 + 4, none⟩ = some vk := hcc 4 vk rfl
  obtain ⟨Ak, ck, hvk, hlk, hck⟩ := Kd.R_reads hRk
  subst hvk
  have HCK := Lib.hid hck
  have HRK := Lib.hid hRk
  have b0 := HB.out.box.cell 0
  have b1 := HB.out.box.cell 1
  simp only [List.getElem?_toArray, List.getElem?_cons_zero, List.getElem?_cons_succ] at b0 b1
  have i7 : (a : Int) < (l.length : Int) := by have := HA.out; omega
  have i8 : (0 : Int) ≤ (a : Int) := by omega
  clear hcl hMe hcc hfr hoki hHe hRa hRk hlk hck
  go_enter Tryz.func63, Tryz.ntmps63
  go_upto_region 3 with (fail)
  go_still (by kernel_rfl)
  show Exit.then _ _ _ _ w.drew
  rename_i K hKK
  show K _ _
  refine hKK _ _ ?_
  clear hKK K
  have HB1 := Lib.hid (HB.out.below (below_drew (Below.refl _ w)))
  have HC1 := Lib.hid (Kd.C_below HCK.out (below_drew (Below.refl _ w)))
  have HW1 := Lib.hid (below_drew (Below.refl w.heap.size w))
  have HG1 := Lib.hid hg1
  have HGB := Lib.hid (show b ≠ g from fun e => by have h := HB.out.box; unfold Blk at h; rw [e, hg3] at h; cases h)
  have HBB := Lib.hid (show B0 ≤ w.heap.size from Nat.le_trans HB.out.base (Nat.le_of_lt HBL.out))
  clear c4 b0 b1 HCK hg1 hg2 hg3 HBL HB
  generalize w.drew = w1 at HB1 HC1 HW1 ⊢
  by_cases h1 : x.f4.length = 0
  · have HT := Lib.hid (show isTx l a = false from by unfold isTx; rw [← HXE.out, h1]; rfl)
    have HE := Lib.hid (show txE l a s = layE l a from by unfold txE; rw [if_neg h0, HT.out]; rfl)
    have HV := Lib.hid (show txL l a s = layL l a (txN s) from by unfold txL; rw [if_neg h0, HT.out]; rfl)
    have v1 : decide (0 < x.f4.length) = false := by rw [h1]; rfl
    clear h1
    refine wp_seq_k (fun K1 hK1 => ?_)
    refine wp_seq_k (fun K2 hK2 => ?_)
    go_quiet (fail)
    have HB2 := Lib.hid (HB1.out.below (pw_below_drewN (Below.refl _ _) nq))
    have HW2 := Lib.hid (pw_below_drewN HW1.out nq)
    clear v1
    generalize World.drewN w1 nq = w2 at HB2 HW2 ⊢
    go_wp2_with (go_at_call 96; refine (lay_text b B0 _ l a s _ HB2.out HA.out HU.out HK.out HL.out).mono ?_; rintro e w3 ⟨rfl, hb2, hbl⟩; have HB3 := Lib.hid hb2; have HBL3 := Lib.hid hbl; clear hb2 hbl)
    go_ret
    exact ⟨by rw [HE.out]; rfl, by rw [HV.out]; exact HB3.out, (HW2.out.mono HBB.out).trans HBL3.out.1, (KpT.of_below HW2.out).trans HBL3.out.2⟩
  obtain ⟨n, hn⟩ : ∃ n, x.f4.length = n + 1 := ⟨x.f4.length - 1, by omega⟩
  have HN := Lib.hid hn
  obtain ⟨adk, rfl⟩ : ∃ ad, Ak = some ad := by obtain ⟨ad, h, _⟩ := HC1.out.2.2 (by omega); exact ⟨ad, h⟩
  obtain ⟨gk, rfl⟩ := Kd.R_head HRK.out
  have HLI := Lib.hid (show (x.f4.getD n 0).toNat = lastIx l a from by unfold lastIx; rw [← HXE.out, HN.out]; rfl)
  have hkm : x.f4.getD n 0 ∈ (ndAt l a).f4 := by
    rw [← HXE.out, List.getD_eq_getElem?_getD, List.getElem?_eq_getElem (by omega)]
    exact List.getElem_mem _
  have hkr := (HK.out a HA.out).2 _ hkm
  obtain ⟨k, hk⟩ : ∃ k : Nat, x.f4.getD n 0 = (k : Int) := ⟨(x.f4.getD n 0).toNat, by omega⟩
  have hck := Kd.C_get HC1.out (0 : Int) (n : Int) (by omega) (by omega)
  obtain ⟨ad', c', e', -, hK', hcell'⟩ := hck
  obtain rfl := Option.some.inj e'
  rw [Int.toNat_natCast, hk] at hK'
  have hK2 : c' = [.int .i64 (k : Int)] := hK'
  subst hK2
  have k0 : w1.cell? ⟨gk, n, none⟩ = some (.int .i64 (k : Int)) := by
    have := hcell' 0 _ rfl
    rw [Int.toNat_natCast, add_plain] at this
    simpa [Kd.int, Kd.scalar] using this
  rw [hk] at HLI hkr
  rw [Int.toNat_natCast] at HLI
  have HKR := Lib.hid (show k < l.length by omega)
  clear hK' hcell' hkm hk e'
  obtain ⟨okj, cj, hclj, hMj, hccj, hfrj, hokj, hHj⟩ := Kd.S_elem HB1.out.rows z49 (k : Int) (by omega) hkr.2
  obtain ⟨vaj, vkj, hcej, hRaj, hRkj⟩ := k49_openM hMj
  subst hcej
  rw [Int.toNat_natCast] at hccj hMj hRaj hRkj hfrj hHj
  obtain ⟨y, hy⟩ : ∃ y, y = l.getD k z49 := ⟨_, rfl⟩
  rw [← hy] at hccj hMj hRaj hRkj hHj
  have HYE := Lib.hid (show y = ndAt l k from hy)
  clear hy
  have t1 : w1.cell? ⟨g, k * 5 + 1, none⟩ = some (.string y.f1) := hccj 1 _ rfl
  have t2 : w1.cell? ⟨g, k * 5 + 2, none⟩ = some (.string y.f2) := hccj 2 _ rfl
  have t2f : w1.frozen? ⟨g, k * 5 + 2, none⟩ = false := hfrj 2
  have HRAJ := Lib.hid hRaj
  have HRKJ := Lib.hid hRkj
  have HHJ := Lib.hid hHj
  have HOJ := Lib.hid hokj
  clear hclj hMj hccj hfrj hokj hHj hRaj hRkj
  have b0 := HB1.out.box.cell 0
  simp only [List.getElem?_toArray, List.getElem?_cons_zero, List.getElem?_cons_succ] at b0
  have j1 : (k : Int) < (l.length : Int) := hkr.2
  have j2 : (0 : Int) ≤ (k : Int) := hkr.1
  clear hkr h1
  rw [hn]
  clear hn
  have v1 : decide (0 < n + 1) = true := by simp
  have j4 : IntKind.i64.wrap (n : Int) = (n : Int) := i64_in _ (by have := HN.out; have := (HK.out a HA.out).1; rw [← HXE.out] at this; omega)
  have j3 : IntKind.i64.wrap ((n : Int) + 1 - 1) = (n : Int) := by rw [Int.add_sub_cancel]; exact j4
  by_cases ht : y.f1.toList = []
  · have HT := Lib.hid (show isTx l a = true from by unfold isTx; rw [← HXE.out, ← HLI.out, ← HYE.out, HN.out, decide_eq_true ht]; simp)
    have HE := Lib.hid (show txE l a s = 0 from by unfold txE; rw [if_neg h0, HT.out]; rfl)
    have HV := Lib.hid (show txL l a s = addTx l k s from by unfold txL; rw [if_neg h0, HT.out, ← HLI.out]; rfl)
    have ht2 : y.f1.toList.isEmpty = true := by rw [ht]; rfl
    refine wp_seq_k (fun K1 hK1 => ?_)
    refine wp_seq_k (fun K2 hK2 => ?_)
    go_quiet (fail)
    show K2 _ _
    refine hK2 _ _ ?_
    clear hK2 K2 ht ht2
    obtain ⟨w2, hw2⟩ : ∃ y_, y_ = World.drewN w1 nq := ⟨_, rfl⟩
    rw [← hw2]
    obtain ⟨w3, hw3⟩ : ∃ y_, y_ = w2.drew := ⟨_, rfl⟩
    have hb : Below w1.heap.size w1 w3 := by rw [hw3, hw2]; exact below_drew (pw_below_drewN (Below.refl _ _) nq)
    have hh : ∀ p, w3.cell? p = w1.cell? p := fun p => by rw [hw3, hw2]; rfl
    have hf : ∀ p, w3.frozen? p = w1.frozen? p := fun p => by rw [hw3, hw2]; rfl
    have HB3 := Lib.hid (HB1.out.below hb)
    have HW3 := Lib.hid (HW1.out.trans (hb.mono HW1.out.size))
    have HRA3 := Lib.hid (Kd.R_below HRAJ.out hb)
    have HRK3 := Lib.hid (Kd.R_below HRKJ.out hb)
    have HH3 := Lib.hid (Kd.H_below HHJ.out hb)
    have b3 := (hh _).trans b0
    have k3 := (hh _).trans k0
    have s1 := (hh _).trans t1
    have s2 := (hh _).trans t2
    have s2f := (hf _).trans t2f
    have HWE := Lib.hid hw3
    clear b0 k0 t1 t2 t2f hb hh hf hw2 hw3 HB1 HW1 HRAJ HRKJ HHJ
    have j6 : (n : Int) < (n : Int) + 1 := by omega
    have j5 : ¬ 9223372036854775807 < y.f2.size + s.size := by have := HS.out k; rw [← HYE.out] at this; omega
    obtain ⟨L, hL⟩ : ∃ L : List World, L = [w3, w3.setCell ⟨g, k * 5 + 2, none⟩ (.string (y.f2 ++ s))] := ⟨_, rfl⟩
    have HL0 := Lib.hid (show L[0]? = some w3 from by rw [hL]; rfl)
    have HL1 := Lib.hid (show L[1]? = some (w3.setCell ⟨g, k * 5 + 2, none⟩ (.string (y.f2 ++ s))) from by rw [hL]; rfl)
    clear hL
    have ne := Mix.CL.ne HL0.out
    have nx := Mix.CL.nx (p := 0) (q := 0) HL0.out (Nat.le_refl _)
    have q0 := Mix.CL.at0 HL0.out b3
    have q1 := Mix.CL.at0 HL0.out k3
    have q2 := Mix.CL.at0 HL0.out s2
    clear b3 k3 s1
    go_upto_region 5 with (fail)
    refine Mix.wp_region_mix (C := Mix.CL L) [17] (by kernel_rfl) (by kernel_rfl) (by rw [← HWE.out]; exact HL0.out) ?_
    iterate 3 (refine Mix.mix_still (by decide) (fun K hK => ?_); go_simp; refine hK _ ?_; clear hK K)
    iterate 1 (refine Mix.mix_in 0 0 (by decide) (by kernel_rfl) (fun K hK => ?_); go_simp; refine hK _ ?_; clear hK K)
    iterate 5 (refine Mix.mix_still (by decide) (fun K hK => ?_); go_simp; refine hK _ ?_; clear hK K)
    iterate 1 (refine Mix.mix_in 0 0 (by decide) (by kernel_rfl) (fun K hK => ?_); go_simp; refine hK _ ?_; clear hK K)
    iterate 2 (refine Mix.mix_still (by decide) (fun K hK => ?_); go_simp; refine hK _ ?_; clear hK K)
    iterate 1 (refine Mix.mix_in 0 0 (by decide) (by kernel_rfl) (fun K hK => ?_); go_simp; refine hK _ ?_; clear hK K)
    iterate 4 (refine Mix.mix_still (by decide) (fun K hK => ?_); go_simp; refine hK _ ?_; clear hK K)
    refine Mix.mix_turn (by decide) (fun K hK => ?_)
    go_simp
    refine ⟨⟨undef, fun w_ hw_ => ?_⟩, hK _ ?_⟩
    · have e_ := (Mix.CL.eq HL0.out hw_).symm
      subst e_
      have d1_ := s2
      have d2_ := s2f
      have hs_ := HL1.out
      clear ne nx q0 q1 q2 s2 s2f
      generalize w3 = yw_ at d1_ d2_ hs_ ⊢
      go_simp
      all_goals exact hs_
    clear hK K
    refine Mix.mix_nil ?_
    intro w_ hw_
    have e_ := (Mix.CL.eq HL1.out hw_).symm
    subst e_
    clear ne nx q0 q1 q2 hw_ s2 s2f
    obtain ⟨hts, htg⟩ := text_set (y.f2 ++ s) HH3.out HKR.out HRA3.out HRK3.out (fun k hk => (HOJ.out k hk).2)
    have HTS := Lib.hid hts
    have HKT := Lib.hid ((KpT.of_below HW3.out).trans (KpT.grown htg (fun k e => by cases e; obtain ⟨cells, hc⟩ := Kd.S_typed HB3.out.rows g (by simp [Value.ownBlock]); exact ⟨cells, _, hc, .inl rfl⟩)))
    clear hts htg
    go_wp2_with fail
    go_ret
    refine ⟨by rw [HE.out]; rfl, ⟨.slice (some ⟨g, 0, none⟩) l.length cap, ⟨HB3.out.box.setCell_other _ (fun e => HGB.out e), ?_, HB3.out.base⟩⟩, (HW3.out.mono HBB.out).setCell (p := ⟨g, k * 5 + 2, none⟩) HG1.out _, HKT.out⟩
    rw [HV.out]
    unfold addTx
    rw [← HYE.out]
    exact HTS.out
  · have HT := Lib.hid (show isTx l a = false from by unfold isTx; rw [← HXE.out, ← HLI.out, ← HYE.out, decide_eq_false ht, Bool.and_false])
    have HE := Lib.hid (show txE l a s = layE l a from by unfold txE; rw [if_neg h0, HT.out]; rfl)
    have HV := Lib.hid (show txL l a s = layL l a (txN s) from by unfold txL; rw [if_neg h0, HT.out]; rfl)
    have ht2 : y.f1.toList.isEmpty = false := by cases h : y.f1.toList with
      | nil => exact (ht h).elim
      | cons _ _ => rfl
    refine wp_seq_k (fun K1 hK1 => ?_)
    refine wp_seq_k (fun K2 hK2 => ?_)
    go_quiet (fail)
    have HB2 := Lib.hid (HB1.out.below (pw_below_drewN (Below.refl _ _) nq))
    have HW2 := Lib.hid (pw_below_drewN HW1.out nq)
    clear v1 b0 k0 t1 t2 t2f j3 j4
    generalize World.drewN w1 nq = w2 at HB2 HW2 ⊢
    go_wp2_with (go_at_call 96; refine (lay_text b B0 _ l a s _ HB2.out HA.out HU.out HK.out HL.out).mono ?_; rintro e w3 ⟨rfl, hb2, hbl⟩; have HB3 := Lib.hid hb2; have HBL3 := Lib.hid hbl; clear hb2 hbl)
    go_ret
    exact ⟨by rw [HE.out]; rfl, by rw [HV.out]; exact HB3.out, (HW2.out.mono HBB.out).trans HBL3.out.1, (KpT.of_below HW2.out).trans HBL3.out.2⟩
end Go.Proofs.YtkjgnkmnngaioaaGreat.Q
namespace Go.Proofs.YtkjgnkmnngaioaaGreat.Q
open Go.RowKit Go.IntWalk Go.Proofs.YtkjgnkmnngaioaaGreat.Mem Go.Proofs.YtkjgnkmnngaioaaGreatW.PrintWords Go.Proofs.YtkjgnkmnngaioaaGreatW.PrintLast Go.Proofs.YtkjgnkmnngaioaaGreatW.PrintMore
set_option linter.unusedVariables false
set_option linter.unusedSimpArgs false
abbrev Tk := S46
def rootL : List UInt8 := [114, 111, 111, 116]
def imgL : List UInt8 := [105, 109, 103]
def opN (t : Tk) : Nd := ⟨0, t.f1, ⟨#[]⟩, t.f3, []⟩
def opE (l : List Nd) (a : Nat) (t : Tk) : Int := if t.f1.toList = rootL then 0 else layE l a
def opLs (l : List Nd) (a : Nat) (t : Tk) : List Nd := if t.f1.toList = rootL then l else layL l a (opN t)
def opA (l : List Nd) (a : Nat) (t : Tk) : Nat := if t.f1.toList = rootL then a else if layE l a = 0 ∧ t.f1.toList ≠ imgL then l.length else a
def OnP (b B0 : Nat) (l : List Nd) (a : Nat) (t : Tk) (w : World) (e : Ending) (w' : World) : Prop :=
  e = .returned (.int .i64 (opE l a t)) ∧ (∃ v', Bd b B0 (fun k => k ≠ b) v' (opLs l a t) (opA l a t) w') ∧ Below B0 w w' ∧ KpT w w'
set_option maxRecDepth 100000 in
set_option maxHeartbeats 8000000 in
theorem open_calls (b B0 : Nat) (v : Value) (l : List Nd) (a : Nat) (t : Tk) (Ax : Option Addr) (cx : Nat) (w : World) (hB : Bd b B0 (fun k => k ≠ b) v l a w) (ha : a < l.length) (hok : okUp l) (hk : okKids l) (hl : l.length ≤ 60)
    (hC : Kd.C k70 w Ax t.f3.length t.f3) (hn : t.f3.length ≤ 1000000) :
    Calls Tryz.prog 61 #[.pointer (some ⟨b, 0, none⟩), .agg #[.int .i64 t.f0, .string t.f1, .string t.f2, .slice Ax t.f3.length cx]] w (OnP b B0 l a t w) := by
  have HB := Lib.hid hB
  have HA := Lib.hid ha
  have HU := Lib.hid hok
  have HK := Lib.hid hk
  have HL := Lib.hid hl
  have HC := Lib.hid hC
  have HN := Lib.hid hn
  have HBL := Lib.hid hB.box.lt
  have HBB := Lib.hid (show B0 ≤ w.heap.size from Nat.le_trans hB.base (Nat.le_of_lt hB.box.lt))
  clear hB ha hok hk hl hC hn
  by_cases h0 : t.f1.toList = [114, 111, 111, 116]
  · have HE := Lib.hid (show opE l a t = 0 from by unfold opE; rw [if_pos (show t.f1.toList = rootL from h0)])
    have HV := Lib.hid (show opLs l a t = l from by unfold opLs; rw [if_pos (show t.f1.toList = rootL from h0)])
    have HA2 := Lib.hid (show opA l a t = a from by unfold opA; rw [if_pos (show t.f1.toList = rootL from h0)])
    have v1 : (t.f1.toList == [114, 111, 111, 116]) = true := by simpa using h0
    have H0 := Lib.hid h0
    clear h0
    go_enter Tryz.func61, Tryz.ntmps61
    go_wp2_with fail
    go_ret
    exact ⟨by rw [HE.out]; rfl, ⟨v, by rw [HV.out, HA2.out]; exact HB.out.below ((Below.refl _ _).alloc (Nat.le_refl _) _)⟩, ((Below.refl _ _).alloc (Nat.le_refl _) _).mono HBB.out, KpT.of_below ((Below.refl _ _).alloc (Nat.le_refl _) _)⟩
  · have HE := Lib.hid (show opE l a t = layE l a from by unfold opE; rw [if_neg (show ¬ t.f1.toList = rootL from h0)])
    have HV := Lib.hid (show opLs l a t = layL l a (opN t) from by unfold opLs; rw [if_neg (show ¬ t.f1.toList = rootL from h0)])
    have v1 : (t.f1.toList == [114, 111, 111, 116]) = false := by simpa using h0
    have H0 := Lib.hid h0
    clear h0
    have X1 := Lib.hid (Blk.alloc w #[.int .i64 t.f0, .string t.f1, .string t.f2, .slice Ax t.f3.length cx] 46)
    have X2 := Lib.hid (HB.out.below ((Below.refl _ w).alloc (Nat.le_refl _) (.cells #[.int .i64 t.f0, .string t.f1, .string t.f2, .slice Ax t.f3.length cx] 46)))
    have X3 := Lib.hid (Kd.C_below HC.out ((Below.refl _ w).alloc (Nat.le_refl _) (.cells #[.int .i64 t.f0, .string t.f1, .string t.f2, .slice Ax t.f3.length cx] 46)))
    have X4 := Lib.hid ((Below.refl w.heap.size w).alloc (Nat.le_refl _) (.cells #[.int .i64 t.f0, .string t.f1, .string t.f2, .slice Ax t.f3.length cx] 46))
    go_enter Tryz.func61, Tryz.ntmps61
    go_upto_region 3 with (fail)
    generalize w.alloc (.cells #[.int .i64 t.f0, .string t.f1, .string t.f2, .slice Ax t.f3.length cx] 46) = w1 at X1 X2 X3 X4 ⊢
    have x1 := X1.out.cell 1
    have x3 := X1.out.cell 3
    simp only [List.getElem?_toArray, List.getElem?_cons_zero, List.getElem?_cons_succ] at x1 x3
    go_region_law (first
      | (go_simp; go_at_call 83; refine (cloneA_calls Ax cx t.f3 _ (Kd.C_below X3.out (below_drew (Below.refl _ _))) HN.out).mono ?_; rintro e w2 ⟨va, rfl, hr, hb⟩; have hb1 : Below w1.heap.size w1 w2 := Below.trans (b := w1.drew) ⟨rfl, rfl, rfl, Nat.le_refl _, fun _ _ => rfl⟩ hb; have HR2 := Lib.hid (show Kd.R k70 70 w2 w1.heap.size (fun _ => True) va t.f3 from hr); have HB1 := Lib.hid hb1; obtain ⟨A2, c2, hva⟩ := Kd.R_slice hr; subst hva; have x1' : w2.cell? ⟨w.heap.size, 1, none⟩ = some (.string t.f1) := (X1.out.below hb1 X1.out.lt).cell 1; clear hr hb hb1)
      | (go_simp; go_at_call 96; refine (lay_calls b B0 v l a (opN t) [.int .i64 0, .string t.f1, .string ⟨#[]⟩, .slice A2 t.f3.length c2, .slice none 0 0] (fun k => w1.heap.size ≤ k ∧ k < w2.heap.size) _ ⟨X2.out.box.below HB1.out X2.out.box.lt, Kd.S_mono (Kd.S_old X2.out.rows HB1.out) (fun k hk => ⟨hk.1, fun h => by have := hk.2; omega⟩), X2.out.base⟩ (k49_mkM _ _ _ (opN t) (Kd.R_lower (Kd.R_mono (Kd.R_bound HR2.out) (fun k hk => ⟨hk.2.1, hk.2.2.1⟩)) (Nat.le_trans HBB.out X4.out.size)) (Kd.R_nil _ _ _ _ _)) (fun k hk => ⟨by have := X2.out.box.lt; omega, hk.2⟩) HA.out HU.out HL.out (okKids_all HK.out)).mono ?_; rintro e w3 ⟨rfl, hbd, hbl, hkp⟩; have HB3 := Lib.hid hbd; have HL3 := Lib.hid (((X4.out.trans (HB1.out.mono X4.out.size)).mono HBB.out).trans hbl); have HP3 := Lib.hid (((KpT.of_below X4.out).trans (KpT.of_below HB1.out)).trans hkp); have HX3 := Lib.hid (hkp _ _ _ (by decide) (by decide) (by decide) (X1.out.below HB1.out X1.out.lt)); clear hbd hbl hkp))
    all_goals
      show Exit.then _ _ _ _ _
      have HB4 := Lib.hid HB3.out.choose_spec
      generalize HB3.out.choose = v3 at HB4
      obtain ⟨A3, c3, hv3⟩ := Kd.S_slice HB4.out.rows
      subst hv3
      have y1 := HX3.out.cell 1
      simp only [List.getElem?_toArray, List.getElem?_cons_zero, List.getElem?_cons_succ] at y1
      clear x1 x3 x1' v1
      by_cases he : layE l a = 0
      · by_cases hi : t.f1.toList = [105, 109, 103]
        · have HA2 := Lib.hid (show opA l a t = a from by unfold opA; rw [if_neg (show ¬ t.f1.toList = rootL from H0.out), if_neg (fun h => h.2 hi)])
          have v2 : (t.f1.toList == [105, 109, 103]) = true := by simpa using hi
          clear hi
          rw [he]
          have HE0 := Lib.hid he
          clear he
          go_wp2_with fail
          go_ret
          exact ⟨by rw [HE.out, HE0.out]; rfl, ⟨_, by rw [HV.out, HA2.out]; exact HB4.out⟩, HL3.out, HP3.out⟩
        · have HA2 := Lib.hid (show opA l a t = l.length from by unfold opA; rw [if_neg (show ¬ t.f1.toList = rootL from H0.out), if_pos ⟨he, hi⟩])
          have v2 : (t.f1.toList == [105, 109, 103]) = false := by simpa using hi
          have hll : (layL l a (opN t)).length = l.length + 1 := by unfold layL; rw [if_pos he, List.length_append, addKid, List.length_set]; rfl
          have b0 := HB4.out.box.cell 0
          have b1 := HB4.out.box.cell 1
          have z1 := HB4.out.box.free 1
          simp only [List.getElem?_toArray, List.getElem?_cons_zero, List.getElem?_cons_succ] at b0 b1
          rw [hll] at b0
          clear hi hll
          rw [he]
          have HE0 := Lib.hid he
          clear he
          have i1 : (l.length : Int) ≤ 60 := by have := HL.out; omega
          go_wp2_with fail
          go_ret
          refine ⟨by rw [HE.out, HE0.out]; rfl, ⟨_, by rw [HV.out, HA2.out]; exact ⟨HB4.out.box.set 1 _, Kd.S_far (p := ⟨b, 1, none⟩) HB4.out.rows (fun k hk => hk) _, HB4.out.base⟩⟩, HL3.out.setCell (p := ⟨b, 1, none⟩) HB4.out.base _, HP3.out.trans (KpT.set (o := 1) (v := .int .i64 (l.length : Int)) HB4.out.box (.inr (.inr rfl)))⟩
      · have HA2 := Lib.hid (show opA l a t = a from by unfold opA; rw [if_neg (show ¬ t.f1.toList = rootL from H0.out), if_neg (fun h => he h.1)])
        have v2 : (layE l a == 0) = false := by simpa using he
        clear he
        go_wp2_with fail
        go_ret
        exact ⟨by rw [HE.out]; rfl, ⟨_, by rw [HV.out, HA2.out]; exact HB4.out⟩, HL3.out, HP3.out⟩
end Go.Proofs.YtkjgnkmnngaioaaGreat.Q
