/- What the proof of treeMay_holds needs, of the texts that this work has written and of the words that the kit's print lends. -/
import Derived.Test.YtkjgnkmnngaioaaGreatZdc
import Derived.Test.YtkjgnkmnngaioaaGreatZdb
import Derived.Test.YtkjgnkmnngaioaaGreatZda
import Derived.Laws.MakeOwn
import Derived.Laws.IdiomStrings
import Derived.Laws.BytesArg
import Derived.Laws.AppendOwn
import Derived.Lib.Strings
import Derived.Lib.Slices
import Derived.OrdersHeld
import Derived.Deep.RegionHeld3
import Derived.Laws.BitsLemmas
import Derived.RowKit
namespace Go.Proofs.YtkjgnkmnngaioaaGreat.Q
open Go.RowKit Go.IntWalk Go.Proofs.YtkjgnkmnngaioaaGreat.Mem
set_option linter.unusedVariables false
set_option linter.unusedSimpArgs false
theorem hnot (x : Bool) (w : World) : (Op.unary .not (.bool x)).run Tryz.prog w = .ok (.bool (!x)) w := rfl
theorem hmf (fn : Fn) (first cap : Array Value) (w : World) : (Instr.makeFunc fn first cap).run Tryz.prog w = .ok (.func fn first cap) w := rfl
theorem hna (p : Addr) (w : World) : (nilAhead 342 230 (.pointer (some p)) "WriteString").run Tryz.prog w = .ok (some false) w := by kernel_rfl
theorem hme (p : Addr) (w : World) : (method 342 230 (.pointer (some p)) "WriteString").run Tryz.prog w = .ok (200, .pointer (some p)) w := by kernel_rfl
/-- Ahead of a piece that is written, and behind it. -/
def WrC (base bb : Nat) (w0 : World) (out : List UInt8) (t : ByteArray) : Nat → World → Prop
  | 0, w => Buf base bb w out ∧ Apart base bb w0 w
  | _, w => Buf base bb w (out ++ t.data.toList) ∧ Apart base bb w0 w
theorem hta (p : Option Addr) (w : World) : (Instr.typeAssert (.iface 230 (.pointer p)) 232 234 true).run Tryz.prog w = .ok (.tuple #[.iface 230 (.pointer p), .bool true]) w := by kernel_rfl
set_option maxRecDepth 100000 in
theorem gsw_calls (bb : Nat) (w : World) : Calls Tryz.prog 188 #[.iface 230 (.pointer (some ⟨bb, 0, none⟩))] w fun e w' => e = .returned (.iface 230 (.pointer (some ⟨bb, 0, none⟩))) ∧ w = w' := by
  have h1 := hnot
  have h2 := hta
  go_enter Tryz.func188, Tryz.ntmps188
  go_wp2
  go_ret
  exact ⟨rfl, rfl⟩
set_option maxRecDepth 100000 in
set_option maxHeartbeats 1600000 in
theorem look_empty (g : Nat) (s : ByteArray) (w : World) (hT : Tri g w) (hs : s.toList.isEmpty = true) : Calls Tryz.prog 189 #[.pointer (some ⟨g, 0, none⟩), .string s, .bool false] w fun e w' => e = .returned (.tuple #[.string em, .int .i64 0, .bool false]) ∧ w = w' := by
  have c1 : w.cell? ⟨g, 1, none⟩ = some (.int .i64 0) := (hT.root.cell 1).trans gb_1
  clear hT
  go_enter Tryz.func189, Tryz.ntmps189
  go_wp2_with fail
  go_loopw [1, 6, 7, 8, 9, 10, 11] (fun sv vv kv fv bv nv iv wr => sv = .string s ∧ vv = .string em ∧ kv = .int .i64 0 ∧ fv = .bool false ∧ bv = .int .i64 0 ∧ nv = .pointer (some ⟨g, 0, none⟩) ∧ iv = .int .i64 0 ∧ wr = w) (fun _ _ _ _ _ _ _ _ => 0)
  case atStart => exact ⟨rfl, rfl, rfl, rfl, rfl, rfl, rfl, rfl⟩
  case round =>
    obtain ⟨rfl, rfl, rfl, rfl, rfl, rfl, rfl, rfl⟩ := hrel
    go_wp2_with fail
    go_ret3
    exact ⟨rfl, rfl⟩
def tellB (o : Option Nat) (f : Nat → List UInt8) (d : List UInt8) : List UInt8 :=
  match o with
  | some a => f a
  | none => d
def tellN (s : ByteArray) : Nat → Nat → List UInt8
  | 0, _ => []
  | d + 1, i => if h : i < s.size then
      if s[i].toNat = 38 then tellB (lkF (s.extract i s.size)) (fun a => (vs a).data.toList ++ tellN s d (i + (2 + (px a).size))) (s[i] :: tellN s d (i + 1)) else s[i] :: tellN s d (i + 1)
    else []
theorem tellN_enough (s : ByteArray) : ∀ (d d' i : Nat), s.size - i ≤ d → s.size - i ≤ d' → tellN s d i = tellN s d' i
  | 0, 0, i, _, _ => rfl
  | 0, d' + 1, i, h, _ => by rw [tellN, tellN, dif_neg (by omega)]
  | d + 1, 0, i, _, h => by rw [tellN, tellN, dif_neg (by omega)]
  | d + 1, d' + 1, i, h, h' => by
    rw [tellN, tellN]
    by_cases hi : i < s.size
    · rw [dif_pos hi, dif_pos hi, tellN_enough s d d' (i + 1) (by omega) (by omega)]
      have : (fun a => (vs a).data.toList ++ tellN s d (i + (2 + (px a).size))) = fun a => (vs a).data.toList ++ tellN s d' (i + (2 + (px a).size)) := by
        funext a
        rw [tellN_enough s d d' (i + (2 + (px a).size)) (by omega) (by omega)]
      rw [this]
    · rw [dif_neg hi, dif_neg hi]
/-- What a text tells, from a place on. -/
def tellF (s : ByteArray) (i : Nat) : List UInt8 := tellN s (s.size - i) i
theorem tellF_eq {s : ByteArray} {i : Nat} (h : i < s.size) : tellF s i = if s[i].toNat = 38 then tellB (lkF (s.extract i s.size)) (fun a => (vs a).data.toList ++ tellF s (i + (2 + (px a).size))) (s[i] :: tellF s (i + 1)) else s[i] :: tellF s (i + 1) := by
  have e : s.size - i = (s.size - (i + 1)) + 1 := by omega
  unfold tellF
  rw [e, tellN, dif_pos h]
  have : (fun a => (vs a).data.toList ++ tellN s (s.size - (i + 1)) (i + (2 + (px a).size))) = fun a => (vs a).data.toList ++ tellN s (s.size - (i + (2 + (px a).size))) (i + (2 + (px a).size)) := by
    funext a
    rw [tellN_enough s (s.size - (i + 1)) (s.size - (i + (2 + (px a).size))) (i + (2 + (px a).size)) (by omega) (by omega)]
  rw [this]
theorem tellF_no {s : ByteArray} {i : Nat} (h : i < s.size) (hc : ¬ s[i].toNat = 38) : tellF s i = s[i] :: tellF s (i + 1) := by
  rw [tellF_eq h, if_neg hc]
theorem tellF_none {s : ByteArray} {i : Nat} (h : i < s.size) (hn : lkF (s.extract i s.size) = none) : tellF s i = s[i] :: tellF s (i + 1) := by
  rw [tellF_eq h, hn]
  split <;> rfl
theorem tellF_some {s : ByteArray} {i a : Nat} (h : i < s.size) (hc : s[i].toNat = 38) (hn : lkF (s.extract i s.size) = some a) : tellF s i = (vs a).data.toList ++ tellF s (i + (2 + (px a).size)) := by
  rw [tellF_eq h, if_pos hc, hn]
  rfl
theorem tellF_end {s : ByteArray} {i : Nat} (h : s.size ≤ i) : tellF s i = [] := by
  unfold tellF
  rw [show s.size - i = 0 by omega]
  rfl
theorem look_none (g : Nat) (s : ByteArray) (w : World) (hT : Tri g w) (h0 : 0 < s.size) (h38 : s[0].toNat = 38) (hk : lkF s = none) :
    Calls Tryz.prog 189 #[.pointer (some ⟨g, 0, none⟩), .string s, .bool false] w fun e w' => e = .returned (.tuple #[.string em, .int .i64 0, .bool false]) ∧ ∃ n, w' = w.drewN n := by
  have := look g s w hT h0 h38 (ne_list h0)
  rw [hk] at this
  exact this
theorem look_some (g : Nat) (s : ByteArray) (w : World) (a : Nat) (hT : Tri g w) (h0 : 0 < s.size) (h38 : s[0].toNat = 38) (hk : lkF s = some a) :
    Calls Tryz.prog 189 #[.pointer (some ⟨g, 0, none⟩), .string s, .bool false] w fun e w' => e = .returned (.tuple #[.string (vs a), .int .i64 (2 + ((px a).size : Int)), .bool true]) ∧ ∃ n, w' = w.drewN n := by
  have := look g s w hT h0 h38 (ne_list h0)
  rw [hk] at this
  exact this
theorem vs_size (a : Nat) : (vs a).size ≤ 1 := by
  rcases a with _ | _ | _ | _ | a
  · decide
  · decide
  · decide
  · decide
  · show (VS.getD (a + 4) em).size ≤ 1
    rw [List.getD_eq_getElem?_getD, List.getElem?_eq_none (by show 4 ≤ a + 4; omega)]
    decide
theorem tl_size (s : ByteArray) : (tl s).size = s.size - 1 := by unfold tl; simp
theorem lk_len {t : ByteArray} {a : Nat} (h : lkF t = some a) : 2 + (px a).size ≤ t.size := by
  unfold lkF at h
  by_cases h0 : 0 < (tl t).size
  · rw [dif_pos h0] at h
    cases hI : lkI (tl t)[0] with
    | none => rw [hI] at h; cases h
    | some i =>
      rw [hI] at h
      dsimp only at h
      by_cases hp : hpB (tl (tl t)) (px i) = true
      · rw [if_pos hp] at h
        cases h
        unfold hpB at hp
        by_cases hs : (px a).size ≤ (tl (tl t)).size
        · rw [tl_size, tl_size] at hs
          have := (px_size a).1
          omega
        · rw [if_neg hs] at hp; cases hp
      · rw [if_neg hp] at h; cases h
  · rw [dif_neg h0] at h; cases h
theorem ival {k : IntKind} {a b : Int} (h : a = b) : Value.int k a = Value.int k b := by rw [h]
theorem bval {a b : Bool} (h : a = b) : Value.bool a = Value.bool b := by rw [h]
/-- A piece of a text. -/
def pce (s : ByteArray) (i j : Nat) : List UInt8 := (s.extract i j).data.toList
theorem pce_snoc {s : ByteArray} {a i : Nat} (h : a ≤ i) (hi : i < s.size) : pce s a (i + 1) = pce s a i ++ [s[i]] := by
  unfold pce
  simp only [ByteArray.data_extract, Array.toList_extract, List.extract_eq_take_drop]
  rw [show i + 1 - a = (i - a) + 1 by omega, List.take_succ_eq_append_getElem (by simp; omega), List.getElem_drop]
  congr 2
  simp only [show a + (i - a) = i by omega]
  rfl
theorem pce_same (s : ByteArray) (i : Nat) : pce s i i = [] := by
  unfold pce
  simp only [ByteArray.data_extract, Array.toList_extract, List.extract_eq_take_drop, Nat.sub_self, List.take_zero]
theorem pce_end {s : ByteArray} {a i : Nat} (ha : a ≤ s.size) (hi : s.size ≤ i) : pce s a i = pce s a s.size := by
  unfold pce
  simp only [ByteArray.data_extract, Array.toList_extract, List.extract_eq_take_drop]
  rw [List.take_of_length_le (by simp; omega), List.take_of_length_le (by simp)]
theorem pce_nil {s : ByteArray} {a i : Nat} (ha : s.size ≤ a) : pce s a i = [] := by
  unfold pce
  simp only [ByteArray.data_extract, Array.toList_extract, List.extract_eq_take_drop]
  rw [List.drop_of_length_le (by simp; omega), List.take_nil]
theorem tab_root {g : Nat} {w : World} (h : Tri g w) {m : Nat} (h0 : 0 < m) (h1 : m < 11) : w.cell? ⟨g + 1, m, none⟩ = some np := by
  have : m = 1 ∨ m = 2 ∨ m = 3 ∨ m = 4 ∨ m = 5 ∨ m = 6 ∨ m = 7 ∨ m = 8 ∨ m = 9 ∨ m = 10 := by omega
  rcases this with rfl | rfl | rfl | rfl | rfl | rfl | rfl | rfl | rfl | rfl
  · exact h.tab.cell 1
  · exact h.tab.cell 2
  · exact h.tab.cell 3
  · exact h.tab.cell 4
  · exact h.tab.cell 5
  · exact h.tab.cell 6
  · exact h.tab.cell 7
  · exact h.tab.cell 8
  · exact h.tab.cell 9
  · exact h.tab.cell 10
theorem mp_all2 : ((List.range 256).all fun c => (List.range 12).any fun m => decide (MP.getD c 0 = (m : Int)) && (decide (c = 38) || decide (0 < m))) = true := by decide +kernel
theorem mp_any (c : UInt8) : ∃ m : Nat, MP.getD c.toNat 0 = (m : Int) ∧ (¬ c.toNat = 38 → 0 < m ∧ m ≤ 11) := by
  have := List.all_eq_true.1 mp_all2 c.toNat (List.mem_range.2 c.toNat_lt)
  obtain ⟨m, h1, h2⟩ := List.any_eq_true.1 this
  simp only [Bool.and_eq_true, decide_eq_true_eq, Bool.or_eq_true] at h2
  exact ⟨m, h2.1, fun h => ⟨by rcases h2.2 with h3 | h3; exact (h h3).elim; exact h3, by have := List.mem_range.1 h1; omega⟩⟩
set_option maxRecDepth 100000 in
set_option maxHeartbeats 4000000 in
theorem wr_calls (g base bb : Nat) (s : ByteArray) (w : World) (hT : Tri g w) (hgb : g + 12 ≤ base) (hB : Buf base bb w []) (hs : s.size ≤ 600000) :
    Calls Tryz.prog 187 #[.pointer (some ⟨g, 0, none⟩), .iface 230 (.pointer (some ⟨bb, 0, none⟩)), .string s] w fun e w' => (∃ n, e = .returned (.tuple #[.int .i64 n, .nilIface])) ∧ Buf base bb w' (tellF s 0) ∧ Apart base bb w w' := by
  have HT := Lib.hid hT
  have HB := Lib.hid hB
  have HGB := Lib.hid hgb
  clear hT hB hgb
  go_enter Tryz.func187, Tryz.ntmps187
  go_wp2_with (go_at_call 188; refine (gsw_calls bb _).mono ?_; rintro e w1 ⟨rfl, rfl⟩)
  go_loopw [6, 7, 9, 10, 11, 12] (fun nv ev lv kv pv iv wr => ∃ (out : List UInt8) (last i : Nat) (k : Int), nv = .int .i64 (out.length : Int) ∧ ev = .nilIface ∧ lv = .int .i64 (last : Int) ∧ kv = .int .i64 k ∧ pv = .bool false ∧ iv = .int .i64 (i : Int) ∧ last ≤ i ∧ i ≤ s.size + 1 ∧ last ≤ s.size ∧ out.length ≤ last ∧
      Hid (out ++ pce s last i ++ tellF s i = tellF s 0) ∧ Hid (Buf base bb wr out) ∧ Hid (Apart base bb w wr)) (fun _ _ _ _ _ iv _ => s.size + 2 - (intOf iv).toNat)
  case atStart => exact ⟨[], 0, 0, 0, rfl, rfl, rfl, rfl, rfl, rfl, Nat.le_refl _, by omega, by omega, by simp, Lib.hid (by simp [pce]), HB, Lib.hid (Apart.refl _ _ _)⟩
  case round =>
    obtain ⟨out, last, i, k, rfl, rfl, rfl, rfl, rfl, rfl, h1, h2, h3, h4, HO, HBU, HA⟩ := hrel
    have HTr := Lib.hid (show Tri g wr from HT.out.keep (fun j j1 j2 => HA.out.block j (by have := HGB.out; omega)))
    by_cases hi : i ≤ s.size
    · by_cases hlt : i < s.size
      · have HB1 := Lib.hid (show pce s last (i + 1) = pce s last i ++ [s[i]] from pce_snoc h1 hlt)
        have u1 : (i : Int) ≤ (s.size : Int) := by omega
        have u2 : (i : Int) < (s.size : Int) := by omega
        have u3 : ((i : Int) != (s.size : Int)) = true := by simp; omega
        have u4 : (0 : Int) ≤ (i : Int) := by omega
        have u5 : (s[i].toNat : Int) < 256 := by have := s[i].toNat_lt; omega
        have c1 : wr.cell? ⟨g, 1, none⟩ = some (.int .i64 0) := (HTr.out.root.cell 1).trans gb_1
        by_cases hc : s[i].toNat = 38
        · have cm : wr.cell? ⟨g, 6 + s[i].toNat, none⟩ = some (.int .u8 ((0 : Nat) : Int)) := by rw [hc]; exact tg_map HTr.out.root 38 0 (by decide) mp_amp
          have HC := Lib.hid hc
          clear hc
          go_upto_region 7 with (fail)
          go_still (by kernel_rfl)
          show Exit.then _ _ _ _ wr.drew
          have HT2 := Lib.hid (show Tri g wr.drew from HTr.out.keep (fun j _ _ => rfl))
          have HBU2 := Lib.hid (show Buf base bb wr.drew out from HBU.out.drewN 1)
          have HA2 := Lib.hid (show Apart base bb w wr.drew from HA.out.drewN 1)
          clear c1 cm HTr HBU HA
          generalize wr.drew = W2 at HT2 HBU2 HA2 ⊢
          have c4 : W2.cell? ⟨g, 4, none⟩ = some (.slice (some ⟨g + 1, 0, none⟩) 11 11) := (HT2.out.root.cell 4).trans gb_4
          have c5 : W2.cell? ⟨g, 5, none⟩ = some (.int .i64 11) := (HT2.out.root.cell 5).trans gb_5
          have ct : W2.cell? ⟨g + 1, 0, none⟩ = some (pt (g + 2)) := HT2.out.tab.cell 0
          have hsub : (s.extract i s.size).size = s.size - i := by simp
          have HS0 := Lib.hid (show 0 < (s.extract i s.size).size by omega)
          have HS38 := Lib.hid (show ((s.extract i s.size)[0]'HS0.out).toNat = 38 from by
            rw [ByteArray.getElem_extract]
            simp only [Nat.add_zero]
            exact HC.out)
          clear hsub
          cases hk : lkF (s.extract i s.size) with
          | none =>
            have HN := Lib.hid (tellF_none hlt hk)
            have HK := Lib.hid hk
            clear hk
            have HO2 := Lib.hid (show out ++ pce s last (i + 1) ++ tellF s (i + 1) = tellF s 0 by
              rw [HB1.out, ← HO.out, HN.out]
              simp)
            go_wp2_with (go_at_call 189; refine (look_none g _ _ HT2.out HS0.out HS38.out HK.out).mono ?_; rintro e w1 ⟨rfl, n, rfl⟩)
            go_roundw
            case rel => exact ⟨out, last, i + 1, k, rfl, rfl, rfl, rfl, rfl, by go_num, by omega, by omega, h3, h4, HO2, Lib.hid (HBU2.out.drewN n), Lib.hid (HA2.out.drewN n)⟩
            case measure => simp [intOf]; omega
          | some a =>
            have HN := Lib.hid (tellF_some hlt HC.out hk)
            have HK := Lib.hid hk
            clear hk
            go_upto_region 13 with (go_at_call 189; refine (look_some g _ _ a HT2.out HS0.out HS38.out HK.out).mono ?_; rintro e w1 ⟨rfl, n, rfl⟩)
            have v2 : (0 : Int) ≤ (last : Int) := by omega
            have v3 : (last : Int) ≤ (i : Int) := by omega
            have hmf := hmf
            have hna := hna
            have hme := hme
            clear c4 c5 ct
            have HT3 := Lib.hid (show Tri g (W2.drewN n).drew from HT2.out.keep (fun j _ _ => rfl))
            have hC0 : WrC base bb w out (s.extract last i) 0 (W2.drewN n).drew := ⟨(HBU2.out.drewN n).drewN 1, (HA2.out.drewN n).drewN 1⟩
            have ne : Nonempty (Mix.Wd (WrC base bb w out (s.extract last i)) 0) := ⟨⟨(W2.drewN n).drew, 0, Nat.le_refl _, hC0⟩⟩
            refine Mix.wp_region_mix (C := WrC base bb w out (s.extract last i)) [8] (by kernel_rfl) (by kernel_rfl) hC0 ?_
            iterate 8 (refine Mix.mix_still (by decide) (fun K hK => ?_); go_simp; refine hK _ ?_; clear hK K)
            refine Mix.mix_turn (by decide) (fun K hK => ?_)
            go_simp
            refine ⟨_, fun yw hy => (ws_calls base bb out (s.extract last i) yw hy.1 (by simp; omega)).mono fun e w' h => ⟨h.1, h.2.1, hy.2.trans h.2.2⟩, hK _ ?_⟩
            clear hK K
            iterate 5 (refine Mix.mix_still (by decide) (fun K hK => ?_); go_simp; refine hK _ ?_; clear hK K)
            refine Mix.mix_nil ?_
            intro w6 hw6
            have HB6 := Lib.hid hw6.1
            have HA6 := Lib.hid hw6.2
            clear hw6 ne hC0 HBU2 HA2 HT2 HT3 hna hmf
            show Exit.then _ _ _ _ w6
            have hsz0 : (0 : Int) ≤ ((i - last : Nat) : Int) := by omega
            have hsz1 : ((i - last : Nat) : Int) ≤ 600000 := by omega
            have ho1 : (out.length : Int) ≤ 600000 := by omega
            have ho0 : (0 : Int) ≤ (out.length : Int) := by omega
            have HPX := Lib.hid (px_size a)
            have HVS := Lib.hid (vs_size a)
            have hpx1 : ((px a).size : Int) ≤ 4 := by have := HPX.out; omega
            have hpx0 : (0 : Int) ≤ ((px a).size : Int) := by omega
            have hvs1 : ((vs a).size : Int) ≤ 1 := by have := HVS.out; omega
            have hvs0 : (0 : Int) ≤ ((vs a).size : Int) := by omega
            go_wp2_with (go_at_call 200; refine (ws_calls base bb _ (vs a) _ HB6.out (by have := HVS.out; simp; omega)).mono ?_; rintro e w7 ⟨rfl, hb, ha⟩; have HB7 := Lib.hid hb; have HA7 := Lib.hid ha; clear hb ha)
            have HLN := Lib.hid (lk_len HK.out)
            have hsub2 : (s.extract i s.size).size = s.size - i := by simp
            go_roundw
            case rel =>
              have hln := HLN.out
              have hv := HVS.out
              have hl1 : (s.extract last i).data.toList.length = i - last := by simp; omega
              have hl2 : (vs a).data.toList.length = (vs a).size := by simp
              have hl3 : (out ++ (s.extract last i).data.toList ++ (vs a).data.toList).length = out.length + (i - last) + (vs a).size := by rw [List.length_append, List.length_append, hl1, hl2]
              have q1 : (out.length : Int) + ((i - last : Nat) : Int) + ((vs a).size : Int) = (((out ++ (s.extract last i).data.toList ++ (vs a).data.toList).length : Nat) : Int) := by rw [hl3]; omega
              have q2 : (i : Int) + (2 + ((px a).size : Int)) = ((i + (2 + (px a).size) : Nat) : Int) := by omega
              have q3 : ((2 + ((px a).size : Int)) == 0) = false := by rw [beq_eq_false_iff_ne]; omega
              have q4 : out ++ (s.extract last i).data.toList ++ (vs a).data.toList ++ pce s (i + (2 + (px a).size)) (i + (2 + (px a).size)) ++ tellF s (i + (2 + (px a).size)) = tellF s 0 := by
                rw [← HO.out, HN.out, pce_same]
                unfold pce
                simp only [List.append_nil, List.append_assoc]
              have q5 : i + (2 + (px a).size) ≤ s.size := by omega
              have q6 : (out ++ (s.extract last i).data.toList ++ (vs a).data.toList).length ≤ i + (2 + (px a).size) := by rw [hl3]; omega
              exact ⟨out ++ (s.extract last i).data.toList ++ (vs a).data.toList, i + (2 + (px a).size), i + (2 + (px a).size), ((vs a).size : Int), ival q1, rfl, ival q2, rfl, bval q3, ival q2, Nat.le_refl _, Nat.le_succ_of_le q5, q5, q6, Lib.hid q4, HB7, Lib.hid (HA6.out.trans HA7.out)⟩
            case measure => have := HLN.out; simp [intOf]; omega
        · have HN := Lib.hid (tellF_no hlt hc)
          obtain ⟨m, hm, hm'⟩ := mp_any s[i]
          have cm : wr.cell? ⟨g, 6 + s[i].toNat, none⟩ = some (.int .u8 (m : Int)) := tg_map HTr.out.root _ m (by omega) hm
          have hm0 : 0 < m ∧ m ≤ 11 := hm' hc
          have hmw : IntKind.i64.wrap (m : Int) = (m : Int) := i64_in _ (by omega)
          clear hm hm'
          go_upto_region 7 with (fail)
          go_still (by kernel_rfl)
          show Exit.then _ _ _ _ wr.drew
          have HT2 := Lib.hid (show Tri g wr.drew from HTr.out.keep (fun j _ _ => rfl))
          have HBU2 := Lib.hid (show Buf base bb wr.drew out from HBU.out.drewN 1)
          have HA2 := Lib.hid (show Apart base bb w wr.drew from HA.out.drewN 1)
          clear c1 cm HTr HBU HA hmw
          generalize wr.drew = W2 at HT2 HBU2 HA2 ⊢
          have c4 : W2.cell? ⟨g, 4, none⟩ = some (.slice (some ⟨g + 1, 0, none⟩) 11 11) := (HT2.out.root.cell 4).trans gb_4
          have c5 : W2.cell? ⟨g, 5, none⟩ = some (.int .i64 11) := (HT2.out.root.cell 5).trans gb_5
          have HO2 := Lib.hid (show out ++ pce s last (i + 1) ++ tellF s (i + 1) = tellF s 0 by
            rw [HB1.out, ← HO.out, HN.out]
            simp)
          by_cases h11 : m = 11
          · have v1 : ((m : Int) == 11) = true := by simp; omega
            clear h11 hm0
            go_wp2_with fail
            go_roundw
            case rel => exact ⟨out, last, i + 1, k, rfl, rfl, rfl, rfl, rfl, by go_num, by omega, by omega, h3, h4, HO2, HBU2, HA2⟩
            case measure => simp [intOf]; omega
          · have v1 : ((m : Int) == 11) = false := by simp; omega
            have v2 : (m : Int) < 11 := by omega
            have v3 : (0 : Int) ≤ (m : Int) := by omega
            have ct : W2.cell? ⟨g + 1, m, none⟩ = some np := tab_root HT2.out hm0.1 (by omega)
            clear h11 hm0
            go_wp2_with fail
            go_roundw
            case rel => exact ⟨out, last, i + 1, k, rfl, rfl, rfl, rfl, rfl, by go_num, by omega, by omega, h3, h4, HO2, HBU2, HA2⟩
            case measure => simp [intOf]; omega
      · have hie : i = s.size := by omega
        have HO2 := Lib.hid (show out ++ pce s last (i + 1) ++ tellF s (i + 1) = tellF s 0 by
          rw [← HO.out, tellF_end (by omega), tellF_end (by omega), pce_end (i := i + 1) h3 (by omega), pce_end (i := i) h3 (by omega)])
        have u1 : (i : Int) ≤ (s.size : Int) := by omega
        have u3 : ((i : Int) != (s.size : Int)) = false := by simp; omega
        have u4 : (0 : Int) ≤ (i : Int) := by omega
        have HE := Lib.hid (show (s.extract i s.size).toList.isEmpty = true from empty_list (by simp; omega))
        clear hie
        go_wp2_with (go_at_call 189; refine (look_empty g _ _ HTr.out HE.out).mono ?_; rintro e w1 ⟨rfl, rfl⟩)
        go_roundw
        case rel => exact ⟨out, last, i + 1, k, rfl, rfl, rfl, rfl, rfl, by go_num, by omega, by omega, h3, h4, HO2, HBU, HA⟩
        case measure => simp [intOf]; omega
    · have u1 : ¬ (i : Int) ≤ (s.size : Int) := by omega
      by_cases hl : last = s.size
      · have v1 : ((last : Int) != (s.size : Int)) = false := by simp; omega
        have HF := Lib.hid (show out = tellF s 0 by
          rw [← HO.out, tellF_end (by omega), pce_nil (by omega)]; simp)
        clear hl
        go_wp2_with fail
        refine bodyPost_ret (v := .tuple #[.int .i64 (out.length : Int), .nilIface]) (by simp [results, Tryz.results187, go_sem]) rfl ⟨⟨_, rfl⟩, by rw [← HF.out]; exact HBU.out, HA.out⟩
      · have v1 : ((last : Int) != (s.size : Int)) = true := by simp; omega
        have HF := Lib.hid (show out ++ (s.extract last s.size).data.toList = tellF s 0 by
          rw [← HO.out, tellF_end (by omega), pce_end h3 (by omega)]; simp [pce])
        have v2 : (0 : Int) ≤ (last : Int) := by omega
        have v3 : (last : Int) ≤ (s.size : Int) := by omega
        have hmf := hmf
        have hna := hna
        clear hl
        go_upto_region 23 with (fail)
        have hC0 : WrC base bb w out (s.extract last s.size) 0 wr.drew := ⟨HBU.out.drewN 1, HA.out.drewN 1⟩
        have ne : Nonempty (Mix.Wd (WrC base bb w out (s.extract last s.size)) 0) := ⟨⟨wr.drew, 0, Nat.le_refl _, hC0⟩⟩
        have hme := hme
        refine Mix.wp_region_mix (C := WrC base bb w out (s.extract last s.size)) [7] (by kernel_rfl) (by kernel_rfl) hC0 ?_
        iterate 7 (refine Mix.mix_still (by decide) (fun K hK => ?_); go_simp; refine hK _ ?_; clear hK K)
        refine Mix.mix_turn (by decide) (fun K hK => ?_)
        go_simp
        refine ⟨_, fun yw hy => (ws_calls base bb out (s.extract last s.size) yw hy.1 (by simp; omega)).mono fun e w' h => ⟨h.1, h.2.1, hy.2.trans h.2.2⟩, hK _ ?_⟩
        clear hK K
        iterate 5 (refine Mix.mix_still (by decide) (fun K hK => ?_); go_simp; refine hK _ ?_; clear hK K)
        refine Mix.mix_nil ?_
        intro w6 hw6
        have HB6 := Lib.hid hw6.1
        have HA6 := Lib.hid hw6.2
        clear hw6 ne hC0 HBU HA HTr hme hna hmf
        have hsz0 : (0 : Int) ≤ ((s.size - last : Nat) : Int) := by omega
        have hsz1 : ((s.size - last : Nat) : Int) ≤ 600000 := by omega
        have ho1 : (out.length : Int) ≤ 600000 := by omega
        have ho0 : (0 : Int) ≤ (out.length : Int) := by omega
        show Exit.then _ _ _ _ w6
        rw [HF.out] at HB6
        go_wp2_with fail
        refine bodyPost_ret (v := .tuple #[.int .i64 ((out.length : Int) + ((s.size - last : Nat) : Int)), .nilIface]) (by simp [results, Tryz.results187, go_sem]) rfl ⟨⟨_, rfl⟩, HB6.out, HA6.out⟩
end Go.Proofs.YtkjgnkmnngaioaaGreat.Q
namespace Go.Proofs.YtkjgnkmnngaioaaGreat.Q
open Go.RowKit Go.IntWalk Go.Proofs.YtkjgnkmnngaioaaGreat.Mem
set_option linter.unusedVariables false
set_option linter.unusedSimpArgs false
set_option maxRecDepth 100000 in
set_option maxHeartbeats 1600000 in
theorem build_calls (b ob c : Nat) (w : World) (h4 : w.cell? ⟨b, 4, none⟩ = some (.slice (some ⟨ob, 0, none⟩) 8 c)) (hK : ∀ a, a < 4 → w.cell? ⟨ob, 2 * a, none⟩ = some (.string (ks a)) ∧ w.cell? ⟨ob, 2 * a + 1, none⟩ = some (.string (vs a))) :
    Calls Tryz.prog 112 #[.pointer (some ⟨b, 0, none⟩)] w fun e w' => e = .returned (.iface 172 (.pointer (some ⟨w.heap.size, 0, none⟩))) ∧ TrS 4 w.heap.size w' ∧ Below w.heap.size w w' := by
  have HK := Lib.hid hK
  have k0 : w.cell? ⟨ob, 0, none⟩ = some (.string ⟨#[38, 108, 116, 59]⟩) := (hK 0 (by omega)).1
  clear hK
  go_enter Tryz.func112, Tryz.ntmps112
  go_wp2_with fail
  go_loopw [5] (fun iv wr => iv = .int .i64 0 ∧ wr = w) (fun _ _ => 0)
  case atStart => exact ⟨rfl, rfl⟩
  case round =>
    obtain ⟨rfl, rfl⟩ := hrel
    go_wp2_with (go_at_call 128; refine (gen_calls ob c _ HK.out).mono ?_; rintro e w1 ⟨rfl, ht, hb⟩; have HT := Lib.hid ht; have HB := Lib.hid hb; clear ht hb)
    go_ret
    exact ⟨rfl, HT.out, HB.out⟩
/-- What buildOnce leaves. -/
structure Built (b ob c g : Nat) (w w' : World) : Prop where
  rep : ∃ c4, Blk w' b (RB 0 1 (.iface 172 (.pointer (some ⟨g, 0, none⟩))) c4) 139
  trie : Tri g w'
  but : But b w w'
set_option maxRecDepth 100000 in
set_option maxHeartbeats 1600000 in
theorem once_calls (b ob c : Nat) (w : World) (hB : Blk w b (RB 0 1 .nilIface (.slice (some ⟨ob, 0, none⟩) 8 c)) 139) (hob : ob ≠ b) (hK : ∀ a, a < 4 → w.cell? ⟨ob, 2 * a, none⟩ = some (.string (ks a)) ∧ w.cell? ⟨ob, 2 * a + 1, none⟩ = some (.string (vs a))) :
    Calls Tryz.prog 93 #[.pointer (some ⟨b, 0, none⟩)] w fun e w' => e = .returned (.tuple #[]) ∧ Built b ob c w.heap.size w w' := by
  have HK := Lib.hid hK
  have HB := Lib.hid hB
  clear hK hB
  go_enter Tryz.func93, Tryz.ntmps93
  go_wp2_with (go_at_call 112; refine (build_calls b ob c _ (HB.out.cell 4) HK.out).mono ?_; rintro e w1 ⟨rfl, ht, hb⟩; have HT := Lib.hid ht; have HW := Lib.hid hb; have HB1 := Lib.hid (HB.out.below hb HB.out.lt); have c3 := HB1.out.cell 3; have c4 := HB1.out.cell 4; have f3 := HB1.out.free 3; have f4 := HB1.out.free 4; simp only [List.getElem?_toArray, List.getElem?_cons_zero, List.getElem?_cons_succ] at c3 c4; clear ht hb)
  first | go_end0 | refine bodyPost_ret (results_none rfl _ _ _) rfl ?_
  have hb1 := HB1.out
  obtain ⟨ht, hs⟩ := Tri.of HT.out
  have hbl := HB.out.lt
  refine ⟨rfl, ⟨_, (hb1.set 3 _).set 4 _⟩, ht.keep (fun j h1 h2 => (Below.heap_setCell _ _ _ _ (show j ≠ b by omega)).trans (Below.heap_setCell _ _ _ _ (show j ≠ b by omega))), ?_⟩
  exact ((But.of_below HW.out).setCell 3 _).setCell 4 _
end Go.Proofs.YtkjgnkmnngaioaaGreat.Q
namespace Go.Proofs.YtkjgnkmnngaioaaGreat.Q
open Go.RowKit Go.IntWalk Go.Proofs.YtkjgnkmnngaioaaGreat.Mem
set_option linter.unusedVariables false
set_option linter.unusedSimpArgs false
theorem conv_own {w : World} {base : Nat} {v : Value} {l : List UInt8} (h : w.ownsRow base 5 1 v l.length (byc l)) : (convert 229 9 v).run Tryz.prog w = .ok (.string ⟨l.toArray⟩) w := by
  rcases h.2 with ⟨rfl, hl⟩ | ⟨g, cap, cur, rfl, hb, hg, hn, hc, hs, ht⟩
  · have : l = [] := List.length_eq_zero_iff.1 hl
    subst this
    exact run_convert_bytes_nil w 229 5 Tryz.underlying229 Tryz.underlying5 0 0 _ Tryz.underlying9
  · refine run_convert_bytes_back w 229 9 5 ⟨g, 0, none⟩ cap l Tryz.underlying229 Tryz.underlying5 Tryz.underlying9 (fun j hj => ?_)
    refine h.cells (g := g) rfl j _ ?_
    unfold byc
    rw [List.getElem?_map, List.getElem?_eq_getElem hj]
    rfl
theorem below_apart {base bb : Nat} {w w' : World} (h : Apart base bb w w') : Below base w w' := ⟨h.os, h.tape, h.output, h.size, h.block⟩
set_option maxRecDepth 100000 in
set_option maxHeartbeats 4000000 in
theorem gr_calls (g : Nat) (s : ByteArray) (w : World) (hT : Tri g w) (hs : s.size ≤ 600000) :
    Calls Tryz.prog 186 #[.pointer (some ⟨g, 0, none⟩), .string s] w fun e w' => e = .returned (.string ⟨(tellF s 0).toArray⟩) ∧ Below w.heap.size w w' := by
  obtain ⟨i0, hi, hzz⟩ : ∃ i0, Tryz.prog.info? 5 = some i0 ∧ (i0.zero, i0.size, i0.bytes) = (some (.int .u8 0), 1, 1) := Option.map_eq_some_iff.1 (show (Tryz.prog.info? 5).map (fun i => (i.zero, i.size, i.bytes)) = some (some (.int .u8 0), 1, 1) by kernel_rfl)
  simp only [Prod.mk.injEq] at hzz
  obtain ⟨hz0, hz1, hz2⟩ := hzz
  obtain ⟨w1, hrun, hown, hgr⟩ := run_make_own (P := Tryz.prog) w w.heap.size 229 5 i0 (.int .u8 0) 1 Tryz.underlying229 hi hz0 hz1 .i64 .i64 s.size (by rw [hz2]; omega) (by unfold maxLen; omega) (Nat.le_refl _)
  have HT1 := Lib.hid (show Tri g w1 from hT.keep (fun j j1 j2 => hgr.block j (by have := hT.top; omega) (by simp)))
  have HTOP := Lib.hid hT.top
  have HOWN := Lib.hid hown
  have HGR := Lib.hid hgr
  clear hi hz0 hz1 hz2 hown hgr hT
  go_enter Tryz.func186, Tryz.ntmps186
  go_upto_region 2 with (fail)
  clear hrun
  have HB0 := Lib.hid (show Buf w.heap.size w1.heap.size (w1.alloc (.cells #[.slice (some ⟨w.heap.size, 0, none⟩) 0 s.size] 229)) [] from ⟨⟨_, Blk.alloc w1 _ _, HOWN.out.alloc _⟩, HGR.out.size, by have := HGR.out.size; simp; omega⟩)
  have HT2 := Lib.hid (show Tri g (w1.alloc (.cells #[.slice (some ⟨w.heap.size, 0, none⟩) 0 s.size] 229)) from HT1.out.keep (fun j j1 j2 => Below.heap_alloc _ _ _ (by have := HGR.out.size; have := HTOP.out; omega)))
  have HW2 := Lib.hid (show Below w.heap.size w (w1.alloc (.cells #[.slice (some ⟨w.heap.size, 0, none⟩) 0 s.size] 229)) from
    (show Below w.heap.size w w1 from ⟨HGR.out.os, HGR.out.tape, HGR.out.output, HGR.out.size, fun k hk => HGR.out.block k hk (by simp)⟩).alloc HGR.out.size _)
  generalize w1.alloc (.cells #[.slice (some ⟨w.heap.size, 0, none⟩) 0 s.size] 229) = W2 at HB0 HT2 HW2 ⊢
  clear HT1 HOWN HGR
  generalize w1.heap.size = bb at HB0 ⊢
  go_upto_region 3 with (go_at_call 187; refine (wr_calls g w.heap.size bb s _ HT2.out (by have := HTOP.out; omega) HB0.out hs).mono ?_; rintro e w2 ⟨⟨n, rfl⟩, hb, ha⟩; obtain ⟨⟨v, hv1, hv2⟩, -, -⟩ := hb; have hcv := conv_own hv2; obtain ⟨A2, c2, rfl⟩ := own_slice hv2; have c0 : w2.cell? ⟨bb, 0, none⟩ = some (.slice A2 (tellF s 0).length c2) := hv1.cell 0; have HA := Lib.hid (below_apart ha); clear ha hv1 hv2)
  go_wp2_with fail
  go_ret
  exact ⟨rfl, HW2.out.trans HA.out⟩
end Go.Proofs.YtkjgnkmnngaioaaGreat.Q
namespace Go.Proofs.YtkjgnkmnngaioaaGreat.Q
open Go.RowKit Go.Proofs.YtkjgnkmnngaioaaGreat.Mem
set_option linter.unusedVariables false
set_option linter.unusedSimpArgs false
/-- What a new Replacer is. -/
def NewR (m : Nat) (news : List Value) (w : World) (e : Ending) (w' : World) : Prop :=
  ∃ b ob c, e = .returned (.pointer (some ⟨b, 0, none⟩)) ∧ Blk w' b (RB 0 0 .nilIface (.slice (some ⟨ob, 0, none⟩) m c)) 139 ∧ ob ≠ b ∧ w.heap.size ≤ b ∧ (∀ j u, news[j]? = some u → w'.cell? ⟨ob, j, none⟩ = some u) ∧ Below w.heap.size w w'
theorem own_some {w : World} {base : Nat} {e : TypeId} {v : Value} {n : Nat} {xs : List Value} (h : w.ownsRow base e 1 v n xs) (h0 : 0 < n) :
    ∃ g cap, v = .slice (some ⟨g, 0, none⟩) n cap ∧ base ≤ g ∧ g < w.heap.size ∧ ∀ j u, xs[j]? = some u → w.cell? ⟨g, j, none⟩ = some u := by
  have hc := h
  rcases h.2 with ⟨rfl, h1⟩ | ⟨g, cap, cur, rfl, h1, h2, h3⟩
  · omega
  · refine ⟨g, cap, rfl, h1, ?_, fun j u hj => ?_⟩
    · rcases Nat.lt_or_ge g w.heap.size with h4 | h4
      · exact h4
      · rw [Array.getElem?_eq_none h4] at h2; cases h2
    · have := hc.cells (g := g) rfl j u hj
      have e1 : (⟨g, 0, none⟩ : Addr).add j = ⟨g, j, none⟩ := by unfold Addr.add; split <;> simp_all
      rwa [e1] at this
set_option maxRecDepth 100000 in
set_option maxHeartbeats 1600000 in
theorem new_calls8 (ob0 c0 : Nat) (news : List Value) (w : World) (hl : news.length = 8) (hn : ∀ j u, news[j]? = some u → w.cell? ⟨ob0, j, none⟩ = some u) (h1 : ∀ u ∈ news, u.oneCell' = true) :
    Calls Tryz.prog 56 #[.slice (some ⟨ob0, 0, none⟩) 8 c0] w (NewR 8 news w) := by
  obtain ⟨i0, hi, hzz⟩ : ∃ i0, Tryz.prog.info? 9 = some i0 ∧ (i0.zero, i0.size, i0.bytes) = (some (.string ⟨#[]⟩), 1, 16) := Option.map_eq_some_iff.1 (show (Tryz.prog.info? 9).map (fun i => (i.zero, i.size, i.bytes)) = some (some (.string ⟨#[]⟩), 1, 16) by kernel_rfl)
  simp only [Prod.mk.injEq] at hzz
  obtain ⟨hz0, hz1, hz2⟩ := hzz
  have HI := Lib.hid hi
  have HZ0 := Lib.hid hz0
  have HZ1 := Lib.hid hz1
  have HZ2 := Lib.hid hz2
  have HL := Lib.hid hl
  have HN := Lib.hid (show ∀ j u, news[j]? = some u → w.cell? ((⟨ob0, 0, none⟩ : Addr).add j) = some u from fun j u h => by
    have : (⟨ob0, 0, none⟩ : Addr).add j = ⟨ob0, j, none⟩ := by unfold Addr.add; split <;> simp_all
    rw [this]; exact hn j u h)
  have H1 := Lib.hid h1
  clear hi hz0 hz1 hz2 hl hn h1
  go_enter Tryz.func56, Tryz.ntmps56
  go_wp2_with (at_builtin; refine wpList_append_own _ rfl _ _ 87 rfl w.heap.size 9 i0 (.string ⟨#[]⟩) 1 16 Tryz.underlying87 HI.out HZ0.out HZ1.out HZ2.out rfl (by decide) (.slice none 0 0) 0 [] rfl (World.ownsRow_nil _ _ _ _) ⟨ob0, 0, none⟩ 8 c0 news rfl (by rw [HL.out]) HN.out H1.out (by unfold maxLen; omega) (by omega) (Nat.le_refl _) ?_; intro v1 w1 ho1 hg1 h2; obtain ⟨g, cap, rfl, hg2, hg3, hg4⟩ := own_some ho1 (by omega); have HG1 := Lib.hid hg1; have HG2 := Lib.hid hg2; have HG3 := Lib.hid hg3; have HG4 := Lib.hid hg4; clear ho1 hg1 h2 hg2 hg3 hg4)
  refine bodyPost_ret (v := .pointer (some ⟨w1.heap.size, 0, none⟩)) (by simp [results, Tryz.results56, go_sem]) rfl ?_
  have hs := HG1.out.size
  have hg3 := HG3.out
  refine ⟨w1.heap.size, g, cap, rfl, Blk.alloc w1 _ _, by omega, hs, fun j u hj => ?_, ?_⟩
  · rw [World.cell?_of_block (w := w1) (Below.heap_alloc _ _ _ hg3)]
    exact HG4.out j u (by simpa using hj)
  · exact (show Below w.heap.size w w1 from ⟨HG1.out.os, HG1.out.tape, HG1.out.output, hs, fun k hk => HG1.out.block k hk (by simp [Value.ownBlock])⟩).alloc hs _
theorem new_calls (ob0 : Nat) (news : List Value) (w : World) (hl : news.length = 8) (hn : ∀ j u, news[j]? = some u → w.cell? ⟨ob0, j, none⟩ = some u) (h1 : ∀ u ∈ news, u.oneCell' = true) :
    Calls Tryz.prog 56 #[.slice (some ⟨ob0, 0, none⟩) 8 8] w (NewR 8 news w) := new_calls8 ob0 8 news w hl hn h1
end Go.Proofs.YtkjgnkmnngaioaaGreat.Q
namespace Go.Proofs.YtkjgnkmnngaioaaGreat.Q
open Go.RowKit Go.IntWalk Go.Proofs.YtkjgnkmnngaioaaGreat.Mem
set_option linter.unusedVariables false
set_option linter.unusedSimpArgs false
theorem hmr (p : Addr) (w : World) : (method 342 172 (.pointer (some p)) "Replace").run Tryz.prog w = .ok (186, .pointer (some p)) w := by kernel_rfl
set_option maxRecDepth 100000 in
set_option maxHeartbeats 1600000 in
theorem rep_calls (b ob c : Nat) (s : ByteArray) (w : World) (hB : Blk w b (RB 0 0 .nilIface (.slice (some ⟨ob, 0, none⟩) 8 c)) 139) (hob : ob ≠ b) (hK : ∀ a, a < 4 → w.cell? ⟨ob, 2 * a, none⟩ = some (.string (ks a)) ∧ w.cell? ⟨ob, 2 * a + 1, none⟩ = some (.string (vs a))) (hs : s.size ≤ 600000) :
    Calls Tryz.prog 57 #[.pointer (some ⟨b, 0, none⟩), .string s] w fun e w' => e = .returned (.string ⟨(tellF s 0).toArray⟩) ∧ But b w w' := by
  have HS := Lib.hid ((size_set w ⟨b, 1, none⟩ (.int .i32 1)))
  have hF := once_calls b ob c (w.setCell ⟨b, 1, none⟩ (.int .i32 1)) (hB.set 1 _) hob (fun a ha => ⟨(World.cell?_of_block (Below.heap_setCell _ _ _ _ hob)).trans (hK a ha).1, (World.cell?_of_block (Below.heap_setCell _ _ _ _ hob)).trans (hK a ha).2⟩)
  have hD := do_build b .nilIface (.slice (some ⟨ob, 0, none⟩) 8 c) _ w hB (fun w' hq => by obtain ⟨c4, h⟩ := hq.rep; exact ⟨_, c4, h⟩) hF
  have HD := Lib.hid hD
  have HBL := Lib.hid hB.lt
  have hmr := hmr
  have hmf : ∀ (fn : Fn) (first cap : Array Value) (w : World), (Instr.makeFunc fn first cap).run Tryz.prog w = .ok (.func fn first cap) w := fun _ _ _ _ => rfl
  clear hF hD hB hK
  go_enter Tryz.func57, Tryz.ntmps57
  go_upto_region 2 with (go_at_call 92; refine HD.out.mono ?_; rintro e w1 ⟨rfl, w2, hq, hw1⟩; have HQ := Lib.hid hq; have HW1 := Lib.hid hw1; clear hq hw1)
  have HT := Lib.hid (show Tri w.heap.size w1 from by
    have ht := HQ.out.trie
    rw [HS.out] at ht
    rw [HW1.out]
    exact ht.keep (fun j j1 _ => ((Below.heap_setCell _ _ _ _ (show j ≠ b by have := HBL.out; omega)).trans (Below.heap_setCell _ _ _ _ (show j ≠ b by have := HBL.out; omega)))))
  have HZ := Lib.hid (show But b w w1 from by
    rw [HW1.out]
    exact (((((But.refl b w).setCell 1 _).trans HQ.out.but).drewN 1).setCell 0 _).setCell 1 _)
  have c3 : w1.cell? ⟨b, 3, none⟩ = some (.iface 172 (.pointer (some ⟨w.heap.size, 0, none⟩))) := by
    obtain ⟨c4, h⟩ := HQ.out.rep
    rw [HS.out] at h
    rw [HW1.out]
    exact ((h.drew.set 0 _).set 1 _).cell 3
  clear HQ HW1 HD HS
  go_wp2_with (go_at_call 186; refine (gr_calls w.heap.size s _ HT.out hs).mono ?_; rintro e w3 ⟨rfl, hb⟩; have HB3 := Lib.hid hb; clear hb)
  go_ret
  exact ⟨rfl, HZ.out.trans (But.of_below HB3.out)⟩
/-- The pairs of signs and bytes. -/
def PR : List Value := [.string (ks 0), .string (vs 0), .string (ks 1), .string (vs 1), .string (ks 2), .string (vs 2), .string (ks 3), .string (vs 3)]
set_option maxRecDepth 100000 in
set_option maxHeartbeats 1600000 in
theorem tell_calls (s : ByteArray) (w : World) (hs : s.size ≤ 600000) :
    Calls Tryz.prog 19 #[.string s] w fun e w' => e = .returned (.string ⟨(tellF s 0).toArray⟩) ∧ Below w.heap.size w w' := by
  have hN : ∀ W T, Blk W w.heap.size PR.toArray T → Calls Tryz.prog 56 #[.slice (some ⟨w.heap.size, 0, none⟩) 8 8] W (NewR 8 PR W) := fun W T hB => new_calls w.heap.size PR W rfl (fun j u hj => by rw [hB.cell, List.getElem?_toArray]; exact hj) (by decide)
  have HN := Lib.hid hN
  clear hN
  go_enter Tryz.func19, Tryz.ntmps19
  go_wp2_with fail
  refine (HN.out _ 9 (Blk.alloc w PR.toArray 9)).mono ?_
  rintro e w1 ⟨b, ob, c, rfl, h1, h2, h3, h4, h5⟩
  have HB := Lib.hid h1
  have HO := Lib.hid h2
  have HL := Lib.hid (show w.heap.size ≤ b from Nat.le_trans (by simp) h3)
  have HK := Lib.hid (show ∀ a, a < 4 → w1.cell? ⟨ob, 2 * a, none⟩ = some (.string (ks a)) ∧ w1.cell? ⟨ob, 2 * a + 1, none⟩ = some (.string (vs a)) from fun a ha => by
    have : a = 0 ∨ a = 1 ∨ a = 2 ∨ a = 3 := by omega
    rcases this with rfl | rfl | rfl | rfl
    · exact ⟨h4 0 _ rfl, h4 1 _ rfl⟩
    · exact ⟨h4 2 _ rfl, h4 3 _ rfl⟩
    · exact ⟨h4 4 _ rfl, h4 5 _ rfl⟩
    · exact ⟨h4 6 _ rfl, h4 7 _ rfl⟩)
  have HW := Lib.hid (show Below w.heap.size w w1 from ((Below.refl _ _).alloc (Nat.le_refl _) _).trans (h5.mono (by simp)))
  clear h1 h2 h3 h4 h5 HN
  go_wp2_with (go_at_call 57; refine (rep_calls b ob c s _ HB.out HO.out HK.out hs).mono ?_; rintro e w2 ⟨rfl, hb⟩; have HZ := Lib.hid hb; clear hb)
  go_ret
  exact ⟨rfl, HW.out.trans (HZ.out.below HL.out HW.out.size)⟩
end Go.Proofs.YtkjgnkmnngaioaaGreat.Q
namespace Go.Proofs.YtkjgnkmnngaioaaGreat.Q
open Go.RowKit Go.IntWalk Go.Proofs.YtkjgnkmnngaioaaGreat.Mem
set_option linter.unusedVariables false
set_option linter.unusedSimpArgs false
/-- The row that '[]byte(s)' makes. -/
theorem bt_made {w W : World} {g cp : Nat} {fz : Nat × Nat} {s : ByteArray} (hc : s.size ≤ cp) (h : W.heap[g]? = some (.cells (bytesRow s cp) 5 fz)) : Bt W g 0 s.size cp s.data.toList := by
  refine ⟨by simp, hc, fun i hi => ?_⟩
  have h1 : W.cell? ⟨g, 0 + i, none⟩ = (bytesRow s cp)[i]? := by simp [World.cell?, h]
  rw [h1]
  unfold bytesRow
  rw [Array.getElem?_append_left (by simpa using hi)]
  simp at hi
  simp [hi]
/-- A text is a name, and told. -/
def nameB (l : List UInt8) : Bool := decide (nmF l = some l.length) && decide (lows l = l)
set_option maxRecDepth 100000 in
set_option maxHeartbeats 1600000 in
theorem isName_calls (s : ByteArray) (w : World) (hs : s.size ≤ 9223372036854775807) :
    Calls Tryz.prog 17 #[.string s] w fun e w' => e = .returned (.bool (nameB s.data.toList)) ∧ Below w.heap.size w w' := by
  have hbs : ∀ W : World, (convert 9 72 (.string s)).run Tryz.prog W = _ := fun W => run_bytes_of_string (P := Tryz.prog) W 9 72 5 s Tryz.underlying9 Tryz.underlying72 Tryz.underlying5
  obtain ⟨cp, hcp⟩ : ∃ cp, cp = grownCap w s.size 0 5 := ⟨_, rfl⟩
  have hge : s.size ≤ cp := by rw [hcp]; exact grownCap_ge _ _ _ _
  obtain ⟨W, hW⟩ : ∃ W, W = (w.alloc (.cells (bytesRow s cp) 5 ((bytesRow s cp).size, (bytesRow s cp).size + 1))).drew := ⟨_, rfl⟩
  have HBT := Lib.hid (show Bt W w.heap.size 0 s.size cp s.data.toList from bt_made (w := w) hge (by rw [hW]; exact heap_alloc_new w _))
  have HBW := Lib.hid (show Below w.heap.size w W from by rw [hW]; exact below_drewN ((Below.refl _ _).alloc (Nat.le_refl _) _) 1)
  have HNM := Lib.hid (name_calls w.heap.size 0 s.size cp s.data.toList W HBT.out hs)
  have HLL := Lib.hid (show s.data.toList.length = s.size by simp)
  subst hW hcp
  clear hge
  unfold NmPost at HNM
  cases hnm : nmF s.data.toList with
  | none =>
    have HR := Lib.hid (show nameB s.data.toList = false from by unfold nameB; rw [hnm]; rfl)
    rw [hnm] at HNM
    dsimp only at HNM
    clear hnm
    go_enter Tryz.func17, Tryz.ntmps17
    go_wp2_with (go_at_call 53; refine HNM.out.mono ?_; rintro e w' ⟨rfl, hb⟩; have HB2 := Lib.hid hb; clear hb)
    go_ret
    exact ⟨by rw [HR.out]; first | rfl | simp, HBW.out.trans (HB2.out.mono HBW.out.size)⟩
  | some k =>
    rw [hnm] at HNM
    dsimp only at HNM
    have hk := nmF_some hnm
    have hkl : k ≤ s.size := by have := HLL.out; omega
    have HNK := Lib.hid hnm
    clear hnm hk
    by_cases hks : s.size = k
    · subst hks
      have HTK := Lib.hid (show s.data.toList.take s.size = s.data.toList from List.take_of_length_le (by simp))
      rw [HTK.out] at HNM
      have v1 : ((s.size - s.size : Nat) : Int) = 0 := by omega
      rw [Nat.sub_self] at HNM
      go_enter Tryz.func17, Tryz.ntmps17
      go_wp2_with (go_at_call 53; refine HNM.out.mono ?_; rintro e w' ⟨rfl, hb⟩; have HB2 := Lib.hid hb; clear hb)
      go_ret
      refine ⟨?_, HBW.out.trans (HB2.out.mono HBW.out.size)⟩
      show Ending.returned (.bool ((st (lows s.data.toList)).toList == s.toList)) = _
      rw [ByteArray.toList_eq, ByteArray.toList_eq]
      unfold nameB
      rw [HNK.out, HLL.out]
      simp [st]
      rw [Bool.eq_iff_iff]
      simp
    · have v1 : ((s.size - k : Nat) : Int) ≠ 0 := by omega
      have v2 : (((s.size - k : Nat) : Int) == 0) = false := by simp; omega
      have HR := Lib.hid (show nameB s.data.toList = false from by unfold nameB; rw [HNK.out, HLL.out]; simp; omega)
      clear HNK
      go_enter Tryz.func17, Tryz.ntmps17
      go_wp2_with (go_at_call 53; refine HNM.out.mono ?_; rintro e w' ⟨rfl, hb⟩; have HB2 := Lib.hid hb; clear hb)
      go_ret
      exact ⟨by rw [HR.out]; first | rfl | simp, HBW.out.trans (HB2.out.mono HBW.out.size)⟩
set_option maxRecDepth 100000 in
set_option maxHeartbeats 1600000 in
theorem cutp_calls (s p : ByteArray) (w : World) :
    Calls Tryz.prog 121 #[.string s, .string p] w fun e w' => e = .returned (.tuple #[.string ⟨(Lib.trimPrefix s.data.toList p.data.toList).toArray⟩, .bool (Lib.hasPrefix s.data.toList p.data.toList)]) ∧ w = w' := by
  go_enter Tryz.func121, Tryz.ntmps121
  go_wp2
  · have h2 : (!((s.extract 0 p.size).toList == p.toList)) = true := by assumption
    have h3 : (decide (p.size ≤ s.size) && ((s.extract 0 p.size).toList == p.toList)) = false := by
      have : ((s.extract 0 p.size).toList == p.toList) = false := by simpa using h2
      rw [this]
      simp
    go_ret2
    refine ⟨?_, rfl⟩
    rw [Lib.trimPrefix_miss s p h3, ← Lib.hasPrefix_raw, h3]
    rfl
  · have h1 : p.size ≤ s.size := by assumption
    have h2 : (!((s.extract 0 p.size).toList == p.toList)) = false := by assumption
    have h2' : ((s.extract 0 p.size).toList == p.toList) = true := by simpa using h2
    go_ret2
    refine ⟨?_, rfl⟩
    rw [Lib.trimPrefix_hit s p h1 h2', ← Lib.hasPrefix_raw, h2', decide_eq_true h1]
    rfl
  · have h1 : ¬ p.size ≤ s.size := by assumption
    have h3 : (decide (p.size ≤ s.size) && ((s.extract 0 p.size).toList == p.toList)) = false := by simp [h1]
    go_ret2
    refine ⟨?_, rfl⟩
    rw [Lib.trimPrefix_miss s p h3, ← Lib.hasPrefix_raw, h3]
    rfl
set_option maxRecDepth 100000 in
set_option maxHeartbeats 1600000 in
theorem index1_calls (s : ByteArray) (w : World) :
    Calls Tryz.prog 142 #[.string s, .string ⟨#[34]⟩] w fun e w' => e = .returned (.int .i64 (Lib.indexByte s.data.toList 34)) ∧ w = w' := by
  have HS := Lib.hid (show Calls Tryz.prog 130 #[.string s, .int .u8 34] w fun e w' => e = .returned (.int .i64 (Lib.indexByte s.data.toList 34)) ∧ w = w' from sidx_calls s 34 w)
  obtain ⟨b, hb⟩ : ∃ b, ([34] == s.toList) = b := ⟨_, rfl⟩
  cases b with
  | true =>
    have HX := Lib.hid (show Lib.indexByte s.data.toList 34 = 0 from by
      have h : [34] = s.toList := by simpa using hb
      rw [← ByteArray.toList_eq, ← h]
      rfl)
    go_enter Tryz.func142, Tryz.ntmps142
    go_wp2_with (go_at_call 130; refine HS.out.mono ?_; rintro e w' ⟨rfl, rfl⟩)
    go_ret
    exact ⟨by rw [HX.out]; rfl, rfl⟩
  | false =>
    go_enter Tryz.func142, Tryz.ntmps142
    go_wp2_with (go_at_call 130; refine HS.out.mono ?_; rintro e w' ⟨rfl, rfl⟩)
    go_ret
    exact ⟨rfl, rfl⟩
set_option maxRecDepth 100000 in
set_option maxHeartbeats 1600000 in
theorem lcut_miss (s : ByteArray) (w : World) (h : Lib.indexByte s.data.toList 34 = -1) :
    Calls Tryz.prog 132 #[.string s, .string ⟨#[34]⟩] w fun e w' => e = .returned (.tuple #[.string s, .string ⟨#[]⟩, .bool false]) ∧ w = w' := by
  have HS := Lib.hid (index1_calls s w)
  rw [h] at HS
  clear h
  go_enter Tryz.func132, Tryz.ntmps132
  go_wp2_with (go_at_call 142; refine HS.out.mono ?_; rintro e w' ⟨rfl, rfl⟩)
  go_ret3
  exact ⟨rfl, rfl⟩
set_option maxRecDepth 100000 in
set_option maxHeartbeats 1600000 in
theorem lcut_hit (s : ByteArray) (k : Nat) (w : World) (h : Lib.indexByte s.data.toList 34 = k) (hk : k < s.size) (hs : s.size ≤ 600000) :
    Calls Tryz.prog 132 #[.string s, .string ⟨#[34]⟩] w fun e w' => e = .returned (.tuple #[.string (s.extract 0 k), .string (s.extract (k + 1) s.size), .bool true]) ∧ ∃ n, w' = w.drewN n := by
  have HS := Lib.hid (index1_calls s w)
  rw [h] at HS
  clear h
  have v1 : (k : Int) < (s.size : Int) := by omega
  have v2 : (0 : Int) ≤ (k : Int) := by omega
  have v3 : (s.size : Int) ≤ 600000 := by omega
  have v4 : IntKind.i64.wrap ((k : Int) + 1) = ((k + 1 : Nat) : Int) := by rw [i64_in _ ⟨by omega, by omega⟩]; omega
  have v5 : ((k + 1 : Nat) : Int) ≤ (s.size : Int) := by omega
  have v6 : (0 : Int) ≤ ((k + 1 : Nat) : Int) := by omega
  go_enter Tryz.func132, Tryz.ntmps132
  go_upto_region 3 with (go_at_call 142; refine HS.out.mono ?_; rintro e w' ⟨rfl, rfl⟩)
  go_quiet (fail)
  go_wp2_with fail
  go_ret3
  exact ⟨rfl, _, rfl⟩
/-- 'strings.Cut' at a quote, and where it stands. -/
theorem idx_tw (l : List UInt8) : (34 ∈ l → Lib.indexByte l 34 = ((l.takeWhile (· != 34)).length : Int) ∧ (l.takeWhile (· != 34)).length < l.length) ∧ (34 ∉ l → Lib.indexByte l 34 = -1) := by
  induction l with
  | nil => simp [Lib.indexByte]
  | cons c l ih =>
    unfold Lib.indexByte
    by_cases hc : c = 34
    · subst hc
      simp
    · have h1 : (c == 34) = false := by simpa using hc
      have h2 : (c != 34) = true := by simpa using hc
      rw [h1, List.takeWhile_cons, h2]
      refine ⟨fun h => ?_, fun h => ?_⟩
      · have hm : 34 ∈ l := by
          rcases List.mem_cons.1 h with h | h
          · exact absurd h.symm hc
          · exact h
        obtain ⟨h3, h4⟩ := ih.1 hm
        rw [h3]
        have h5 : (((l.takeWhile (· != 34)).length : Int) == -1) = false := by first | (simp; done) | (simp; omega)
        simp only [Bool.false_eq_true, if_false, if_true, h5, List.length_cons]
        omega
      · have hm : 34 ∉ l := fun hm => h (List.mem_cons_of_mem _ hm)
        rw [ih.2 hm]
        rfl
set_option maxRecDepth 100000 in
set_option maxHeartbeats 1600000 in
theorem cut_miss (s : ByteArray) (w : World) (h : 34 ∉ s.data.toList) :
    Calls Tryz.prog 122 #[.string s, .string ⟨#[34]⟩] w fun e w' => e = .returned (.tuple #[.string s, .string ⟨#[]⟩, .bool false]) ∧ w = w' := by
  have HS := Lib.hid (lcut_miss s w ((idx_tw _).2 h))
  clear h
  go_enter Tryz.func122, Tryz.ntmps122
  go_wp2_with (go_at_call 132; refine HS.out.mono ?_; rintro e w' ⟨rfl, rfl⟩)
  go_ret3
  exact ⟨rfl, rfl⟩
set_option maxRecDepth 100000 in
set_option maxHeartbeats 1600000 in
theorem cut_hit (s : ByteArray) (k : Nat) (w : World) (h : 34 ∈ s.data.toList) (hk : (s.data.toList.takeWhile (· != 34)).length = k) (hs : s.size ≤ 600000) :
    Calls Tryz.prog 122 #[.string s, .string ⟨#[34]⟩] w fun e w' => e = .returned (.tuple #[.string (s.extract 0 k), .string (s.extract (k + 1) s.size), .bool true]) ∧ ∃ n, w' = w.drewN n := by
  have h1 := (idx_tw _).1 h
  rw [hk] at h1
  have HS := Lib.hid (lcut_hit s k w h1.1 (by have := h1.2; simpa using this) hs)
  clear h hk h1
  go_enter Tryz.func122, Tryz.ntmps122
  go_wp2_with (go_at_call 132; refine HS.out.mono ?_; rintro e w' ⟨rfl, n, rfl⟩)
  go_ret3
  exact ⟨rfl, _, rfl⟩
/-- What stands quoted behind a sign of equality. -/
def qF (l : List UInt8) : Option (List UInt8) := if Lib.hasPrefix l [61, 34] then (if 34 ∈ l.drop 2 then some ((l.drop 2).takeWhile (· != 34)) else none) else none
theorem qF_some {l v : List UInt8} (h : qF l = some v) : v.length + 3 ≤ l.length ∧ 34 ∈ l.drop 2 ∧ v = (l.drop 2).takeWhile (· != 34) ∧ Lib.hasPrefix l [61, 34] = true := by
  unfold qF at h
  split at h
  · rename_i hp
    split at h
    · rename_i hm
      injection h with h
      have h1 := ((idx_tw _).1 hm).2
      rw [h] at h1
      rw [List.length_drop] at h1
      exact ⟨by omega, hm, h.symm, hp⟩
    · cases h
  · cases h
/-- What 'quoted' tells. -/
def QuPost (g a n c : Nat) (l : List UInt8) (w : World) (e : Ending) (w' : World) : Prop :=
  (match qF l with
    | none => e = .returned (.tuple #[.string ⟨#[]⟩, .slice (some ⟨g, a, none⟩) n c, .bool false])
    | some v => e = .returned (.tuple #[.string (st (tellF (st v) 0)), .slice (some ⟨g, bof a n (v.length + 3), none⟩) (n - (v.length + 3)) (n - (v.length + 3)), .bool true])) ∧ Below w.heap.size w w'
set_option maxRecDepth 100000 in
set_option maxHeartbeats 1600000 in
theorem quoted_calls (g a n c : Nat) (l : List UInt8) (w : World) (hB : Bt w g a n c l) (hn : n ≤ 600000) :
    Calls Tryz.prog 107 #[.slice (some ⟨g, a, none⟩) n c] w (QuPost g a n c l w) := by
  have HB := Lib.hid hB
  have HLN := Lib.hid hB.len
  have HCP := Lib.hid hB.cap
  have hcv : (convert 72 9 (.slice (some ⟨g, a, none⟩) n c)).run Tryz.prog w = .ok (.string (st l)) w := by
    have h := conv_bt hB (c' := c) (Nat.le_refl n)
    rw [List.take_of_length_le (by rw [hB.len]; exact Nat.le_refl _)] at h
    exact h
  clear hB
  obtain ⟨b, hb⟩ : ∃ b, Lib.hasPrefix l [61, 34] = b := ⟨_, rfl⟩
  have HP := Lib.hid hb
  obtain ⟨r, hr⟩ : ∃ r, Lib.trimPrefix l [61, 34] = r := ⟨_, rfl⟩
  have HC := Lib.hid (show Calls Tryz.prog 121 #[.string (st l), .string ⟨#[61, 34]⟩] w fun e w' => e = .returned (.tuple #[.string (st r), .bool b]) ∧ w = w' from by
    have h := cutp_calls (st l) ⟨#[61, 34]⟩ w
    have e1 : (st l).data.toList = l := rfl
    have e2 : (⟨#[61, 34]⟩ : ByteArray).data.toList = [61, 34] := rfl
    rw [e1, e2, hb, hr] at h
    exact h)
  have HR := Lib.hid (show r.length ≤ n from by
    rw [← hr, ← HLN.out]
    unfold Lib.trimPrefix
    split
    · rw [List.length_drop]; omega
    · exact Nat.le_refl _)
  have HRD := Lib.hid (show b = true → r = l.drop 2 from fun h => by rw [← hr]; unfold Lib.trimPrefix; rw [hb, h]; rfl)
  clear hb hr
  have er : (st r).data.toList = r := rfl
  have es : (st r).size = r.length := by unfold st; simp [ByteArray.size]
  by_cases hm : 34 ∈ r
  · obtain ⟨k, hk⟩ : ∃ k, (r.takeWhile (· != 34)).length = k := ⟨_, rfl⟩
    have HK := Lib.hid hk
    have HKL := Lib.hid (show k < r.length from by have := ((idx_tw _).1 hm).2; omega)
    have HM := Lib.hid hm
    have HX := Lib.hid (show (st r).extract 0 k = st (r.takeWhile (· != 34)) from by
      apply ByteArray.ext
      apply Array.toList_inj.1
      rw [Lib.extract_data, er]
      show List.take (k - 0) (r.drop 0) = r.takeWhile (· != 34)
      rw [Nat.sub_zero, List.drop_zero, ← hk]
      exact (List.prefix_iff_eq_take.1 (List.takeWhile_prefix _)).symm)
    have HCU := Lib.hid (cut_hit (st r) k w hm hk (by rw [es]; have := HR.out; omega))
    clear hk hm er es
    cases b with
    | true =>
      have HQ := Lib.hid (show qF l = some (r.takeWhile (· != 34)) from by
        unfold qF
        rw [HP.out, ← HRD.out rfl, if_pos rfl, if_pos HM.out])
      obtain ⟨v, hv⟩ : ∃ v, v = r.takeWhile (· != 34) := ⟨_, rfl⟩
      rw [← hv] at HX HQ HK
      rw [HX.out] at HCU
      have HV := Lib.hid hv
      have HT := Lib.hid (show (st v).size = k from by rw [← HK.out]; unfold st; simp [ByteArray.size])
      have hlen : (st v).size = k := HT.out
      clear hv hlen
      have k1 : (k : Int) ≤ 600000 := by have := HKL.out; have := HR.out; omega
      have k0 : (0 : Int) ≤ (k : Int) := by omega
      have HQL := Lib.hid (qF_some HQ.out)
      have HVL := Lib.hid (show v.length = k from HK.out)
      have hk3 : k + 3 ≤ n := by have := HQL.out.1; have := HVL.out; have := HLN.out; omega
      have HTL := Lib.hid (show Lib.hasPrefix l [61, 34] = true from HP.out)
      rw [← HT.out] at k1 k0
      go_enter Tryz.func107, Tryz.ntmps107
      go_upto_region 6 with (first | (go_at_call 121; refine HC.out.mono ?_; rintro e w' ⟨rfl, rfl⟩) | (go_at_call 122; refine HCU.out.mono ?_; rintro e w' ⟨rfl, nd, rfl⟩))
      have hC0 : NmC w (w.drewN (nd + 1)) 0 (w.drewN nd).drew := rfl
      have ne : Nonempty (Mix.Wd (NmC w (w.drewN (nd + 1))) 0) := ⟨⟨(w.drewN nd).drew, 0, Nat.le_refl _, hC0⟩⟩
      have hsl : ∀ W : World, (Instr.slice 72 (.slice (some ⟨g, a, none⟩) n c) (some (.int .i64 (((st v).size : Int) + 3))) (some (.int .i64 (n : Int))) (some (.int .i64 (n : Int)))).run Tryz.prog W = .ok (.slice (some ⟨g, bof a n (k + 3), none⟩) (n - (k + 3)) (n - (k + 3))) W := fun W => by
        have h := slice_lhm W g a n c (k + 3) hk3 HCP.out
        rw [HT.out]
        exact h
      refine Mix.wp_region_mix (C := NmC w (w.drewN (nd + 1))) [1] (by kernel_rfl) (by kernel_rfl) hC0 ?_
      iterate 1 (refine Mix.mix_still (by decide) (fun K hK => ?_); go_simp; refine hK _ ?_; clear hK K)
      refine Mix.mix_turn (by decide) (fun K hK => ?_)
      go_simp
      refine ⟨_, fun y hy => (tell_calls (st v) y (by rw [HT.out]; have := HKL.out; have := HR.out; omega)).mono fun e w' h => ⟨h.1, by have hy' : y = w.drewN (nd + 1) := hy; rw [hy'] at h; exact (below_drewN (Below.refl w.heap.size w) (nd + 1)).trans h.2⟩, hK _ ?_⟩
      clear hK K
      iterate 10 (refine Mix.mix_still (by decide) (fun K hK => ?_); go_simp; refine hK _ ?_; clear hK K)
      refine Mix.mix_nil ?_
      intro w6 hw6
      have HW6 := Lib.hid (show Below w.heap.size w w6 from hw6)
      clear hw6 ne hC0 hsl
      show Exit.then _ _ _ _ w6
      go_wp2_with fail
      refine bodyPost_ret (v := .tuple #[.string ⟨(tellF (st v) 0).toArray⟩, .slice (some ⟨g, bof a n (k + 3), none⟩) (n - (k + 3)) (n - (k + 3)), .bool true]) (by simp [results, Tryz.results107, go_sem]) rfl ⟨by rw [HQ.out]; show _ = Ending.returned (.tuple #[.string (st (tellF (st v) 0)), .slice (some ⟨g, bof a n (v.length + 3), none⟩) (n - (v.length + 3)) (n - (v.length + 3)), .bool true]); rw [HVL.out]; rfl, HW6.out⟩
    | false =>
      have HQ := Lib.hid (show qF l = none from by unfold qF; rw [HP.out]; rfl)
      go_enter Tryz.func107, Tryz.ntmps107
      go_wp2_with (first | (go_at_call 121; refine HC.out.mono ?_; rintro e w' ⟨rfl, rfl⟩) | (go_at_call 122; refine HCU.out.mono ?_; rintro e w' ⟨rfl, nd, rfl⟩))
      refine bodyPost_ret (v := .tuple #[.string ⟨#[]⟩, .slice (some ⟨g, a, none⟩) n c, .bool false]) (by simp [results, Tryz.results107, go_sem]) rfl ⟨by rw [HQ.out], below_drewN (Below.refl _ _) _⟩
  · have HCU := Lib.hid (cut_miss (st r) w hm)
    have HQ := Lib.hid (show qF l = none from by
      unfold qF
      rw [HP.out]
      cases b with
      | false => rfl
      | true =>
        rw [← HRD.out rfl, if_neg hm]
        rfl)
    clear hm er es
    cases b with
    | true =>
      go_enter Tryz.func107, Tryz.ntmps107
      go_wp2_with (first | (go_at_call 121; refine HC.out.mono ?_; rintro e w' ⟨rfl, rfl⟩) | (go_at_call 122; refine HCU.out.mono ?_; rintro e w' ⟨rfl, rfl⟩))
      refine bodyPost_ret (v := .tuple #[.string ⟨#[]⟩, .slice (some ⟨g, a, none⟩) n c, .bool false]) (by simp [results, Tryz.results107, go_sem]) rfl ⟨by rw [HQ.out], Below.refl _ _⟩
    | false =>
      go_enter Tryz.func107, Tryz.ntmps107
      go_wp2_with (first | (go_at_call 121; refine HC.out.mono ?_; rintro e w' ⟨rfl, rfl⟩) | (go_at_call 122; refine HCU.out.mono ?_; rintro e w' ⟨rfl, rfl⟩))
      refine bodyPost_ret (v := .tuple #[.string ⟨#[]⟩, .slice (some ⟨g, a, none⟩) n c, .bool false]) (by simp [results, Tryz.results107, go_sem]) rfl ⟨by rw [HQ.out], Below.refl _ _⟩
end Go.Proofs.YtkjgnkmnngaioaaGreat.Q
namespace Go.Proofs.YtkjgnkmnngaioaaGreatW.PrintLast
section
variable {P : Program} {ops : Array Oper} {Q : Exit → Act → World → Prop} {md : Region.Mode} {S : World → Prop} {ds : List Nat}
/-- Operation d waits for operation i, by a chain of at most 'fuel' edges. -/
def Region.reachB (md : Region.Mode) (ops : Array Oper) (i : Nat) : Nat → Nat → Bool
  | 0, _ => false
  | fuel + 1, d => match ops[d]? with
    | some o => o.after.any fun e => Region.binds md e && (e.on == i || Region.reachB md ops i fuel e.on)
    | none => false
/-- What is listed is closed under the edges. -/
def Region.closedB (md : Region.Mode) (ops : Array Oper) (listed : Array Bool) : Bool :=
  (List.range ops.size).all fun j => !listed.getD j false || match ops[j]? with
    | some o => o.after.all fun e => !Region.binds md e || listed.getD e.on false
    | none => true
/-- Each of ds that has not come up yet waits for number i. -/
def Region.lastB (md : Region.Mode) (ops : Array Oper) (listed : Array Bool) (ds : List Nat) (i : Nat) : Bool :=
  ds.all fun d => listed.getD d true || Region.reachB md ops i ops.size d
def ListedClosed (md : Region.Mode) (ops : Array Oper) (listed : Array Bool) : Prop :=
  ∀ j oj, ops[j]? = some oj → listed.getD j false = true → ∀ e ∈ oj.after, Region.binds md e = true → listed.getD e.on false = true
/-- Whatever order is picked from here on, AND 'S' HOLDS BEHIND EVERY OPERATION THAT IS CARRIED OUT, those of ds apart. -/
def wpAnyLast (P : Program) (md : Region.Mode) (ops : Array Oper) (Q : Exit → Act → World → Prop) (S : World → Prop) (ds : List Nat) : Nat → Array Bool → Act → World → Prop
  | 0, listed, a, w => Region.ready md ops listed = [] ∧ Q .normal a w
  | fuel + 1, listed, a, w =>
    (Region.ready md ops listed = [] → Q .normal a w) ∧
    ∀ i ∈ Region.ready md ops listed, wpOp P ops Q i (fun a' w' => (i ∉ ds → S w → S w') ∧ wpAnyLast P md ops Q S ds fuel (listed.setIfInBounds i true) a' w') a w
end
section
variable {P : Program} {ops : Array Oper} {Q : Exit → Act → World → Prop} {md : Region.Mode} {S : World → Prop} {ds : List Nat}
def AllReadyL (P : Program) (md : Region.Mode) (ops : Array Oper) (Q : Exit → Act → World → Prop) (S : World → Prop) (ds : List Nat) (fuel : Nat) (listed : Array Bool) (a : Act) (w : World) (rs : List Nat) : Prop :=
  ∀ i ∈ rs, wpOp P ops Q i (fun a' w' => (i ∉ ds → S w → S w') ∧ wpAnyLast P md ops Q S ds fuel (listed.setIfInBounds i true) a' w') a w
def takeB (md : Region.Mode) (ops : Array Oper) (ds : List Nat) (l l' : Array Bool) (i : Nat) : Bool :=
  Region.noSelect ops && Region.free md ops l i && (Region.ready md ops l).contains i && Region.closedB md ops l && Region.lastB md ops l ds i && (l.setIfInBounds i true == l')
def anyB (md : Region.Mode) (ops : Array Oper) (l l' : Array Bool) (i : Nat) : Bool :=
  Region.noSelect ops && Region.free md ops l i && (Region.ready md ops l).contains i && (l.setIfInBounds i true == l')
def readyB (md : Region.Mode) (ops : Array Oper) (l l' : Array Bool) (i : Nat) : Bool := (Region.ready md ops l == [i]) && (l.setIfInBounds i true == l')
/-- The act with some destinations filled. -/
def putAll : Act → List (Tmp × Value) → Act
  | a, [] => a
  | a, (n, v) :: r => putAll (a.put (some n) v) r
theorem enters_ {f : FuncId} {fn : Func} (hf : P.funcs[f]? = some fn) (hname : (fn.name == "runtime.NumGoroutine") = false) (hb : fn.body.isSome = true) (args : Array Value) (w : World) : (callFunc f args).run P w = .ok (.enter f args) w := by
  have h1 : fn.name ≠ "runtime.NumGoroutine" := by simpa using hname
  obtain ⟨c, hc⟩ := Option.isSome_iff_exists.1 hb
  simp [callFunc, hf, h1, hc]
/-- A call in a plain region, as_ an arm of go_wp2_with ('hd' first: it fails at once at another operation). -/
theorem goesL_ {rest : List Oper} {oi : Oper} {a : Act} {w : World} (N : Option Tmp) (hd : oi.dst = N) (hg : oi.guard = none) {f : FuncId} {fn : Func} {as_ : Array Operand} {ts : Array TypeId} (hf : P.funcs[f]? = some fn) (hname : (fn.name == "runtime.NumGoroutine") = false) (hb : fn.body.isSome = true) (args : Array Value)
    (hop : oi.op = .call { callee := .value (.func f), args := as_, argTypes := ts }) (hargs : as_.map a.eval = args)
    (h : Calls P f args w fun e w' => ∃ v, e = .returned v ∧ wpList P ops Q rest (a.put N v) w') : wpList P ops Q (oi :: rest) a w := by
  refine wpList_plain hg fun K hK => ?_
  have he := enters_ hf hname hb args w
  have hrun : (execOp a.eval oi).run P w = .ok (.enter f args) w := by
    unfold execOp
    simp [hop, resolve, Deferred.ofValue, invoke, Act.eval, hargs, he]
  unfold Oper.wp
  rw [hrun, Oper.upon_enter]
  refine h.mono fun e w'' hh => ?_
  obtain ⟨v, rfl, hk⟩ := hh
  subst hd
  exact hK _ _ hk
theorem i64_w (n : Int) : IntKind.i64.wrap n = Go.RowKit.wrap64 n := by unfold Go.RowKit.wrap64; exact IntKind.wrap_i64 n
theorem i32_w (n : Int) : IntKind.i32.wrap n = Go.RowKit.wrap32 n := by unfold Go.RowKit.wrap32; exact IntKind.wrap_i32 n
end
end Go.Proofs.YtkjgnkmnngaioaaGreatW.PrintLast
namespace Go.Proofs.YtkjgnkmnngaioaaGreatW.PrintLast
open Go.Proofs.YtkjgnkmnngaioaaGreatW.PrintWords (Aside0)
def needsOf (md : Region.Mode) (o : Oper) : List Nat := (o.after.toList.filter (fun e => Region.binds md e)).map (fun e => e.on)
def clashOf (md : Region.Mode) (ops : Array Oper) (i : Nat) (oi : Oper) : List Nat := (List.range ops.size).filter fun j => !(j == i) && match ops[j]? with
  | some oj => !(oj.after.any (fun e => Region.binds md e && e.on == i) || oi.apart ops oj)
  | none => false
/-- No select in it; for each operation: what must have come up before it, and what may not come up behind it if it is taken first. -/
def rtab (md : Region.Mode) (ops : Array Oper) : Bool × List (List Nat × List Nat) := (Region.noSelect ops, (List.range ops.size).map fun i => match ops[i]? with
  | some o => (needsOf md o, clashOf md ops i o)
  | none => ([], []))
def readyAt (T : List (List Nat × List Nat)) (l : List Bool) (i : Nat) : Bool := !l.getD i true && match T[i]? with
  | some r => r.1.all (fun j => l.getD j false)
  | none => false
def readyT (T : List (List Nat × List Nat)) (l : List Bool) : List Nat := (List.range T.length).filter (readyAt T l)
def freeT (T : List (List Nat × List Nat)) (l : List Bool) (i : Nat) : Bool := match T[i]? with
  | some r => r.2.all (fun j => l.getD j true)
  | none => false
def closedT (T : List (List Nat × List Nat)) (l : List Bool) : Bool := (List.range T.length).all fun j => !l.getD j false || match T[j]? with
  | some r => r.1.all (fun k => l.getD k false)
  | none => true
def reachT (T : List (List Nat × List Nat)) (i : Nat) : Nat → Nat → Bool
  | 0, _ => false
  | fuel + 1, d => match T[d]? with
    | some r => r.1.any fun j => j == i || reachT T i fuel j
    | none => false
def lastT (T : List (List Nat × List Nat)) (l : List Bool) (ds : List Nat) (i : Nat) : Bool := ds.all fun d => l.getD d true || reachT T i T.length d
section
variable {md : Region.Mode} {ops : Array Oper} {T : Bool × List (List Nat × List Nat)} {l l' li lj lk : Array Bool} {ds : List Nat} {i j k : Nat}
def anyT (T : Bool × List (List Nat × List Nat)) (l l' : List Bool) (i : Nat) : Bool := T.1 && freeT T.2 l i && readyAt T.2 l i && (l.set i true == l')
def takeT (T : Bool × List (List Nat × List Nat)) (ds : List Nat) (l l' : List Bool) (i : Nat) : Bool := T.1 && freeT T.2 l i && readyAt T.2 l i && closedT T.2 l && lastT T.2 l ds i && (l.set i true == l')
/-- What d waits for, as_ bits: told in the table (B), checked in one pass: each bit is a need of d, or a bit of an earlier need's. -/
def upM (B : List Nat) (d : Nat) : List Nat → Nat
  | [] => 0
  | n :: r => (2 ^ n ||| (if n < d then B.getD n 0 else 0)) ||| upM B d r
def waitsOk (T : List (List Nat × List Nat)) (B : List Nat) : Bool := (List.range T.length).all fun d => match T[d]? with
  | some r => (B.getD d 0 ||| upM B d r.1) == upM B d r.1
  | none => false
def lastW (T : List (List Nat × List Nat)) (B : List Nat) (l : List Bool) (ds : List Nat) (i : Nat) : Bool := ds.all fun d => l.getD d true || (decide (d < T.length) && (B.getD d 0).testBit i)
def takeW (T : Bool × List (List Nat × List Nat)) (B : List Nat) (ds : List Nat) (l l' : List Bool) (i : Nat) : Bool := T.1 && freeT T.2 l i && readyAt T.2 l i && closedT T.2 l && lastW T.2 B l ds i && (l.set i true == l')
end
/-- The operations of a region, by its number. -/
def opsIn : Code → Nat → Option (Array Oper)
  | .region id ops _, k => if id == k then some ops else none
  | .seq a b, k => match opsIn a k with
    | some o => some o
    | none => opsIn b k
  | .cond _ a b, k => match opsIn a k with
    | some o => some o
    | none => opsIn b k
  | .block _ c, k => opsIn c k
  | .loop c, k => opsIn c k
  | .scope c, k => opsIn c k
  | .rangeFunc _ _ a b, k => match opsIn a k with
    | some o => some o
    | none => opsIn b k
  | _, _ => none
def opsOf (f : Func) (k : Nat) : Array Oper := ((f.body.bind fun c => opsIn c k)).getD #[]
end Go.Proofs.YtkjgnkmnngaioaaGreatW.PrintLast
namespace Go.Proofs.YtkjgnkmnngaioaaGreatW.PrintWords
open Go.RowKit
namespace Kd
/-- An element with its index: its blocks are those that f gives to it. -/
def tag {α : Type} (f : Nat → Nat) (d : Kd α) : Kd (α × Nat) where
  sz := d.sz
  E := d.E
  K := fun w x cs => d.K w x.1 cs
  M := fun w base ok x cs => d.M w base (fun k => ok k ∧ f k = x.2) x.1 cs
  K_len := fun h => d.K_len h
  K_one := fun h => d.K_one h
  K_below := fun hb h => d.K_below hb h
  K_of_M := fun h => d.K_of_M h
  M_mono := fun hok h => d.M_mono (fun k hk => ⟨hok k hk.1, hk.2⟩) h
  M_bound := fun h => d.M_mono (fun _ hk => ⟨⟨hk.1.1, hk.2⟩, hk.1.2⟩) (d.M_bound h)
  M_move := fun hm h => d.M_move (fun k hk => hm k hk.1) h
  M_lower := fun hb h => d.M_lower hb h
/-- Nothing but its cells: no block is said of it. -/
def bare {α : Type} (d : Kd α) : Kd α where
  sz := d.sz
  E := d.E
  K := d.K
  M := fun w base _ x cs => d.M w base (fun _ => False) x cs
  K_len := fun h => d.K_len h
  K_one := fun h => d.K_one h
  K_below := fun hb h => d.K_below hb h
  K_of_M := fun h => d.K_of_M h
  M_mono := fun _ h => h
  M_bound := fun h => h
  M_move := fun _ h => d.M_move (fun _ hk => hk.elim) h
  M_lower := fun hb h => d.M_lower hb h
/-- The cells themselves. -/
def raw (sz : Nat) : Kd (List Value) where
  sz := sz
  E := []
  K := fun _ x cs => cs = x ∧ cs.length = sz ∧ ∀ u ∈ cs, u.oneCell' = true
  M := fun _ _ _ x cs => cs = x ∧ cs.length = sz ∧ ∀ u ∈ cs, u.oneCell' = true
  K_len := fun h => h.2.1
  K_one := fun h => h.2.2
  K_below := fun _ h => h
  K_of_M := fun h => h
  M_mono := fun _ h => h
  M_bound := fun h => h
  M_move := fun _ h => h
  M_lower := fun _ h => h
/-- A row of elements (type e) of the call's own, no two of which lead to one block. -/
def S {α : Type} (d : Kd α) (e : Nat) (w : World) (base : Nat) (ok : Nat → Prop) (v : Value) (xs : List α) : Prop := ∃ f, (tag f d).R e w base ok v xs.zipIdx
section
variable {α β : Type} {d : Kd α} {d' : Kd β} {e e' : Nat} {w w1 W : World} {base b : Nat} {ok ok' okv oku : Nat → Prop} {u v : Value} {xs : List α} {ys : List β}
theorem zip_at {xs : List α} {j : Nat} {p : α} (h : xs[j]? = some p) : xs.zipIdx[j]? = some (p, j) := by rw [List.getElem?_zipIdx, h, Nat.zero_add]; rfl
theorem S_R (h : S d e w base ok v xs) : d.R e w base ok v xs := by
  obtain ⟨f, h0, inner, ho, hr⟩ := h
  rw [List.length_zipIdx] at ho
  exact ⟨h0, inner, ho, by have := hr.1; rw [List.length_zipIdx] at this; exact this, fun j p hj => d.M_mono (fun _ hk => hk.1) (hr.2 j (p, j) (zip_at hj))⟩
/-- Where a row begins (any row of one's own begins at its block's head). -/
theorem R_head {ad : Addr} {n cap : Nat} (h : d.R e w base ok (.slice (some ad) n cap) xs) : ∃ g, ad = ⟨g, 0, none⟩ := by
  obtain ⟨_, inner, ho, hr⟩ := h
  rcases ho.2 with ⟨hv, _⟩ | ⟨g, cap', cur, hv, _⟩
  · cases hv
  · injection hv with ha _ _
    injection ha with ha
    exact ⟨g, ha⟩
/-- A slice's value is one cell. -/
theorem R_val (h : d.R e w base ok v xs) : v.cells.toList = [v] ∧ v.oneCell' = true := by
  obtain ⟨A, c, rfl⟩ := R_slice h
  exact ⟨rfl, rfl⟩
/-- A row whose elements lead to nothing: its blocks are its own one. -/
theorem R_tight (hE : d.E = []) (h : d.R e w base ok v xs) : d.R e w base (fun k => some k = v.ownBlock) v xs := by
  obtain ⟨h0, inner, ho, hr⟩ := h
  refine ⟨fun k hk => hk.symm, inner, ho, hr.imp_ (fun p c hp => d.M_mono (fun k hk => ?_) (d.M_bound hp))⟩
  obtain ⟨_, _, _, q, hq, _⟩ := hk
  rw [hE] at hq
  cases hq
theorem S_nil (d : Kd α) (e : Nat) (w : World) (base : Nat) (ok : Nat → Prop) : S d e w base ok (.slice none 0 0) [] := ⟨fun _ => 0, R_nil _ _ _ _ _⟩
theorem S_mono (h : S d e w base ok v xs) (hok : ∀ k, ok k → ok' k) : S d e w base ok' v xs := by
  obtain ⟨f, h⟩ := h
  exact ⟨f, R_mono h hok⟩
theorem S_bound (h : S d e w base ok v xs) : S d e w base (fun k => ok k ∧ base ≤ k ∧ k < w.heap.size ∧ ∃ q, q ∈ e :: d.E ∧ ∃ cells, w.heap[k]? = some (.cells cells q (0, 0))) v xs := by
  obtain ⟨f, h⟩ := h
  exact ⟨f, R_bound h⟩
theorem S_move (h : S d e w base ok v xs) (hm : ∀ k, ok k → w1.heap[k]? = w.heap[k]?) : S d e w1 base ok v xs := by
  obtain ⟨f, h⟩ := h
  exact ⟨f, R_move h hm⟩
theorem S_lower {base' : Nat} (h : S d e w base ok v xs) (hb : base' ≤ base) : S d e w base' ok v xs := by
  obtain ⟨f, h⟩ := h
  exact ⟨f, R_lower h hb⟩
theorem S_step (h : S d e w base ok v xs) (hm : ∀ k, ok k → k < w.heap.size → w1.heap[k]? = w.heap[k]?) : S d e w1 base ok v xs :=
  S_mono (S_move (S_bound h) (fun k hk => hm k hk.1 hk.2.2.1)) (fun _ hk => hk.1)
theorem S_below (h : S d e w base ok v xs) (hb : Below w.heap.size w w1) : S d e w1 base ok v xs := S_step h (fun k _ hk => hb.block k hk)
theorem S_alloc (h : S d e w base ok v xs) (o : Obj) : S d e (w.alloc o) base ok v xs := S_below h (below_alloc (Below.refl _ _) o)
theorem S_drew (h : S d e w base ok v xs) : S d e w.drew base ok v xs := S_below h (below_drew (Below.refl _ _))
theorem S_far (h : S d e w base ok v xs) {p : Addr} (hok : ∀ k, ok k → k ≠ p.block) (u : Value) : S d e (w.setCell p u) base ok v xs := S_step h (fun k ho _ => Below.heap_setCell w p u k (hok k ho))
theorem S_types (h : S d e w base ok v xs) {g t : Nat} {cells : Array Value} (hb : w.heap[g]? = some (.cells cells t (0, 0))) (ht : ∀ q, q ∈ e :: d.E → q ≠ t) : S d e w base (fun k => ok k ∧ k ≠ g) v xs := by
  obtain ⟨f, h⟩ := h
  exact ⟨f, R_types h hb ht⟩
theorem S_set (h : S d e w base ok v xs) {g t : Nat} {cells : Array Value} (hb : w.heap[g]? = some (.cells cells t (0, 0))) (ht : ∀ q, q ∈ e :: d.E → q ≠ t) (j : Nat) (u : Value) : S d e (w.setCell ⟨g, j, none⟩ u) base ok v xs :=
  S_mono (S_far (p := ⟨g, j, none⟩) (S_types h hb ht) (fun _ hk => hk.2) u) (fun _ hk => hk.1)
theorem S_typed (h : S d e w base ok v xs) : ∀ k, v.ownBlock = some k → ∃ cells, w.heap[k]? = some (.cells cells e (0, 0)) := R_typed (S_R h)
theorem S_lt (h : S d e w base ok v xs) : ∀ k, v.ownBlock = some k → k < w.heap.size := R_lt (S_R h)
theorem S_base (h : S d e w base ok v xs) : ∀ k, v.ownBlock = some k → base ≤ k := R_base (S_R h)
theorem S_over' (h : S d e W base ok u xs) (hty : ∀ k, v.ownBlock = some k → ∃ cells, W.heap[k]? = some (.cells cells e' (0, 0))) (ht : ∀ q, q ∈ e :: d.E → q ≠ e') (hg : W.grownBy w1 v.ownBlock) : S d e w1 base ok u xs := by
  obtain ⟨f, h⟩ := h
  exact ⟨f, R_over' h hty ht hg⟩
/-- An elder row over events that only make: its blocks are elder than what was made. -/
theorem S_old (h : S d e W base ok u xs) (hb : Below W.heap.size W w1) : S d e w1 base (fun k => ok k ∧ k < W.heap.size) u xs :=
  S_mono (S_below (S_bound h) hb) (fun _ hk => ⟨hk.1, hk.2.2.1⟩)
/-- Elements that lead to nothing. -/
theorem S_bare (h : (bare d).R e w base ok v xs) : S d e w base ok v xs := by
  obtain ⟨h0, inner, ho, hr⟩ := h
  refine ⟨fun _ => 0, h0, inner, by rw [List.length_zipIdx]; exact ho, by rw [List.length_zipIdx]; exact hr.1, fun j p hj => ?_⟩
  rw [List.getElem?_zipIdx, Nat.zero_add] at hj
  obtain ⟨x, hx, rfl⟩ := Option.map_eq_some_iff.1 hj
  exact d.M_mono (fun _ hk => hk.elim) (hr.2 j x hx)
/-- The owner may be told anew where nothing is said. -/
theorem R_tag {f f' : Nat → Nat} {zs : List (α × Nat)} (h : (tag f d).R e w base ok v zs) (hf : ∀ k, ok k → k < w.heap.size → f' k = f k) : (tag f' d).R e w base ok v zs := by
  obtain ⟨h0, inner, ho, hr⟩ := R_bound h
  exact ⟨fun k hk => (h0 k hk).1, inner, ho, hr.1, fun j p hj => d.M_mono (fun k hk => ⟨⟨hk.1.1.1, hk.1.2⟩, (hf k hk.1.1.1 hk.1.1.2.2.1).trans hk.2⟩) (hr.2 j p hj)⟩
end
section
variable {α β : Type} {d : Kd α} {d' : Kd β} {e e' g : Nat} {w w1 W : World} {base b : Nat} {ok ok' okv oku : Nat → Prop} {u v : Value} {xs : List α} {ys : List β}
theorem S_ne (h : S d e w base ok v xs) {t : Nat} {cells : Array Value} (hb : w.heap[g]? = some (.cells cells t (0, 0))) (ht : e ≠ t) : some g ≠ v.ownBlock := R_ne (S_R h) hb ht
theorem S_away (h : S d e w base ok v xs) (hok : ∀ k, ok k → k ≠ g) : some g ≠ v.ownBlock := R_away (S_R h) hok
theorem S_form (h : S d e w base ok v xs) (hp : 0 < xs.length) : ∃ g cap, v = .slice (some ⟨g, 0, none⟩) xs.length cap ∧ base ≤ g ∧ g < w.heap.size ∧ ∃ cells, w.heap[g]? = some (.cells cells e (0, 0)) := R_form (S_R h) hp
theorem S_slice (h : S d e w base ok v xs) : ∃ A c, v = .slice A xs.length c := R_slice (S_R h)
theorem S_reads (h : S d e w base ok v xs) : ∃ A c, v = .slice A xs.length c ∧ xs.length ≤ c ∧ d.C w A xs.length xs := R_reads (S_R h)
theorem S_reads' {A : Option Addr} {n c : Nat} (h : S d e w base ok (.slice A n c) xs) : n = xs.length ∧ n ≤ c ∧ d.C w A xs.length xs := R_reads' (S_R h)
theorem S_own (h : S d e w base ok v xs) : ∃ inner, w.ownsRow base e d.sz v xs.length inner := R_own (S_R h)
theorem zip_snoc (xs : List α) (p : α) : (xs ++ [p]).zipIdx = xs.zipIdx ++ [(p, xs.length)] := by rw [List.zipIdx_append]; simp
end
section
open Classical in
/-- The next element's blocks are okp: none is one of v's (okv). -/
theorem S_tag {α : Type} {d : Kd α} {e base : Nat} {okv : Nat → Prop} {w : World} {v : Value} {xs : List α} (h : S d e w base okv v xs) (m : Nat) (okp : Nat → Prop) (hap : ∀ k, okp k → ¬ okv k) : ∃ f, (∀ k, okp k → f k = m) ∧ (tag f d).R e w base okv v xs.zipIdx := by
  obtain ⟨f, h⟩ := h
  exact ⟨fun k => if okp k then m else f k, fun k hk => if_pos hk, R_tag h (fun k hk _ => if_neg (fun h2 => hap k h2 hk))⟩
variable {P : Program} {ops : Array Oper} {rest : List Oper} {o : Oper} {a : Act} {Q : Exit → Act → World → Prop} {Kc : Act → World → Prop} {α : Type}
/-- append(v, x), behind 'at_builtin': x's blocks are okp, none of them v's. -/
theorem S_append (d : Kd α) {w0 W : World} (base : Nat) (hgd : o.guard = none) (s x : Operand) (t e : TypeId) (z : Value) (bytes : Nat)
    (ho : o.op = .call { callee := .builtin .append, args := #[s, x], argTypes := #[t, t] })
    (ht : P.underlying t = some (.slice e)) (hinfo : (P.info? e).map (fun i => (i.zero, i.size, i.bytes)) = some (some z, d.sz, bytes)) (hz : z.cells.size = d.sz) (hs0 : 0 < d.sz) (hb0 : 0 < bytes)
    (v : Value) (xs : List α) (p : α) (cs : List Value) (ok okp : Nat → Prop) (hs : a.eval s = v) (hx : a.eval x = .slice (some ⟨W.heap.size, 0, none⟩) 1 1) (hp : d.M W base okp p cs) (hokp : ∀ k, okp k → ok k ∧ some k ≠ v.ownBlock) (hfresh : ∀ k, W.heap.size ≤ k → ok k)
    (HO : S d e W base (fun k => ok k ∧ ¬ okp k) v xs) (HB : Below base w0 W) (hbase : base ≤ W.heap.size) (hl : (xs.length + 1) * bytes ≤ 140737488355328)
    (h : ∀ v1 w1, S d e w1 base ok v1 (xs ++ [p]) → Below base w0 w1 → W.grownBy w1 v.ownBlock → (v1.ownBlock = v.ownBlock ∨ ∃ b, v1.ownBlock = some b ∧ W.heap.size ≤ b) → wpList P ops Q rest (a.put o.dst v1) w1) :
    wpList P ops Q (o :: rest) a (W.alloc (.cells cs.toArray e)) := by
  obtain ⟨f, hf, hR⟩ := S_tag HO xs.length okp (fun _ hk h2 => h2.2 hk)
  refine R_append (tag f d) base hgd s x t e z bytes ho ht hinfo hz hs0 hb0 v xs.zipIdx (p, xs.length) cs ok okp hs hx (d.M_mono (fun k hk => ⟨hk, hf k hk⟩) hp) hokp hfresh (R_mono hR (fun _ hk => hk.1)) HB hbase (by rw [List.length_zipIdx]; exact hl) ?_
  intro v1 w1 hr
  rw [← zip_snoc] at hr
  exact h v1 w1 ⟨f, hr⟩
theorem S_append_step (d : Kd α) {w0 W : World} (base : Nat) (hw : Region.wanted o (yielded ops a.tmps) = true) (s x : Operand) (t e : TypeId) (z : Value) (bytes : Nat)
    (ho : o.op = .call { callee := .builtin .append, args := #[s, x], argTypes := #[t, t] })
    (ht : P.underlying t = some (.slice e)) (hinfo : (P.info? e).map (fun i => (i.zero, i.size, i.bytes)) = some (some z, d.sz, bytes)) (hz : z.cells.size = d.sz) (hs0 : 0 < d.sz) (hb0 : 0 < bytes)
    (v : Value) (xs : List α) (p : α) (cs : List Value) (ok okp : Nat → Prop) (hs : a.eval s = v) (hx : a.eval x = .slice (some ⟨W.heap.size, 0, none⟩) 1 1) (hp : d.M W base okp p cs) (hokp : ∀ k, okp k → ok k ∧ some k ≠ v.ownBlock) (hfresh : ∀ k, W.heap.size ≤ k → ok k)
    (HO : S d e W base (fun k => ok k ∧ ¬ okp k) v xs) (HB : Below base w0 W) (hbase : base ≤ W.heap.size) (hl : (xs.length + 1) * bytes ≤ 140737488355328)
    (h : ∀ v1 w1, S d e w1 base ok v1 (xs ++ [p]) → Below base w0 w1 → W.grownBy w1 v.ownBlock → (v1.ownBlock = v.ownBlock ∨ ∃ b, v1.ownBlock = some b ∧ W.heap.size ≤ b) → Kc (a.put o.dst v1) w1) :
    if Region.wanted o (yielded ops a.tmps) = true then Oper.wp P o a (W.alloc (.cells cs.toArray e)) Kc Q else Kc (a.put o.dst undef) (W.alloc (.cells cs.toArray e)) := by
  obtain ⟨f, hf, hR⟩ := S_tag HO xs.length okp (fun _ hk h2 => h2.2 hk)
  refine R_append_step (tag f d) base hw s x t e z bytes ho ht hinfo hz hs0 hb0 v xs.zipIdx (p, xs.length) cs ok okp hs hx (d.M_mono (fun k hk => ⟨hk, hf k hk⟩) hp) hokp hfresh (R_mono hR (fun _ hk => hk.1)) HB hbase (by rw [List.length_zipIdx]; exact hl) ?_
  intro v1 w1 hr
  rw [← zip_snoc] at hr
  exact h v1 w1 ⟨f, hr⟩
/-- A literal whose elements lead to nothing. -/
theorem S_lit (d : Kd α) {w0 W : World} (base e : Nat) (hgd : o.guard = none) {N : Tmp} (_hd : o.dst = some N) {xs : List α} {inner : List Value} {ok okp : Nat → Prop}
    (hrun : (execOp a.eval o).run P W = .ok (.value (.slice (some ⟨W.heap.size, 0, none⟩) xs.length xs.length)) (W.alloc (.cells inner.toArray e)))
    (hrep : Reps (d.M W base (fun _ => False)) d.sz xs inner) (_hok : ∀ k, okp k → ok k) (hfresh : ok W.heap.size) (HB : Below base w0 W) (hbase : base ≤ W.heap.size) (hm : xs.length ≤ 9223372036854775807)
    (h : ∀ v1 w1, S d e w1 base ok v1 xs → Below base w0 w1 → W.grownBy w1 none → (∃ b, v1.ownBlock = some b ∧ W.heap.size ≤ b) → wpList P ops Q rest (a.put o.dst v1) w1) : wpList P ops Q (o :: rest) a W :=
  R_lit (bare d) base e hgd _hd (ok := ok) (okp := ok) hrun hrep (fun _ hk => hk) hfresh HB hbase hm (fun v1 w1 hr => h v1 w1 (S_bare hr))
end
/-- Element i is these cells; the others are d's. -/
def gap {α : Type} (f : Nat → Nat) (d : Kd α) (i : Nat) (c : List Value) : Kd (α × Nat) where
  sz := d.sz
  E := d.E
  K := fun w x cs => (x.2 = i → cs = c ∧ cs.length = d.sz ∧ ∀ u ∈ cs, u.oneCell' = true) ∧ (x.2 ≠ i → d.K w x.1 cs)
  M := fun w base ok x cs => (x.2 = i → cs = c ∧ cs.length = d.sz ∧ ∀ u ∈ cs, u.oneCell' = true) ∧ (x.2 ≠ i → d.M w base (fun k => ok k ∧ f k = x.2) x.1 cs)
  K_len := fun {w x cs} h => by
    by_cases hx : x.2 = i
    · exact (h.1 hx).2.1
    · exact d.K_len (h.2 hx)
  K_one := fun {w x cs} h => by
    by_cases hx : x.2 = i
    · exact (h.1 hx).2.2
    · exact d.K_one (h.2 hx)
  K_below := fun hb h => ⟨h.1, fun hx => d.K_below hb (h.2 hx)⟩
  K_of_M := fun h => ⟨h.1, fun hx => d.K_of_M (h.2 hx)⟩
  M_mono := fun hok h => ⟨h.1, fun hx => d.M_mono (fun k hk => ⟨hok k hk.1, hk.2⟩) (h.2 hx)⟩
  M_bound := fun h => ⟨h.1, fun hx => d.M_mono (fun _ hk => ⟨⟨hk.1.1, hk.2⟩, hk.1.2⟩) (d.M_bound (h.2 hx))⟩
  M_move := fun hm h => ⟨h.1, fun hx => d.M_move (fun k hk => hm k hk.1) (h.2 hx)⟩
  M_lower := fun hb h => ⟨h.1, fun hx => d.M_lower hb (h.2 hx)⟩
def H {α : Type} (d : Kd α) (e : Nat) (w : World) (base : Nat) (ok : Nat → Prop) (v : Value) (xs : List α) (i : Int) (oki : Nat → Prop) (c : List Value) : Prop :=
  (∀ k, oki k → ok k) ∧ ∃ f, (gap f d i.toNat c).R e w base (fun k => ok k ∧ ¬ oki k) v xs.zipIdx
section
variable {α β : Type} {d : Kd α} {e e' g n cap : Nat} {w w1 W : World} {base : Nat} {ok ok' oki okp : Nat → Prop} {u v : Value} {xs : List α} {i : Int} {c : List Value}
/-- Element i, lent: its cells, its blocks, and the row without it. -/
theorem S_lend (h : S d e W base ok (.slice (some ⟨g, 0, none⟩) n cap) xs) (z : α) (i : Int) (h0 : 0 ≤ i) (h1 : i < n) :
    ∃ (oki : Nat → Prop) (c : List Value), c.length = d.sz ∧ d.M W base oki (xs.getD i.toNat z) c ∧ (∀ j u, c[j]? = some u → W.cell? ⟨g, i.toNat * d.sz + j, none⟩ = some u) ∧ (∀ k, oki k → ok k ∧ k ≠ g) ∧ H d e W base ok (.slice (some ⟨g, 0, none⟩) n cap) xs i oki c := by
  obtain ⟨f, hR⟩ := h
  have hn := (R_reads' hR).1
  rw [List.length_zipIdx] at hn
  have hgo : some g = (Value.slice (some ⟨g, 0, none⟩) n cap).ownBlock := by simp [Value.ownBlock]
  obtain ⟨hok0, inner, ho, hr⟩ := hR
  have hil : i.toNat < xs.length := by omega
  have hlen : inner.length = xs.length * d.sz := by have := hr.1; rw [List.length_zipIdx] at this; exact this
  have hseg : i.toNat * d.sz + d.sz ≤ inner.length := by rw [hlen, ← Nat.succ_mul]; exact Nat.mul_le_mul_right _ hil
  have hM := hr.2 i.toNat _ (zip_at (List.getElem?_eq_getElem hil))
  have hkg : ∀ k, some k ≠ (Value.slice (some ⟨g, 0, none⟩) n cap).ownBlock → k ≠ g := fun k hk he => hk (by rw [he]; exact hgo)
  refine ⟨fun k => (ok k ∧ k ≠ g) ∧ f k = i.toNat, (inner.drop (i.toNat * d.sz)).take d.sz, by rw [List.length_take, List.length_drop]; omega, ?_, fun j u hu => ?_, fun k hk => hk.1, fun k hk => hk.1.1, f, fun k hk => ⟨hok0 k hk, fun h2 => h2.1.2 ?_⟩, inner, ho, hr.1, fun m p hm => ?_⟩
  · rw [List.getD_eq_getElem?_getD, List.getElem?_eq_getElem hil]
    exact d.M_mono (fun k hk => ⟨⟨hk.1.1, hkg k hk.1.2⟩, hk.2⟩) hM
  · rw [List.getElem?_take] at hu
    split at hu
    · rw [List.getElem?_drop] at hu
      have := ho.cells (g := g) hgo.symm _ u hu
      rwa [add_plain] at this
    · cases hu
  · rw [← hgo] at hk; injection hk with hk; exact hk.symm
  · have hold := hr.2 m p hm
    have hp2 : p.2 = m := by
      rw [List.getElem?_zipIdx, Nat.zero_add] at hm
      obtain ⟨q, _, rfl⟩ := Option.map_eq_some_iff.1 hm
      rfl
    refine ⟨fun hx => ?_, fun hx => d.M_mono (fun k hk => ⟨⟨⟨hk.1.1, fun h2 => hx ?_⟩, hk.1.2⟩, hk.2⟩) hold⟩
    · have hmi : m = i.toNat := by omega
      subst hmi
      exact ⟨rfl, d.K_len (d.K_of_M hM), d.K_one (d.K_of_M hM)⟩
    · rw [← hk.2]; exact h2.2
open Classical in
/-- The element put back: its blocks are among those that were lent. -/
theorem H_back (h : H d e w base ok v xs i oki c) {x' : α} (hM : d.M w base okp x' c) (hok : ∀ k, okp k → oki k) : S d e w base ok v (xs.set i.toNat x') := by
  obtain ⟨ho, f, h0, inner, hown, hr⟩ := h
  refine ⟨fun k => if oki k then i.toNat else f k, fun k hk => (h0 k hk).1, inner, by rw [List.length_zipIdx, List.length_set]; rw [List.length_zipIdx] at hown; exact hown, by have := hr.1; rw [List.length_zipIdx] at this; rw [List.length_zipIdx, List.length_set]; exact this, fun m p hm => ?_⟩
  rw [List.getElem?_zipIdx, Nat.zero_add] at hm
  obtain ⟨q, hq, rfl⟩ := Option.map_eq_some_iff.1 hm
  have hml : m < xs.length := by
    have := (List.getElem?_eq_some_iff.1 hq).1
    rwa [List.length_set] at this
  by_cases hmi : m = i.toNat
  · subst hmi
    rw [List.getElem?_set_self hml] at hq
    injection hq with hq
    subst hq
    have hc := ((hr.2 i.toNat _ (zip_at (List.getElem?_eq_getElem hml))).1 rfl).1
    show d.M w base _ x' ((inner.drop (i.toNat * d.sz)).take d.sz)
    rw [show (inner.drop (i.toNat * d.sz)).take d.sz = c from hc]
    exact d.M_mono (fun k hk => ⟨⟨ho k (hok k hk), fun he => (h0 k he.symm).2 (hok k hk)⟩, if_pos (hok k hk)⟩) hM
  · rw [List.getElem?_set_ne (Ne.symm hmi)] at hq
    exact d.M_mono (fun k hk => ⟨⟨hk.1.1.1, hk.1.2⟩, (if_neg hk.1.1.2).trans hk.2⟩) ((hr.2 m (q, m) (zip_at hq)).2 hmi)
/-- What is lent may take in what is new. -/
theorem H_widen (h : H d e w base ok v xs i oki c) : H d e w base ok v xs i (fun k => oki k ∨ ok k ∧ w.heap.size ≤ k) c := by
  obtain ⟨ho, f, h⟩ := h
  exact ⟨fun k hk => hk.elim (ho k) (fun h2 => h2.1), f, R_mono (R_bound h) (fun k hk => ⟨hk.1.1, fun h2 => h2.elim hk.1.2 (fun h3 => by have := hk.2.2.1; omega)⟩)⟩
theorem H_step (h : H d e w base ok v xs i oki c) (hm : ∀ k, ok k → ¬ oki k → k < w.heap.size → w1.heap[k]? = w.heap[k]?) : H d e w1 base ok v xs i oki c := by
  obtain ⟨ho, f, h⟩ := h
  exact ⟨ho, f, R_step h (fun k hk hlt => hm k hk.1 hk.2 hlt)⟩
/-- A row that was lent has been written (appended to, stored into). -/
theorem H_grown (h : H d e w base ok v xs i oki c) {row : Option Nat} (hg : w.grownBy w1 row) (hrow : ∀ k, row = some k → oki k) : H d e w1 base ok v xs i oki c :=
  H_step h (fun k _ hn hlt => hg.block k hlt (fun he => hn (hrow k he.symm)))
theorem H_below (h : H d e w base ok v xs i oki c) (hb : Below w.heap.size w w1) : H d e w1 base ok v xs i oki c := H_step h (fun k _ _ hlt => hb.block k hlt)
/-- Element i, its blocks (oki) first; hH: the row without it, for S_seg. -/
theorem S_elem (h : S d e W base ok (.slice (some ⟨g, 0, none⟩) n cap) xs) (z : α) (i : Int) (h0 : 0 ≤ i) (h1 : i < n) :
    ∃ (oki : Nat → Prop) (c : List Value), c.length = d.sz ∧ d.M W base oki (xs.getD i.toNat z) c ∧ (∀ j u, c[j]? = some u → W.cell? ⟨g, i.toNat * d.sz + j, none⟩ = some u) ∧ (∀ j, W.frozen? ⟨g, i.toNat * d.sz + j, none⟩ = false) ∧ (∀ k, oki k → ok k ∧ k ≠ g) ∧ H d e W base ok (.slice (some ⟨g, 0, none⟩) n cap) xs i oki c := by
  obtain ⟨_, _, _, _, hfr⟩ := R_elem (S_R h) z i h0 h1
  obtain ⟨oki, c, hcl, hM, hcc, hoki, hH⟩ := S_lend h z i h0 h1
  exact ⟨oki, c, hcl, hM, hcc, hfr, hoki, hH⟩
/-- The row as_ cells: what was done to the block, done to the hole. -/
theorem H_raw (h : H d e W base ok (.slice (some ⟨g, 0, none⟩) n cap) xs i oki c) (h0 : 0 ≤ i) (h1 : i < n) :
    ∃ rows : List (List Value), rows.length = xs.length ∧ (raw d.sz).R e W base (fun _ => True) (.slice (some ⟨g, 0, none⟩) n cap) rows ∧ c.length = d.sz ∧ (∀ u ∈ c, u.oneCell' = true) ∧ (∀ j u, c[j]? = some u → W.cell? ⟨g, i.toNat * d.sz + j, none⟩ = some u) ∧
      ∀ w1 c', W.grownBy w1 (some g) → (raw d.sz).R e w1 base (fun _ => True) (.slice (some ⟨g, 0, none⟩) n cap) (rows.set i.toNat c') → H d e w1 base ok (.slice (some ⟨g, 0, none⟩) n cap) xs i oki c' := by
  obtain ⟨hoo, f, hR⟩ := h
  have hn := (R_reads' hR).1
  rw [List.length_zipIdx] at hn
  have hgo : some g = (Value.slice (some ⟨g, 0, none⟩) n cap).ownBlock := by simp [Value.ownBlock]
  obtain ⟨hok0, inner, ho, hr⟩ := hR
  have hil : i.toNat < xs.length := by omega
  have hlen : inner.length = xs.length * d.sz := by have := hr.1; rw [List.length_zipIdx] at this; exact this
  have hkg : ∀ k, some k ≠ (Value.slice (some ⟨g, 0, none⟩) n cap).ownBlock → k ≠ g := fun k hk he => hk (by rw [he]; exact hgo)
  have hci := (hr.2 i.toNat _ (zip_at (List.getElem?_eq_getElem hil))).1 rfl
  rw [hci.1] at hci
  have hc := ((hr.2 i.toNat _ (zip_at (List.getElem?_eq_getElem hil))).1 rfl).1
  refine ⟨(List.range xs.length).map fun j => (inner.drop (j * d.sz)).take d.sz, by rw [List.length_map, List.length_range], ⟨fun _ _ => trivial, inner, ?_, ?_, fun j p hj => ?_⟩, hci.2.1, hci.2.2, fun j u hu => ?_, fun w1 c' hg hraw => ?_⟩
  · rw [List.length_map, List.length_range]; rw [List.length_zipIdx] at ho; exact ho
  · rw [List.length_map, List.length_range]; exact hlen
  · rw [List.getElem?_map] at hj
    obtain ⟨j', hj', rfl⟩ := Option.map_eq_some_iff.1 hj
    obtain ⟨hl, he⟩ := List.getElem?_eq_some_iff.1 hj'
    rw [List.getElem_range] at he
    subst he
    rw [List.length_range] at hl
    have hm := (gap f d i.toNat c).K_of_M (hr.2 j _ (zip_at (List.getElem?_eq_getElem hl)))
    exact ⟨rfl, (gap f d i.toNat c).K_len hm, (gap f d i.toNat c).K_one hm⟩
  · rw [← hc, List.getElem?_take] at hu
    split at hu
    · rw [List.getElem?_drop] at hu
      have := ho.cells (g := g) hgo.symm _ u hu
      rwa [add_plain] at this
    · cases hu
  · obtain ⟨_, inner', ho', hr'⟩ := hraw
    have hl' : inner'.length = xs.length * d.sz := by have := hr'.1; rw [List.length_set, List.length_map, List.length_range] at this; exact this
    rw [List.length_set, List.length_map, List.length_range] at ho'
    refine ⟨hoo, f, hok0, inner', by rw [List.length_zipIdx]; exact ho', by rw [List.length_zipIdx]; exact hl', fun m p hm => ?_⟩
    rw [List.getElem?_zipIdx, Nat.zero_add] at hm
    obtain ⟨q, hq, rfl⟩ := Option.map_eq_some_iff.1 hm
    have hml : m < xs.length := (List.getElem?_eq_some_iff.1 hq).1
    have hold := hr.2 m (q, m) (zip_at hq)
    refine ⟨fun hx => ?_, fun hx => ?_⟩
    · have hx' : m = i.toNat := hx
      subst hx'
      exact hr'.2 i.toNat c' (List.getElem?_set_self (by rw [List.length_map, List.length_range]; exact hml))
    · have hx' : m ≠ i.toNat := hx
      have hcm := (hr'.2 m ((inner.drop (m * d.sz)).take d.sz) (by
        rw [List.getElem?_set_ne (Ne.symm hx'), List.getElem?_map, List.getElem?_eq_getElem (by rw [List.length_range]; exact hml), List.getElem_range]
        rfl)).1
      show d.M w1 base _ q ((inner'.drop (m * d.sz)).take d.sz)
      rw [show (inner'.drop (m * d.sz)).take d.sz = _ from hcm]
      exact d.M_mono (fun k hk => hk.1) (d.M_move (w1 := w1) (fun k hk => hg.block k hk.2.2.1 (fun he => hkg k hk.1.1.2 (by injection he))) (d.M_bound (hold.2 hx)))
/-- Cells of the hole are written. -/
theorem H_seg (h : H d e W base ok (.slice (some ⟨g, 0, none⟩) n cap) xs i oki c) (h0 : 0 ≤ i) (h1 : i < n) {seg : List Value} {j : Nat} (hj : j + seg.length ≤ d.sz) (hone : ∀ q ∈ seg, q.oneCell' = true) :
    H d e (W.setCells g (i.toNat * d.sz + j) seg) base ok (.slice (some ⟨g, 0, none⟩) n cap) xs i oki (c.take j ++ seg ++ c.drop (j + seg.length)) ∧ W.grownBy (W.setCells g (i.toNat * d.sz + j) seg) (some g) := by
  obtain ⟨rows, _, hraw, hcl, hco, hcc, hback⟩ := H_raw h h0 h1
  obtain ⟨h2, h3⟩ := R_seg hraw i h0 h1 (c := c) (seg := seg) (j := j) (x' := c.take j ++ seg ++ c.drop (j + seg.length)) (okp := fun _ => False) hcl hcc hj
    ⟨rfl, by
      show (c.take j ++ seg ++ c.drop (j + seg.length)).length = d.sz
      simp only [List.length_append, List.length_take, List.length_drop]; omega, fun u hu => by
      rcases List.mem_append.1 hu with hu | hu
      · rcases List.mem_append.1 hu with hu | hu
        · exact hco u (List.mem_of_mem_take hu)
        · exact hone u hu
      · exact hco u (List.mem_of_mem_drop hu)⟩ (fun _ hk => hk.elim)
  exact ⟨hback _ _ h3 h2, h3⟩
end
end Kd
end Go.Proofs.YtkjgnkmnngaioaaGreatW.PrintWords
namespace Go.Proofs.YtkjgnkmnngaioaaGreatW.PrintWords
open Go.RowKit
namespace Kd
theorem reps_one {α : Type} {R : α → List Value → Prop} {size : Nat} {ps : List α} {cs : List Value} (h : Reps R size ps cs) (hs0 : 0 < size) (hR : ∀ p c, R p c → ∀ u ∈ c, u.oneCell' = true) : ∀ u ∈ cs, u.oneCell' = true := by
  intro u hu
  obtain ⟨q, hq, rfl⟩ := List.mem_iff_getElem.1 hu
  have hql : q / size < ps.length := by
    rw [Nat.div_lt_iff_lt_mul hs0, ← h.1]
    exact hq
  refine hR _ _ (h.2 (q / size) _ (List.getElem?_eq_getElem hql)) _ ?_
  rw [List.mem_iff_getElem?]
  refine ⟨q % size, ?_⟩
  rw [List.getElem?_take, if_pos (Nat.mod_lt _ hs0), List.getElem?_drop, Nat.mul_comm, Nat.div_add_mod, List.getElem?_eq_getElem hq]
/-- An array of n elements of kind d. -/
def arr {α : Type} (n : Nat) (d : Kd α) (hs : 0 < d.sz) : Kd (List α) where
  sz := n * d.sz
  E := d.E
  K := fun w xs cs => xs.length = n ∧ Reps (d.K w) d.sz xs cs
  M := fun w base ok xs cs => xs.length = n ∧ Reps (d.M w base ok) d.sz xs cs
  K_len := fun h => by rw [← h.1]; exact h.2.1
  K_one := fun h => reps_one h.2 hs (fun _ _ hk => d.K_one hk)
  K_below := fun hb h => ⟨h.1, h.2.imp_ (fun _ _ hk => d.K_below hb hk)⟩
  K_of_M := fun h => ⟨h.1, h.2.imp_ (fun _ _ hk => d.K_of_M hk)⟩
  M_mono := fun hok h => ⟨h.1, h.2.imp_ (fun _ _ hk => d.M_mono hok hk)⟩
  M_bound := fun h => ⟨h.1, h.2.imp_ (fun _ _ hk => d.M_bound hk)⟩
  M_move := fun hm h => ⟨h.1, h.2.imp_ (fun _ _ hk => d.M_move hm hk)⟩
  M_lower := fun hb h => ⟨h.1, h.2.imp_ (fun _ _ hk => d.M_lower hb hk)⟩
end Kd
end Go.Proofs.YtkjgnkmnngaioaaGreatW.PrintWords
namespace Go.Proofs.YtkjgnkmnngaioaaGreatW.PrintWords
open Go.RowKit
namespace Kd
/-- As_ tag; an element without index leads to nothing. -/
def tagO {α : Type} (f : Nat → Nat) (d : Kd α) : Kd (α × Option Nat) where
  sz := d.sz
  E := d.E
  K := fun w x cs => d.K w x.1 cs
  M := fun w base ok x cs => d.M w base (fun k => ok k ∧ some (f k) = x.2) x.1 cs
  K_len := fun h => d.K_len h
  K_one := fun h => d.K_one h
  K_below := fun hb h => d.K_below hb h
  K_of_M := fun h => d.K_of_M h
  M_mono := fun hok h => d.M_mono (fun k hk => ⟨hok k hk.1, hk.2⟩) h
  M_bound := fun h => d.M_mono (fun _ hk => ⟨⟨hk.1.1, hk.2⟩, hk.1.2⟩) (d.M_bound h)
  M_move := fun hm h => d.M_move (fun k hk => hm k hk.1) h
  M_lower := fun hb h => d.M_lower hb h
section
variable {α : Type} {d : Kd α} {e : Nat} {w : World} {base : Nat} {ok : Nat → Prop} {v : Value} {xs : List α}
def zipO (xs : List α) (z : α) (m : Nat) : List (α × Option Nat) := xs.zipIdx.map (fun p => (p.1, some p.2)) ++ List.replicate m (z, none)
end
end Kd
end Go.Proofs.YtkjgnkmnngaioaaGreatW.PrintWords
namespace Go.Proofs.YtkjgnkmnngaioaaGreatW.PrintWords
open Go.RowKit
namespace Kd
/-- What a kind reads lies in the blocks: nothing else of the world is looked at. -/
structure Heap {α : Type} (d : Kd α) : Prop where
  K : ∀ {w w1 : World} {x : α} {cs : List Value}, (∀ k, k < w.heap.size → w1.heap[k]? = w.heap[k]?) → d.K w x cs → d.K w1 x cs
theorem cell_heap {w w1 : World} (hb : ∀ k, k < w.heap.size → w1.heap[k]? = w.heap[k]?) {a : Addr} {v : Value} (h : w.cell? a = some v) : w1.cell? a = some v := by
  have := hb a.block (World.block_lt_of_cell? w a h)
  simpa [World.cell?, this] using h
theorem Heap.C {α : Type} {d : Kd α} (hd : Heap d) {w w1 : World} {A : Option Addr} {n : Nat} {xs : List α} (hb : ∀ k, k < w.heap.size → w1.heap[k]? = w.heap[k]?) (h : d.C w A n xs) : d.C w1 A n xs :=
  ⟨h.1, h.2.1, fun hn => by
    obtain ⟨ad, e, hc⟩ := h.2.2 hn
    refine ⟨ad, e, fun j p hj => ?_⟩
    obtain ⟨c, hs, hr, hcell⟩ := hc j p hj
    exact ⟨c, hs, hd.K hb hr, fun i u hu => cell_heap hb (hcell i u hu)⟩⟩
theorem heap_int (k : IntKind) : Heap (Kd.int k) := ⟨fun _ h => h⟩
theorem heap_string : Heap Kd.string := ⟨fun _ h => h⟩
theorem heap_slice {α : Type} {d : Kd α} (e : Nat) (hd : Heap d) : Heap (slice e d) := ⟨by
  rintro w w1 x cs hb ⟨A, c, rfl, hl, hr⟩
  exact ⟨A, c, rfl, hl, hd.C hb hr⟩⟩
theorem heap_pair {α β : Type} {a : Kd α} {b : Kd β} (ha : Heap a) (hb' : Heap b) : Heap (pair a b) := ⟨by
  rintro w w1 x cs hb ⟨c0, c1, rfl, h0, h1⟩
  exact ⟨c0, c1, rfl, ha.K hb h0, hb'.K hb h1⟩⟩
theorem heap_iso {α β : Type} {d : Kd α} (f : β → α) (hd : Heap d) : Heap (iso d f) := ⟨fun hb h => hd.K hb h⟩
end Kd
end Go.Proofs.YtkjgnkmnngaioaaGreatW.PrintWords
namespace Go.Proofs.YtkjgnkmnngaioaaGreatW.PrintWords
open Go.RowKit
def Kept (w W : World) (S : Nat → Prop) : Prop := w.heap.size ≤ W.heap.size ∧ ∀ i, i < w.heap.size → ¬ S i → W.heap[i]? = w.heap[i]?
namespace Kd
end Kd
end Go.Proofs.YtkjgnkmnngaioaaGreatW.PrintWords
namespace Go.Proofs.YtkjgnkmnngaioaaGreatW.PrintWords
open Go.RowKit
/-- P holds in W and in every world that has W's blocks of ok. -/
def Foot (P : World → Prop) (W : World) (ok : Nat → Prop) : Prop := ∀ W' : World, (∀ k, ok k → k < W.heap.size → W'.heap[k]? = W.heap[k]?) → P W'
theorem heap_lt {W W1 : World} {k : Nat} (h : W1.heap[k]? = W.heap[k]?) (hlt : k < W.heap.size) : k < W1.heap.size := by
  rw [Array.getElem?_eq_getElem hlt] at h
  exact (Array.getElem?_eq_some_iff.1 h).1
namespace Foot
variable {P Q : World → Prop} {W W1 : World} {ok ok' : Nat → Prop}
theorem now (h : Foot P W ok) : P W := h W (fun _ _ _ => rfl)
theorem mono (h : Foot P W ok) (hok : ∀ k, ok k → ok' k) : Foot P W ok' := fun W' hW => h W' (fun k hk hlt => hW k (hok k hk) hlt)
theorem bound (h : Foot P W ok) : Foot P W (fun k => ok k ∧ k < W.heap.size) := fun W' hW => h W' (fun k hk hlt => hW k ⟨hk, hlt⟩ hlt)
theorem step (h : Foot P W ok) (hm : ∀ k, ok k → k < W.heap.size → W1.heap[k]? = W.heap[k]?) : Foot P W1 ok := fun W' hW => h W' (fun k hk hlt => (hW k hk (heap_lt (hm k hk hlt) hlt)).trans (hm k hk hlt))
/-- Moved, and still elder than what is new since W. -/
theorem old (h : Foot P W ok) (hb : Below W.heap.size W W1) : Foot P W1 (fun k => ok k ∧ k < W.heap.size) := (h.bound).step (fun k _ hlt => hb.block k hlt)
end Foot
namespace Kd
/-- A row that is only read: what it leads to lies in ok. -/
def F {α : Type} (d : Kd α) (W : World) (ok : Nat → Prop) (A : Option Addr) (n : Nat) (xs : List α) : Prop := Foot (fun W => d.C W A n xs) W ok
/-- An element's cells: what they lead to lies in ok. -/
def FK {α : Type} (d : Kd α) (W : World) (ok : Nat → Prop) (x : α) (c : List Value) : Prop := Foot (fun W => d.K W x c) W ok
section
variable {α β : Type} {d : Kd α} {e base n n' cc g N : Nat} {ok ok' okp S : Nat → Prop} {w w0 w1 W W1 : World} {A A' : Option Addr} {u v v1 : Value} {xs : List α} {xs' : List β} {d' : Kd β} {x : α} {c : List Value}
theorem F_now (h : F d W ok A n xs) : d.C W A n xs := Foot.now h
theorem F_mono (h : F d W ok A n xs) (hok : ∀ k, ok k → ok' k) : F d W ok' A n xs := Foot.mono h hok
theorem F_bound (h : F d W ok A n xs) : F d W (fun k => ok k ∧ k < W.heap.size) A n xs := Foot.bound h
theorem F_step (h : F d W ok A n xs) (hm : ∀ k, ok k → k < W.heap.size → W1.heap[k]? = W.heap[k]?) : F d W1 ok A n xs := Foot.step h hm
theorem F_below (h : F d W ok A n xs) (hb : Below W.heap.size W W1) : F d W1 ok A n xs := F_step h (fun k _ hlt => hb.block k hlt)
theorem F_drewN (h : F d W ok A n xs) (m : Nat) : F d (W.drewN m) ok A n xs := F_below h (pw_below_drewN (Below.refl _ _) m)
/-- A new row's block is none of an elder one's. -/
theorem F_elder' (h : F d W ok A n xs) (hbase : ∀ k, v.ownBlock = some k → W.heap.size ≤ k) (hb : Below W.heap.size W W1) : F d W1 (fun k => ok k ∧ some k ≠ v.ownBlock) A n xs :=
  F_mono (Foot.old h hb) (fun k hk => ⟨hk.1, fun he => by have := hbase k he.symm; have := hk.2; omega⟩)
/-- Behind an append to v (it left v1): what lies apart from v lies apart from v1. -/
theorem F_after (h : F d W (fun k => ok k ∧ some k ≠ v.ownBlock) A n xs) (hg : W.grownBy W1 v.ownBlock) (hat : v1.ownBlock = v.ownBlock ∨ ∃ b, v1.ownBlock = some b ∧ W.heap.size ≤ b) : F d W1 (fun k => ok k ∧ some k ≠ v1.ownBlock) A n xs := by
  refine F_mono (Foot.step (F_bound h) (fun k hk hlt => hg.block k hlt hk.1.2)) (fun k hk => ⟨hk.1.1, ?_⟩)
  rcases hat with hat | ⟨b, hb, hle⟩
  · rw [hat]; exact hk.1.2
  · rw [hb]
    intro he
    injection he with he
    have := hk.2
    omega
/-- What came in, a row of the call's own. -/
theorem C_F (hd : Heap d) (h : d.C w A n xs) : F d w (fun k => k < w.heap.size) A n xs := fun _ hW => hd.C (fun k hlt => hW k hlt hlt) h
/-- The same of an element's cells. -/
theorem FK_now (h : FK d W ok x c) : d.K W x c := Foot.now h
theorem FK_mono (h : FK d W ok x c) (hok : ∀ k, ok k → ok' k) : FK d W ok' x c := Foot.mono h hok
theorem FK_bound (h : FK d W ok x c) : FK d W (fun k => ok k ∧ k < W.heap.size) x c := Foot.bound h
theorem FK_step (h : FK d W ok x c) (hm : ∀ k, ok k → k < W.heap.size → W1.heap[k]? = W.heap[k]?) : FK d W1 ok x c := Foot.step h hm
theorem FK_of_M (h : d.M W base ok x c) : FK d W ok x c := fun _ hW => d.K_of_M (M_step h hW)
/-- A block that is emptied reads no more. -/
theorem emptied (W : World) (g : Nat) : ∃ W' : World, (∀ k, k ≠ g → W'.heap[k]? = W.heap[k]?) ∧ ∀ a : Addr, a.block = g → W'.cell? a = none := by
  refine ⟨{ W with heap := W.heap.setIfInBounds g (.cells #[] 0) }, fun k hk => by simp [Ne.symm hk], fun a ha => ?_⟩
  subst ha
  by_cases hlt : a.block < W.heap.size
  · simp [World.cell?, hlt]
  · simp [World.cell?, hlt]
end
end Kd
end Go.Proofs.YtkjgnkmnngaioaaGreatW.PrintWords
