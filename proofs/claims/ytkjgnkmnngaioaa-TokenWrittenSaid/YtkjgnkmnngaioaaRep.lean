/- '(*strings.genericReplacer).WriteString' and 'Replace', in the trie of the four signs. -/
import Derived.Test.YtkjgnkmnngaioaaLook
import Derived.Test.YtkjgnkmnngaioaaWs
import Derived.Test.YtkjgnkmnngaioaaMmx
namespace Go.Proofs.Ytkjgnkmnngaioaa.Q
open Go.RowKit Go.IntWalk Go.Proofs.Ytkjgnkmnngaioaa.Mem
set_option linter.unusedVariables false
set_option linter.unusedSimpArgs false

theorem hnot (x : Bool) (w : World) : (Op.unary .not (.bool x)).run Try.prog w = .ok (.bool (!x)) w := rfl
theorem hmf (fn : Fn) (first cap : Array Value) (w : World) : (Instr.makeFunc fn first cap).run Try.prog w = .ok (.func fn first cap) w := rfl
theorem hna (p : Addr) (w : World) : (nilAhead 275 163 (.pointer (some p)) "WriteString").run Try.prog w = .ok (some false) w := by kernel_rfl
theorem hme (p : Addr) (w : World) : (method 275 163 (.pointer (some p)) "WriteString").run Try.prog w = .ok (117, .pointer (some p)) w := by kernel_rfl
/-- Ahead of a piece that is written, and behind it. -/
def WrC (base bb : Nat) (w0 : World) (out : List UInt8) (t : ByteArray) : Nat → World → Prop
  | 0, w => Buf base bb w out ∧ Apart base bb w0 w
  | _, w => Buf base bb w (out ++ t.data.toList) ∧ Apart base bb w0 w
theorem hta (p : Option Addr) (w : World) : (Instr.typeAssert (.iface 163 (.pointer p)) 165 167 true).run Try.prog w = .ok (.tuple #[.iface 163 (.pointer p), .bool true]) w := by kernel_rfl
set_option maxRecDepth 100000 in
theorem gsw_calls (bb : Nat) (w : World) : Calls Try.prog 103 #[.iface 163 (.pointer (some ⟨bb, 0, none⟩))] w fun e w' => e = .returned (.iface 163 (.pointer (some ⟨bb, 0, none⟩))) ∧ w = w' := by
  have h1 := hnot
  have h2 := hta
  go_enter Try.func103, Try.ntmps103
  go_wp2
  go_ret
  exact ⟨rfl, rfl⟩
set_option maxRecDepth 100000 in
set_option maxHeartbeats 1600000 in
theorem look_empty (g : Nat) (s : ByteArray) (w : World) (hT : Tri g w) (hs : s.toList.isEmpty = true) : Calls Try.prog 104 #[.pointer (some ⟨g, 0, none⟩), .string s, .bool false] w fun e w' => e = .returned (.tuple #[.string em, .int .i64 0, .bool false]) ∧ w = w' := by
  have c1 : w.cell? ⟨g, 1, none⟩ = some (.int .i64 0) := (hT.root.cell 1).trans gb_1
  clear hT
  go_enter Try.func104, Try.ntmps104
  go_wp2_with fail
  go_loopw [1, 6, 7, 8, 9, 10, 11] (fun sv vv kv fv bv nv iv wr => sv = .string s ∧ vv = .string em ∧ kv = .int .i64 0 ∧ fv = .bool false ∧ bv = .int .i64 0 ∧ nv = .pointer (some ⟨g, 0, none⟩) ∧ iv = .int .i64 0 ∧ wr = w) (fun _ _ _ _ _ _ _ _ => 0)
  case atStart => exact ⟨rfl, rfl, rfl, rfl, rfl, rfl, rfl, rfl⟩
  case round =>
    obtain ⟨rfl, rfl, rfl, rfl, rfl, rfl, rfl, rfl⟩ := hrel
    go_wp2_with fail
    go_ret3
    exact ⟨rfl, rfl⟩

def tellB (o : Option Nat) (f : Nat → List UInt8) (d : List UInt8) : List UInt8 :=
  match o with
  | some a => f a
  | none => d
def tellN (s : ByteArray) : Nat → Nat → List UInt8
  | 0, _ => []
  | d + 1, i => if h : i < s.size then
      if s[i].toNat = 38 then tellB (lkF (s.extract i s.size)) (fun a => (vs a).data.toList ++ tellN s d (i + (2 + (px a).size))) (s[i] :: tellN s d (i + 1)) else s[i] :: tellN s d (i + 1)
    else []
theorem tellN_enough (s : ByteArray) : ∀ (d d' i : Nat), s.size - i ≤ d → s.size - i ≤ d' → tellN s d i = tellN s d' i
  | 0, 0, i, _, _ => rfl
  | 0, d' + 1, i, h, _ => by rw [tellN, tellN, dif_neg (by omega)]
  | d + 1, 0, i, _, h => by rw [tellN, tellN, dif_neg (by omega)]
  | d + 1, d' + 1, i, h, h' => by
    rw [tellN, tellN]
    by_cases hi : i < s.size
    · rw [dif_pos hi, dif_pos hi, tellN_enough s d d' (i + 1) (by omega) (by omega)]
      have : (fun a => (vs a).data.toList ++ tellN s d (i + (2 + (px a).size))) = fun a => (vs a).data.toList ++ tellN s d' (i + (2 + (px a).size)) := by
        funext a
        rw [tellN_enough s d d' (i + (2 + (px a).size)) (by omega) (by omega)]
      rw [this]
    · rw [dif_neg hi, dif_neg hi]
/-- What a text tells, from a place on. -/
def tellF (s : ByteArray) (i : Nat) : List UInt8 := tellN s (s.size - i) i
theorem tellF_eq {s : ByteArray} {i : Nat} (h : i < s.size) : tellF s i = if s[i].toNat = 38 then tellB (lkF (s.extract i s.size)) (fun a => (vs a).data.toList ++ tellF s (i + (2 + (px a).size))) (s[i] :: tellF s (i + 1)) else s[i] :: tellF s (i + 1) := by
  have e : s.size - i = (s.size - (i + 1)) + 1 := by omega
  unfold tellF
  rw [e, tellN, dif_pos h]
  have : (fun a => (vs a).data.toList ++ tellN s (s.size - (i + 1)) (i + (2 + (px a).size))) = fun a => (vs a).data.toList ++ tellN s (s.size - (i + (2 + (px a).size))) (i + (2 + (px a).size)) := by
    funext a
    rw [tellN_enough s (s.size - (i + 1)) (s.size - (i + (2 + (px a).size))) (i + (2 + (px a).size)) (by omega) (by omega)]
  rw [this]
theorem tellF_no {s : ByteArray} {i : Nat} (h : i < s.size) (hc : ¬ s[i].toNat = 38) : tellF s i = s[i] :: tellF s (i + 1) := by
  rw [tellF_eq h, if_neg hc]
theorem tellF_none {s : ByteArray} {i : Nat} (h : i < s.size) (hn : lkF (s.extract i s.size) = none) : tellF s i = s[i] :: tellF s (i + 1) := by
  rw [tellF_eq h, hn]
  split <;> rfl
theorem tellF_some {s : ByteArray} {i a : Nat} (h : i < s.size) (hc : s[i].toNat = 38) (hn : lkF (s.extract i s.size) = some a) : tellF s i = (vs a).data.toList ++ tellF s (i + (2 + (px a).size)) := by
  rw [tellF_eq h, if_pos hc, hn]
  rfl
theorem tellF_end {s : ByteArray} {i : Nat} (h : s.size ≤ i) : tellF s i = [] := by
  unfold tellF
  rw [show s.size - i = 0 by omega]
  rfl
theorem look_none (g : Nat) (s : ByteArray) (w : World) (hT : Tri g w) (h0 : 0 < s.size) (h38 : s[0].toNat = 38) (hk : lkF s = none) :
    Calls Try.prog 104 #[.pointer (some ⟨g, 0, none⟩), .string s, .bool false] w fun e w' => e = .returned (.tuple #[.string em, .int .i64 0, .bool false]) ∧ ∃ n, w' = w.drewN n := by
  have := look g s w hT h0 h38 (ne_list h0)
  rw [hk] at this
  exact this
theorem look_some (g : Nat) (s : ByteArray) (w : World) (a : Nat) (hT : Tri g w) (h0 : 0 < s.size) (h38 : s[0].toNat = 38) (hk : lkF s = some a) :
    Calls Try.prog 104 #[.pointer (some ⟨g, 0, none⟩), .string s, .bool false] w fun e w' => e = .returned (.tuple #[.string (vs a), .int .i64 (2 + ((px a).size : Int)), .bool true]) ∧ ∃ n, w' = w.drewN n := by
  have := look g s w hT h0 h38 (ne_list h0)
  rw [hk] at this
  exact this
theorem vs_size (a : Nat) : (vs a).size ≤ 1 := by
  rcases a with _ | _ | _ | _ | a
  · decide
  · decide
  · decide
  · decide
  · show (VS.getD (a + 4) em).size ≤ 1
    rw [List.getD_eq_getElem?_getD, List.getElem?_eq_none (by show 4 ≤ a + 4; omega)]
    decide
theorem tl_size (s : ByteArray) : (tl s).size = s.size - 1 := by unfold tl; simp
theorem lk_len {t : ByteArray} {a : Nat} (h : lkF t = some a) : 2 + (px a).size ≤ t.size := by
  unfold lkF at h
  by_cases h0 : 0 < (tl t).size
  · rw [dif_pos h0] at h
    cases hI : lkI (tl t)[0] with
    | none => rw [hI] at h; cases h
    | some i =>
      rw [hI] at h
      dsimp only at h
      by_cases hp : hpB (tl (tl t)) (px i) = true
      · rw [if_pos hp] at h
        cases h
        unfold hpB at hp
        by_cases hs : (px a).size ≤ (tl (tl t)).size
        · rw [tl_size, tl_size] at hs
          have := (px_size a).1
          omega
        · rw [if_neg hs] at hp; cases hp
      · rw [if_neg hp] at h; cases h
  · rw [dif_neg h0] at h; cases h
theorem ival {k : IntKind} {a b : Int} (h : a = b) : Value.int k a = Value.int k b := by rw [h]
theorem bval {a b : Bool} (h : a = b) : Value.bool a = Value.bool b := by rw [h]
/-- A piece of a text. -/
def pce (s : ByteArray) (i j : Nat) : List UInt8 := (s.extract i j).data.toList
theorem pce_snoc {s : ByteArray} {a i : Nat} (h : a ≤ i) (hi : i < s.size) : pce s a (i + 1) = pce s a i ++ [s[i]] := by
  unfold pce
  simp only [ByteArray.data_extract, Array.toList_extract, List.extract_eq_take_drop]
  rw [show i + 1 - a = (i - a) + 1 by omega, List.take_succ_eq_append_getElem (by simp; omega), List.getElem_drop]
  congr 2
  simp only [show a + (i - a) = i by omega]
  rfl
theorem pce_same (s : ByteArray) (i : Nat) : pce s i i = [] := by
  unfold pce
  simp only [ByteArray.data_extract, Array.toList_extract, List.extract_eq_take_drop, Nat.sub_self, List.take_zero]
theorem pce_end {s : ByteArray} {a i : Nat} (ha : a ≤ s.size) (hi : s.size ≤ i) : pce s a i = pce s a s.size := by
  unfold pce
  simp only [ByteArray.data_extract, Array.toList_extract, List.extract_eq_take_drop]
  rw [List.take_of_length_le (by simp; omega), List.take_of_length_le (by simp)]
theorem pce_nil {s : ByteArray} {a i : Nat} (ha : s.size ≤ a) : pce s a i = [] := by
  unfold pce
  simp only [ByteArray.data_extract, Array.toList_extract, List.extract_eq_take_drop]
  rw [List.drop_of_length_le (by simp; omega), List.take_nil]
theorem tab_root {g : Nat} {w : World} (h : Tri g w) {m : Nat} (h0 : 0 < m) (h1 : m < 11) : w.cell? ⟨g + 1, m, none⟩ = some np := by
  have : m = 1 ∨ m = 2 ∨ m = 3 ∨ m = 4 ∨ m = 5 ∨ m = 6 ∨ m = 7 ∨ m = 8 ∨ m = 9 ∨ m = 10 := by omega
  rcases this with rfl | rfl | rfl | rfl | rfl | rfl | rfl | rfl | rfl | rfl
  · exact h.tab.cell 1
  · exact h.tab.cell 2
  · exact h.tab.cell 3
  · exact h.tab.cell 4
  · exact h.tab.cell 5
  · exact h.tab.cell 6
  · exact h.tab.cell 7
  · exact h.tab.cell 8
  · exact h.tab.cell 9
  · exact h.tab.cell 10
theorem mp_all2 : ((List.range 256).all fun c => (List.range 12).any fun m => decide (MP.getD c 0 = (m : Int)) && (decide (c = 38) || decide (0 < m))) = true := by decide +kernel
theorem mp_any (c : UInt8) : ∃ m : Nat, MP.getD c.toNat 0 = (m : Int) ∧ (¬ c.toNat = 38 → 0 < m ∧ m ≤ 11) := by
  have := List.all_eq_true.1 mp_all2 c.toNat (List.mem_range.2 c.toNat_lt)
  obtain ⟨m, h1, h2⟩ := List.any_eq_true.1 this
  simp only [Bool.and_eq_true, decide_eq_true_eq, Bool.or_eq_true] at h2
  exact ⟨m, h2.1, fun h => ⟨by rcases h2.2 with h3 | h3; exact (h h3).elim; exact h3, by have := List.mem_range.1 h1; omega⟩⟩
set_option maxRecDepth 100000 in
set_option maxHeartbeats 4000000 in
theorem wr_calls (g base bb : Nat) (s : ByteArray) (w : World) (hT : Tri g w) (hgb : g + 12 ≤ base) (hB : Buf base bb w []) (hs : s.size ≤ 600000) :
    Calls Try.prog 102 #[.pointer (some ⟨g, 0, none⟩), .iface 163 (.pointer (some ⟨bb, 0, none⟩)), .string s] w fun e w' => (∃ n, e = .returned (.tuple #[.int .i64 n, .nilIface])) ∧ Buf base bb w' (tellF s 0) ∧ Apart base bb w w' := by
  have HT := Lib.hid hT
  have HB := Lib.hid hB
  have HGB := Lib.hid hgb
  clear hT hB hgb
  go_enter Try.func102, Try.ntmps102
  go_wp2_with (go_at_call 103; refine (gsw_calls bb _).mono ?_; rintro e w1 ⟨rfl, rfl⟩)
  go_loopw [6, 7, 9, 10, 11, 12] (fun nv ev lv kv pv iv wr => ∃ (out : List UInt8) (last i : Nat) (k : Int), nv = .int .i64 (out.length : Int) ∧ ev = .nilIface ∧ lv = .int .i64 (last : Int) ∧ kv = .int .i64 k ∧ pv = .bool false ∧ iv = .int .i64 (i : Int) ∧ last ≤ i ∧ i ≤ s.size + 1 ∧ last ≤ s.size ∧ out.length ≤ last ∧
      Hid (out ++ pce s last i ++ tellF s i = tellF s 0) ∧ Hid (Buf base bb wr out) ∧ Hid (Apart base bb w wr)) (fun _ _ _ _ _ iv _ => s.size + 2 - (intOf iv).toNat)
  case atStart => exact ⟨[], 0, 0, 0, rfl, rfl, rfl, rfl, rfl, rfl, Nat.le_refl _, by omega, by omega, by simp, Lib.hid (by simp [pce]), HB, Lib.hid (Apart.refl _ _ _)⟩
  case round =>
    obtain ⟨out, last, i, k, rfl, rfl, rfl, rfl, rfl, rfl, h1, h2, h3, h4, HO, HBU, HA⟩ := hrel
    have HTr := Lib.hid (show Tri g wr from HT.out.keep (fun j j1 j2 => HA.out.block j (by have := HGB.out; omega)))
    by_cases hi : i ≤ s.size
    · by_cases hlt : i < s.size
      · have HB1 := Lib.hid (show pce s last (i + 1) = pce s last i ++ [s[i]] from pce_snoc h1 hlt)
        have u1 : (i : Int) ≤ (s.size : Int) := by omega
        have u2 : (i : Int) < (s.size : Int) := by omega
        have u3 : ((i : Int) != (s.size : Int)) = true := by simp; omega
        have u4 : (0 : Int) ≤ (i : Int) := by omega
        have u5 : (s[i].toNat : Int) < 256 := by have := s[i].toNat_lt; omega
        have c1 : wr.cell? ⟨g, 1, none⟩ = some (.int .i64 0) := (HTr.out.root.cell 1).trans gb_1
        by_cases hc : s[i].toNat = 38
        · have cm : wr.cell? ⟨g, 6 + s[i].toNat, none⟩ = some (.int .u8 ((0 : Nat) : Int)) := by rw [hc]; exact tg_map HTr.out.root 38 0 (by decide) mp_amp
          have HC := Lib.hid hc
          clear hc
          go_upto_region 7 with (fail)
          go_still (by kernel_rfl)
          show Exit.then _ _ _ _ wr.drew
          have HT2 := Lib.hid (show Tri g wr.drew from HTr.out.keep (fun j _ _ => rfl))
          have HBU2 := Lib.hid (show Buf base bb wr.drew out from HBU.out.drewN 1)
          have HA2 := Lib.hid (show Apart base bb w wr.drew from HA.out.drewN 1)
          clear c1 cm HTr HBU HA
          generalize wr.drew = W2 at HT2 HBU2 HA2 ⊢
          have c4 : W2.cell? ⟨g, 4, none⟩ = some (.slice (some ⟨g + 1, 0, none⟩) 11 11) := (HT2.out.root.cell 4).trans gb_4
          have c5 : W2.cell? ⟨g, 5, none⟩ = some (.int .i64 11) := (HT2.out.root.cell 5).trans gb_5
          have ct : W2.cell? ⟨g + 1, 0, none⟩ = some (pt (g + 2)) := HT2.out.tab.cell 0
          have hsub : (s.extract i s.size).size = s.size - i := by simp
          have HS0 := Lib.hid (show 0 < (s.extract i s.size).size by omega)
          have HS38 := Lib.hid (show ((s.extract i s.size)[0]'HS0.out).toNat = 38 from by
            rw [ByteArray.getElem_extract]
            simp only [Nat.add_zero]
            exact HC.out)
          clear hsub
          cases hk : lkF (s.extract i s.size) with
          | none =>
            have HN := Lib.hid (tellF_none hlt hk)
            have HK := Lib.hid hk
            clear hk
            have HO2 := Lib.hid (show out ++ pce s last (i + 1) ++ tellF s (i + 1) = tellF s 0 by
              rw [HB1.out, ← HO.out, HN.out]
              simp)
            go_wp2_with (go_at_call 104; refine (look_none g _ _ HT2.out HS0.out HS38.out HK.out).mono ?_; rintro e w1 ⟨rfl, n, rfl⟩)
            go_roundw
            case rel => exact ⟨out, last, i + 1, k, rfl, rfl, rfl, rfl, rfl, by go_num, by omega, by omega, h3, h4, HO2, Lib.hid (HBU2.out.drewN n), Lib.hid (HA2.out.drewN n)⟩
            case measure => simp [intOf]; omega
          | some a =>
            have HN := Lib.hid (tellF_some hlt HC.out hk)
            have HK := Lib.hid hk
            clear hk
            go_upto_region 13 with (go_at_call 104; refine (look_some g _ _ a HT2.out HS0.out HS38.out HK.out).mono ?_; rintro e w1 ⟨rfl, n, rfl⟩)
            have v2 : (0 : Int) ≤ (last : Int) := by omega
            have v3 : (last : Int) ≤ (i : Int) := by omega
            have hmf := hmf
            have hna := hna
            have hme := hme
            clear c4 c5 ct
            have HT3 := Lib.hid (show Tri g (W2.drewN n).drew from HT2.out.keep (fun j _ _ => rfl))
            have hC0 : WrC base bb w out (s.extract last i) 0 (W2.drewN n).drew := ⟨(HBU2.out.drewN n).drewN 1, (HA2.out.drewN n).drewN 1⟩
            have ne : Nonempty (Mix.Wd (WrC base bb w out (s.extract last i)) 0) := ⟨⟨(W2.drewN n).drew, 0, Nat.le_refl _, hC0⟩⟩
            refine Mix.wp_region_mix (C := WrC base bb w out (s.extract last i)) [8] (by kernel_rfl) (by kernel_rfl) hC0 ?_
            iterate 8 (refine Mix.mix_still (by decide) (fun K hK => ?_); go_simp; refine hK _ ?_; clear hK K)
            refine Mix.mix_turn (by decide) (fun K hK => ?_)
            go_simp
            refine ⟨_, fun yw hy => (ws_calls base bb out (s.extract last i) yw hy.1 (by simp; omega)).mono fun e w' h => ⟨h.1, h.2.1, hy.2.trans h.2.2⟩, hK _ ?_⟩
            clear hK K
            iterate 5 (refine Mix.mix_still (by decide) (fun K hK => ?_); go_simp; refine hK _ ?_; clear hK K)
            refine Mix.mix_nil ?_
            intro w6 hw6
            have HB6 := Lib.hid hw6.1
            have HA6 := Lib.hid hw6.2
            clear hw6 ne hC0 HBU2 HA2 HT2 HT3 hna hmf
            show Exit.then _ _ _ _ w6
            have hsz0 : (0 : Int) ≤ ((i - last : Nat) : Int) := by omega
            have hsz1 : ((i - last : Nat) : Int) ≤ 600000 := by omega
            have ho1 : (out.length : Int) ≤ 600000 := by omega
            have ho0 : (0 : Int) ≤ (out.length : Int) := by omega
            have HPX := Lib.hid (px_size a)
            have HVS := Lib.hid (vs_size a)
            have hpx1 : ((px a).size : Int) ≤ 4 := by have := HPX.out; omega
            have hpx0 : (0 : Int) ≤ ((px a).size : Int) := by omega
            have hvs1 : ((vs a).size : Int) ≤ 1 := by have := HVS.out; omega
            have hvs0 : (0 : Int) ≤ ((vs a).size : Int) := by omega
            go_wp2_with (go_at_call 117; refine (ws_calls base bb _ (vs a) _ HB6.out (by have := HVS.out; simp; omega)).mono ?_; rintro e w7 ⟨rfl, hb, ha⟩; have HB7 := Lib.hid hb; have HA7 := Lib.hid ha; clear hb ha)
            have HLN := Lib.hid (lk_len HK.out)
            have hsub2 : (s.extract i s.size).size = s.size - i := by simp
            go_roundw
            case rel =>
              have hln := HLN.out
              have hv := HVS.out
              have hl1 : (s.extract last i).data.toList.length = i - last := by simp; omega
              have hl2 : (vs a).data.toList.length = (vs a).size := by simp
              have hl3 : (out ++ (s.extract last i).data.toList ++ (vs a).data.toList).length = out.length + (i - last) + (vs a).size := by rw [List.length_append, List.length_append, hl1, hl2]
              have q1 : (out.length : Int) + ((i - last : Nat) : Int) + ((vs a).size : Int) = (((out ++ (s.extract last i).data.toList ++ (vs a).data.toList).length : Nat) : Int) := by rw [hl3]; omega
              have q2 : (i : Int) + (2 + ((px a).size : Int)) = ((i + (2 + (px a).size) : Nat) : Int) := by omega
              have q3 : ((2 + ((px a).size : Int)) == 0) = false := by rw [beq_eq_false_iff_ne]; omega
              have q4 : out ++ (s.extract last i).data.toList ++ (vs a).data.toList ++ pce s (i + (2 + (px a).size)) (i + (2 + (px a).size)) ++ tellF s (i + (2 + (px a).size)) = tellF s 0 := by
                rw [← HO.out, HN.out, pce_same]
                unfold pce
                simp only [List.append_nil, List.append_assoc]
              have q5 : i + (2 + (px a).size) ≤ s.size := by omega
              have q6 : (out ++ (s.extract last i).data.toList ++ (vs a).data.toList).length ≤ i + (2 + (px a).size) := by rw [hl3]; omega
              exact ⟨out ++ (s.extract last i).data.toList ++ (vs a).data.toList, i + (2 + (px a).size), i + (2 + (px a).size), ((vs a).size : Int), ival q1, rfl, ival q2, rfl, bval q3, ival q2, Nat.le_refl _, Nat.le_succ_of_le q5, q5, q6, Lib.hid q4, HB7, Lib.hid (HA6.out.trans HA7.out)⟩
            case measure => have := HLN.out; simp [intOf]; omega
        · have HN := Lib.hid (tellF_no hlt hc)
          obtain ⟨m, hm, hm'⟩ := mp_any s[i]
          have cm : wr.cell? ⟨g, 6 + s[i].toNat, none⟩ = some (.int .u8 (m : Int)) := tg_map HTr.out.root _ m (by omega) hm
          have hm0 : 0 < m ∧ m ≤ 11 := hm' hc
          have hmw : IntKind.i64.wrap (m : Int) = (m : Int) := i64_in _ (by omega)
          clear hm hm'
          go_upto_region 7 with (fail)
          go_still (by kernel_rfl)
          show Exit.then _ _ _ _ wr.drew
          have HT2 := Lib.hid (show Tri g wr.drew from HTr.out.keep (fun j _ _ => rfl))
          have HBU2 := Lib.hid (show Buf base bb wr.drew out from HBU.out.drewN 1)
          have HA2 := Lib.hid (show Apart base bb w wr.drew from HA.out.drewN 1)
          clear c1 cm HTr HBU HA hmw
          generalize wr.drew = W2 at HT2 HBU2 HA2 ⊢
          have c4 : W2.cell? ⟨g, 4, none⟩ = some (.slice (some ⟨g + 1, 0, none⟩) 11 11) := (HT2.out.root.cell 4).trans gb_4
          have c5 : W2.cell? ⟨g, 5, none⟩ = some (.int .i64 11) := (HT2.out.root.cell 5).trans gb_5
          have HO2 := Lib.hid (show out ++ pce s last (i + 1) ++ tellF s (i + 1) = tellF s 0 by
            rw [HB1.out, ← HO.out, HN.out]
            simp)
          by_cases h11 : m = 11
          · have v1 : ((m : Int) == 11) = true := by simp; omega
            clear h11 hm0
            go_wp2_with fail
            go_roundw
            case rel => exact ⟨out, last, i + 1, k, rfl, rfl, rfl, rfl, rfl, by go_num, by omega, by omega, h3, h4, HO2, HBU2, HA2⟩
            case measure => simp [intOf]; omega
          · have v1 : ((m : Int) == 11) = false := by simp; omega
            have v2 : (m : Int) < 11 := by omega
            have v3 : (0 : Int) ≤ (m : Int) := by omega
            have ct : W2.cell? ⟨g + 1, m, none⟩ = some np := tab_root HT2.out hm0.1 (by omega)
            clear h11 hm0
            go_wp2_with fail
            go_roundw
            case rel => exact ⟨out, last, i + 1, k, rfl, rfl, rfl, rfl, rfl, by go_num, by omega, by omega, h3, h4, HO2, HBU2, HA2⟩
            case measure => simp [intOf]; omega
      · have hie : i = s.size := by omega
        have HO2 := Lib.hid (show out ++ pce s last (i + 1) ++ tellF s (i + 1) = tellF s 0 by
          rw [← HO.out, tellF_end (by omega), tellF_end (by omega), pce_end (i := i + 1) h3 (by omega), pce_end (i := i) h3 (by omega)])
        have u1 : (i : Int) ≤ (s.size : Int) := by omega
        have u3 : ((i : Int) != (s.size : Int)) = false := by simp; omega
        have u4 : (0 : Int) ≤ (i : Int) := by omega
        have HE := Lib.hid (show (s.extract i s.size).toList.isEmpty = true from empty_list (by simp; omega))
        clear hie
        go_wp2_with (go_at_call 104; refine (look_empty g _ _ HTr.out HE.out).mono ?_; rintro e w1 ⟨rfl, rfl⟩)
        go_roundw
        case rel => exact ⟨out, last, i + 1, k, rfl, rfl, rfl, rfl, rfl, by go_num, by omega, by omega, h3, h4, HO2, HBU, HA⟩
        case measure => simp [intOf]; omega
    · have u1 : ¬ (i : Int) ≤ (s.size : Int) := by omega
      by_cases hl : last = s.size
      · have v1 : ((last : Int) != (s.size : Int)) = false := by simp; omega
        have HF := Lib.hid (show out = tellF s 0 by
          rw [← HO.out, tellF_end (by omega), pce_nil (by omega)]; simp)
        clear hl
        go_wp2_with fail
        refine bodyPost_ret (v := .tuple #[.int .i64 (out.length : Int), .nilIface]) (by simp [results, Try.results102, go_sem]) rfl ⟨⟨_, rfl⟩, by rw [← HF.out]; exact HBU.out, HA.out⟩
      · have v1 : ((last : Int) != (s.size : Int)) = true := by simp; omega
        have HF := Lib.hid (show out ++ (s.extract last s.size).data.toList = tellF s 0 by
          rw [← HO.out, tellF_end (by omega), pce_end h3 (by omega)]; simp [pce])
        have v2 : (0 : Int) ≤ (last : Int) := by omega
        have v3 : (last : Int) ≤ (s.size : Int) := by omega
        have hmf := hmf
        have hna := hna
        clear hl
        go_upto_region 23 with (fail)
        have hC0 : WrC base bb w out (s.extract last s.size) 0 wr.drew := ⟨HBU.out.drewN 1, HA.out.drewN 1⟩
        have ne : Nonempty (Mix.Wd (WrC base bb w out (s.extract last s.size)) 0) := ⟨⟨wr.drew, 0, Nat.le_refl _, hC0⟩⟩
        have hme := hme
        refine Mix.wp_region_mix (C := WrC base bb w out (s.extract last s.size)) [7] (by kernel_rfl) (by kernel_rfl) hC0 ?_
        iterate 7 (refine Mix.mix_still (by decide) (fun K hK => ?_); go_simp; refine hK _ ?_; clear hK K)
        refine Mix.mix_turn (by decide) (fun K hK => ?_)
        go_simp
        refine ⟨_, fun yw hy => (ws_calls base bb out (s.extract last s.size) yw hy.1 (by simp; omega)).mono fun e w' h => ⟨h.1, h.2.1, hy.2.trans h.2.2⟩, hK _ ?_⟩
        clear hK K
        iterate 5 (refine Mix.mix_still (by decide) (fun K hK => ?_); go_simp; refine hK _ ?_; clear hK K)
        refine Mix.mix_nil ?_
        intro w6 hw6
        have HB6 := Lib.hid hw6.1
        have HA6 := Lib.hid hw6.2
        clear hw6 ne hC0 HBU HA HTr hme hna hmf
        have hsz0 : (0 : Int) ≤ ((s.size - last : Nat) : Int) := by omega
        have hsz1 : ((s.size - last : Nat) : Int) ≤ 600000 := by omega
        have ho1 : (out.length : Int) ≤ 600000 := by omega
        have ho0 : (0 : Int) ≤ (out.length : Int) := by omega
        show Exit.then _ _ _ _ w6
        rw [HF.out] at HB6
        go_wp2_with fail
        refine bodyPost_ret (v := .tuple #[.int .i64 ((out.length : Int) + ((s.size - last : Nat) : Int)), .nilIface]) (by simp [results, Try.results102, go_sem]) rfl ⟨⟨_, rfl⟩, HB6.out, HA6.out⟩
end Go.Proofs.Ytkjgnkmnngaioaa.Q
