/- '(*strings.byteStringReplacer).Replace'. -/
import Derived.Test.YtkjgnkmnngaioaaBsc
import Derived.Laws.Cover3
import Derived.Deep.OwnRows
import Derived.Test.YtkjgnkmnngaioaaMmx
import Derived.StillTailTactics
namespace Go.Proofs.Ytkjgnkmnngaioaa.Q
open Go.RowKit Go.IntWalk Go.Proofs.Ytkjgnkmnngaioaa.Mem
set_option linter.unusedVariables false
set_option linter.unusedSimpArgs false

theorem bs_or {q base np : Nat} {f : Nat → Value} {tr : Value} {W : World} (HS : BsS q base np np f tr W) (c : UInt8) :
    (∃ a, a < np ∧ c.toNat = oby a ∧ Rp W (f c.toNat) (ns a)) ∨ ((∀ a, a < np → c.toNat ≠ oby a) ∧ f c.toNat = nlb) := by
  by_cases h : ∃ a, a < np ∧ c.toNat = oby a
  · obtain ⟨a, h1, h2⟩ := h
    exact .inl ⟨a, h1, h2, by rw [h2]; exact HS.done a h1 (by omega)⟩
  · have h' : ∀ a, a < np → c.toNat ≠ oby a := fun a h1 h2 => h ⟨a, h1, h2⟩
    exact .inr ⟨h', HS.rest _ c.toNat_lt (fun a h1 _ => h' a h1)⟩
theorem take_set (l : List Value) (j : Nat) (v : Value) (h : j < l.length) : (l.set j v).take (j + 1) = l.take j ++ [v] := by
  rw [List.take_succ_eq_append_getElem (by simpa using h)]
  congr 1
  · rw [List.take_set, List.set_eq_of_length_le (by simp; omega)]
  · simp
def by8 (l : List UInt8) : List Value := l.map fun b => Value.int .u8 b.toNat
theorem signF_le {np : Nat} (l : List UInt8) (i : Nat) : (signF np (l.take i)).length ≤ (signF np l).length := by
  conv => rhs; rw [← List.take_append_drop i l]
  unfold signF
  rw [List.flatMap_append, List.length_append]
  omega
/-- Ahead of a piece that is copied, and behind it. -/
def CpC (q g : Nat) (S cur cur' : Array Value) (w0 : World) : Nat → World → Prop
  | 0, y => Blk y g cur 5 ∧ Blk y q S 92 ∧ Below w0.heap.size w0 y
  | _, y => Blk y g cur' 5 ∧ Blk y q S 92 ∧ Below w0.heap.size w0 y
theorem CpC.q {q g i : Nat} {S cur cur' : Array Value} {w0 y : World} (h : CpC q g S cur cur' w0 i y) : Blk y q S 92 := by
  cases i with
  | zero => exact h.2.1
  | succ i => exact h.2.1
set_option maxRecDepth 100000 in
set_option maxHeartbeats 1600000 in
theorem bsr_calls (q base np : Nat) (s : ByteArray) (w : World) (hnp : np = 3 ∨ np = 4) (hB : Bs q base np w) (hs : s.size ≤ 600000) :
    Calls Try.prog 107 #[.pointer (some ⟨q, 0, none⟩), .string s] w fun e w' => e = .returned (.string ⟨(signF np s.data.toList).toArray⟩) ∧ Below w.heap.size w w' := by
  obtain ⟨f, tr, hS⟩ := hB
  have HS := Lib.hid hS
  have HNP := Lib.hid hnp
  obtain ⟨A0, c0, htr⟩ := own_sl hS.own
  subst htr
  have l1 : w.cell? ⟨q, 256, none⟩ = some (.slice A0 np c0) := by rw [hS.blk.cell]; exact bsb_tr
  have hq : ∀ (w : World) (a : Option Addr) (n c : Nat), (binOp .neq 45 (.slice a n c) (.slice none 0 0)).run Try.prog w = .ok (.bool (!a.isNone)) w := fun w a n c => run_neq_slice_nil w 45 5 a n c Try.underlying45
  clear hS hnp
  by_cases hw : 8 * np ≤ s.size
  · have u1 : (np : Int) * 8 ≤ (s.size : Int) := by omega
    have u2 : (np : Int) * 8 ≤ 32 := by have := HNP.out; omega
    have u3 : 0 ≤ (np : Int) * 8 := by omega
    have u4 : (s.size : Int) ≤ 600000 := by omega
    have hrow : ∃ g0, A0 = some ⟨g0, 0, none⟩ := by
      rcases HS.out.own.2 with ⟨h, h'⟩ | ⟨g, cap, cur, h, -⟩
      · have := HNP.out; omega
      · cases h; exact ⟨g, rfl⟩
    obtain ⟨g0, rfl⟩ := hrow
    go_enter Try.func107, Try.ntmps107
    go_wp2_with fail
    clear u1 u2 u3
    go_loopw [5, 6, 32] (fun nv bv iv wr => ∃ (k n : Nat) (ch : Bool), k ≤ np ∧ nv = .int .i64 (n : Int) ∧ bv = .bool ch ∧ iv = .int .i64 (k : Int) ∧ Hid (BsS q base np np f (.slice (some ⟨g0, 0, none⟩) np c0) wr ∧ Below w.heap.size w wr) ∧ Hid (n = s.size + wsum np s.data.toList k) ∧ Hid (n ≤ s.size + 3000000 * k) ∧ Hid (ch = false → wsum np s.data.toList k = 0)) (fun _ _ iv _ => np - (intOf iv).toNat)
    case atStart => exact ⟨0, s.size, false, by omega, rfl, rfl, rfl, Lib.hid ⟨HS.out, Below.refl _ _⟩, Lib.hid rfl, Lib.hid (by omega), Lib.hid (fun _ => rfl)⟩
    case round =>
      obtain ⟨k, n, ch, hk, rfl, rfl, rfl, HWR, HN, HN6, HCH⟩ := hrel
      clear HS l1
      obtain ⟨w0, rfl⟩ : ∃ w0 : World, w0 = w := ⟨_, rfl⟩
      obtain ⟨w, rfl⟩ : ∃ w : World, w = wr := ⟨_, rfl⟩
      have HS := Lib.hid HWR.out.1
      have HBB := Lib.hid HWR.out.2
      clear HWR
      by_cases hlt : k < np
      · have v1 : (k : Int) < (np : Int) := by omega
        have v2 : (0 : Int) ≤ (k : Int) := by omega
        have hnp4 : np ≤ 4 := by have := HNP.out; omega
        obtain ⟨a, ha⟩ : ∃ a, a = np - 1 - k := ⟨_, rfl⟩
        have ha4 : a < 4 := by omega
        obtain ⟨c, hc, hc1⟩ : ∃ c : UInt8, os a = ⟨#[c]⟩ ∧ c = (oby a).toUInt8 ∧ c.toNat = oby a := by
          have h : a = 0 ∨ a = 1 ∨ a = 2 ∨ a = 3 := by omega
          rcases h with rfl | rfl | rfl | rfl <;> exact ⟨_, rfl, rfl, rfl⟩
        have l2 : w.cell? ⟨g0, k, none⟩ = some (.string ⟨#[c]⟩) := by
          have h := HS.out.own.cells (g := g0) rfl k (.string (os a)) (by rw [List.getElem?_map, List.getElem?_range hlt, ha]; rfl)
          rw [hc] at h
          have e : (⟨g0, 0, none⟩ : Addr).add k = ⟨g0, k, none⟩ := by unfold Addr.add; split <;> simp_all
          rw [e] at h
          exact h
        obtain ⟨g2, cap, cur, fz, h3, h4, h5⟩ := HS.out.done a (by omega) (by omega)
        have l3 : w.cell? ⟨q, oby a, none⟩ = some (.slice (some ⟨g2, 0, none⟩) (ns a).size cap) := by rw [HS.out.blk.cell, bsb_at (ob_lt ha4), h3]
        rw [← hc1.2] at l3
        obtain ⟨ct, hct⟩ : ∃ ct, ct = Lib.countByte s.data.toList c := ⟨_, rfl⟩
        have hcl : ct ≤ s.size := by rw [hct]; unfold Lib.countByte; have := List.count_le_length (a := c) (l := s.data.toList); simpa using this
        have hns := ns_size ha4
        have hmul : ct * ((ns a).size - 1) ≤ 3000000 := Nat.le_trans (Nat.mul_le_mul hcl (show (ns a).size - 1 ≤ 5 by omega)) (by omega)
        have HCO := Lib.hid (show wsum np s.data.toList (k + 1) = wsum np s.data.toList k + ct * ((ns a).size - 1) from by rw [hct, hc1.1, ha]; rfl)
        have hcc : Calls Try.prog 109 #[.string s, .string ⟨#[c]⟩] w fun e w' => e = .returned (.int .i64 (ct : Int)) ∧ w' = w := by rw [hct]; exact count_calls s c w
        have HCC := Lib.hid hcc
        obtain ⟨mz, hmz⟩ : ∃ mz, (ns a).size = mz + 1 := ⟨(ns a).size - 1, by omega⟩
        rw [hmz] at l3 hmul
        have HMZ := Lib.hid hmz
        have v5 : ((c.toNat : Nat) : Int) < 256 := by have := c.toNat_lt; omega
        have hN := HN6.out
        have v6 : (n : Int) ≤ 12600000 := by omega
        have v7 : (0 : Int) ≤ (n : Int) := by omega
        have hm2 : ct * mz ≤ 3000000 := by simpa using hmul
        have v8 : (ct : Int) * (mz : Int) ≤ 3000000 := by rw [← Int.natCast_mul]; omega
        have v9 : (0 : Int) ≤ (ct : Int) * (mz : Int) := by rw [← Int.natCast_mul]; omega
        clear hm2 hct hcl hns hmul hcc hmz ha hc hc1 h3 h4 h5 hN
        by_cases hz : ct = 0
        · subst hz
          go_wp2_with (go_at_call 109; refine HCC.out.mono ?_; rintro e w1 ⟨rfl, rfl⟩)
          go_roundw
          case rel => exact ⟨k + 1, n, ch, by omega, rfl, rfl, rfl, Lib.hid ⟨HS.out, HBB.out⟩, Lib.hid (by have h := HCO.out; have h1 := HN.out; rw [HMZ.out] at h; simp at h; omega), Lib.hid (by have := HN6.out; omega), Lib.hid (fun e => by have h := HCO.out; have h1 := HCH.out e; simp at h; omega)⟩
          case measure => simp [intOf]; omega
        · have z1 : ((ct : Int) != 0) = true := by simp; omega
          have hcz : ∀ p : 0 < (⟨#[c]⟩ : ByteArray).size, ((⟨#[c]⟩ : ByteArray)[0]'p) = c := fun _ => rfl
          go_wp2_with (go_at_call 109; refine HCC.out.mono ?_; rintro e w1 ⟨rfl, rfl⟩)
          go_still (by kernel_rfl)
          go_wp2_with fail
          have hm2 : ct * mz ≤ 3000000 := by have := v8; rw [← Int.natCast_mul] at this; omega
          have hmz5 : mz ≤ 5 := by have := HMZ.out; have := ns_size ha4; omega
          have hw8 : Value.int .i64 (IntKind.i64.wrap ((n : Int) + IntKind.i64.wrap ((ct : Int) * IntKind.i64.wrap (mz : Int)))) = .int .i64 ((n + ct * mz : Nat) : Int) := by
            rw [IntWalk.i64_in (mz : Int) ⟨by omega, by omega⟩, IntWalk.i64_in ((ct : Int) * (mz : Int)) ⟨by omega, by omega⟩, IntWalk.i64_in _ ⟨by omega, by omega⟩, Int.natCast_add, Int.natCast_mul]
          go_roundw
          case rel => exact ⟨k + 1, n + ct * mz, true, by omega, by first | exact hw8 | (congr 1; rw [← Int.natCast_mul]; omega), rfl, rfl, Lib.hid ⟨⟨HS.out.blk, HS.out.own, HS.out.done, HS.out.rest, HS.out.ge⟩, HBB.out.trans ⟨rfl, rfl, rfl, Nat.le_refl _, fun _ _ => rfl⟩⟩, Lib.hid (by have h := HCO.out; have h1 := HN.out; rw [HMZ.out] at h; simp at h; omega), Lib.hid (by have := HN6.out; omega), Lib.hid (fun e => by cases e)⟩
          case measure => simp [intOf]; omega
      · have v1 : ¬ (k : Int) < (np : Int) := by omega
        have hk' : k = np := by omega
        have hsl := signF_len HNP.out s.data.toList
        have hln : s.data.toList.length = s.size := by simp
        have h1 := HN.out
        rw [hk'] at h1
        have HN' := Lib.hid (show n = (signF np s.data.toList).length by omega)
        have hCH := HCH.out
        rw [hk'] at hCH
        have HCH' := Lib.hid (show ch = false → signF np s.data.toList = s.data.toList from fun e => signF_same (by have := HNP.out; omega) _ (by have := hCH e; omega))
        have hn6 : n ≤ 12600000 := by have := HN6.out; have := HNP.out; omega
        clear hsl hln h1 hCH HN HCH HN6
        cases ch with
        | false =>
          have HSG := Lib.hid (HCH'.out rfl)
          clear HCH'
          go_wp2_with fail
          refine bodyPost_ret (v := .string s) (by simp [results, Try.results107, go_sem]) rfl ⟨by rw [HSG.out], HBB.out⟩
        | true =>
          clear HCH'
          obtain ⟨i0, hi0, hzz⟩ : ∃ i0, Try.prog.info? 5 = some i0 ∧ (i0.zero, i0.size, i0.bytes) = (some (.int .u8 0), 1, 1) := Option.map_eq_some_iff.1 (show (Try.prog.info? 5).map (fun i => (i.zero, i.size, i.bytes)) = some (some (.int .u8 0), 1, 1) by kernel_rfl)
          simp only [Prod.mk.injEq] at hzz
          obtain ⟨hz0, hz1, hz2⟩ := hzz
          have hrun := run_make (P := Try.prog) w 45 5 i0 (.int .u8 0) Try.underlying45 hi0 hz0 .i64 .i64 (n : Int) (n : Int) (by omega) (by omega) (by rw [hz2]; omega) (by omega)
          rw [hz1, Nat.mul_one] at hrun
          simp only [Int.toNat_natCast] at hrun
          clear hi0 hz0 hz1 hz2
          go_wp2_with fail
          clear hrun
          obtain ⟨g, hg⟩ : ∃ g, g = w.heap.size := ⟨_, rfl⟩
          have HB0 := Lib.hid (show Blk (w.alloc (.cells (madeCells (Value.int .u8 0).cells n) 5)) g (madeCells (Value.int .u8 0).cells n) 5 from Blk.alloc_at _ _ _ hg)
          have HW0 := Lib.hid (show Below w.heap.size w (w.alloc (.cells (madeCells (Value.int .u8 0).cells n) 5)) from (Below.refl _ _).alloc (Nat.le_refl _) _)
          have HG := Lib.hid hg
          rw [← hg]
          clear hg
          go_loopw [13, 14] (fun jv iv wr => ∃ (i j : Nat) (cur : Array Value), i ≤ s.size ∧ jv = .int .i64 (j : Int) ∧ iv = .int .i64 (i : Int) ∧ Hid (j = (signF np (s.data.toList.take i)).length) ∧ Hid (Blk wr g cur 5) ∧ Hid (cur.size = n) ∧ Hid (cur.toList.take j = by8 (signF np (s.data.toList.take i))) ∧ Hid (Below w.heap.size w wr)) (fun _ iv _ => s.size - (intOf iv).toNat)
          case atStart => exact ⟨0, 0, _, by omega, rfl, rfl, Lib.hid rfl, HB0, Lib.hid (size_madeCells _ _), Lib.hid rfl, HW0⟩
          case round =>
            clear HB0 HW0
            obtain ⟨i, j, cur, hi, rfl, rfl, HJ, HB, HC, HT, HW⟩ := hrel
            by_cases hlt : i < s.size
            · have v1 : (i : Int) < (s.size : Int) := by omega
              have v2 : (0 : Int) ≤ (i : Int) := by omega
              have HSU := Lib.hid (show signF np (s.data.toList.take (i + 1)) = _ from signF_succ (by simpa using hlt))
              have HLE := Lib.hid (signF_le (np := np) s.data.toList (i + 1))
              have hq2 : q < w.heap.size := HS.out.blk.lt
              have l0 : wr.cell? ⟨q, (s[i]'hlt).toNat, none⟩ = some (f (s[i]'hlt).toNat) := by rw [(HS.out.blk.below HW.out hq2).cell]; exact bsb_at (s[i]'hlt).toNat_lt
              have v5 : (((s[i]'hlt).toNat : Nat) : Int) < 256 := by have := (s[i]'hlt).toNat_lt; omega
              have v6 : (j : Int) ≤ 12600000 := by have := HJ.out; have := HN'.out; have := signF_le (np := np) s.data.toList i; omega
              have v7 : (0 : Int) ≤ (j : Int) := by omega
              rcases bs_or HS.out (s[i]'hlt) with ⟨a, h1, h2, g2, cap, cur2, fz, h3, h4, h5⟩ | ⟨h1, h2⟩
              · have HL0 := Lib.hid h3
                rw [h3] at l0
                have HSG := Lib.hid (show sg np (s[i]'hlt) = _ from sg_some (by have := HNP.out; omega) h1 h2)
                have hns := ns_size (a := a) (by have := HNP.out; omega)
                have HP4 := Lib.hid h4
                have HP5 := Lib.hid h5
                have v8 : (j : Int) ≤ (n : Int) := by have := HJ.out; have := HN'.out; have := signF_le (np := np) s.data.toList i; omega
                clear h1 h2 h3 h4 h5
                have hbl : (by8 (ns a).data.toList).length = (ns a).size := by simp [by8]
                have hjn : j + (ns a).size ≤ n := by
                  have h1 := HLE.out
                  rw [HSU.out, List.length_append, show sg np s.data.toList[i] = (ns a).data.toList from HSG.out] at h1
                  have h2 := HJ.out
                  have h3 := HN'.out
                  simp at h1
                  omega
                have hnj : ¬ n = j := by omega
                have HNS := Lib.hid hns
                have HJN := Lib.hid hjn
                have HBL := Lib.hid hbl
                obtain ⟨cur', hcur⟩ : ∃ c', c' = (cur.toList.take j ++ by8 (ns a).data.toList ++ cur.toList.drop (j + (by8 (ns a).data.toList).length)).toArray := ⟨_, rfl⟩
                have HCUR := Lib.hid hcur
                clear hns hjn hbl hcur
                have v9 : (((ns a).size : Nat) : Int) ≤ 6 := by have := HNS.out; omega
                have v10 : (0 : Int) ≤ (((ns a).size : Nat) : Int) := by omega
                go_upto_region 28 with (fail)
                have hC0 : CpC q g (BSB f (.slice (some ⟨g0, 0, none⟩) np c0)) cur cur' w 0 wr.drew := ⟨HB.out.drew, (HS.out.blk.below HW.out HS.out.blk.lt).drew, HW.out.trans ⟨rfl, rfl, rfl, Nat.le_refl _, fun _ _ => rfl⟩⟩
                have ne : Nonempty (Mix.Wd (CpC q g (BSB f (.slice (some ⟨g0, 0, none⟩) np c0)) cur cur' w) 0) := ⟨⟨wr.drew, 0, Nat.le_refl _, hC0⟩⟩
                have lx : ∀ x : Mix.Wd (CpC q g (BSB f (.slice (some ⟨g0, 0, none⟩) np c0)) cur cur' w) 0, x.1.cell? ⟨q, (s[i]'hlt).toNat, none⟩ = some (.slice (some ⟨g2, 0, none⟩) (ns a).size cap) := fun x => by
                  obtain ⟨k, _, hk⟩ := x.2
                  rw [hk.q.cell, bsb_at (s[i]'hlt).toNat_lt, HL0.out]
                refine Mix.wp_region_mix (C := CpC q g (BSB f (.slice (some ⟨g0, 0, none⟩) np c0)) cur cur' w) [10] (by kernel_rfl) (by kernel_rfl) hC0 ?_
                iterate 10 (refine Mix.mix_still (by decide) (fun K hK => ?_); go_simp; refine hK _ ?_; clear hK K)
                refine Mix.mix_turn (by decide) (fun K hK => ?_)
                go_simp
                refine ⟨.int .i64 ((ns a).size : Nat), fun yw hy => ?_, hK _ ?_⟩
                · have hcp := run_copy_row (P := Try.prog) yw 45 45 3 5 g j (n - j) (n - j) ⟨g2, 0, none⟩ (ns a).size cap cur 5 (by8 (ns a).data.toList) Try.underlying45 (by kernel_rfl) hy.1 (by rw [HBL.out]; show (ns a).size = min (ns a).size (n - j); have := HJN.out; omega) (fun k v hk => by
                    have e : (⟨g2, 0, none⟩ : Addr).add k = ⟨g2, k, none⟩ := by unfold Addr.add; split <;> simp_all
                    rw [e]
                    have hk' : k < (ns a).size := by
                      have := (List.getElem?_eq_some_iff.1 hk).1
                      rw [HBL.out] at this; exact this
                    have h1 := HP5.out k hk'
                    have h2 : g2 < w.heap.size := by
                      rcases Nat.lt_or_ge g2 w.heap.size with h | h
                      · exact h
                      · have := HP4.out
                        rw [Array.getElem?_eq_none h] at this; cases this
                    have h3 : yw.heap[g2]? = some (.cells cur2 5 fz) := (hy.2.2.block g2 h2).trans HP4.out
                    have h4 : yw.cell? ⟨g2, k, none⟩ = cur2[k]? := by simp [World.cell?, h3]
                    rw [h4, h1, ← hk]
                    unfold by8
                    rw [List.getElem?_map, List.getElem?_eq_getElem (by simpa using hk')]
                    rfl) (by rw [HBL.out, HC.out]; exact HJN.out) (fun v hv => by
                    unfold by8 at hv
                    rw [List.mem_map] at hv
                    obtain ⟨_, _, rfl⟩ := hv
                    rfl)
                  rw [hcp, HBL.out, ← HBL.out, ← HCUR.out]
                  refine ⟨by first | rfl | (rw [HBL.out]; rfl), setRow_heap yw g cur cur' 5 (0, 0) hy.1, hy.2.1.of_block (setRow_other _ _ _ _ (by have := HG.out; have := HS.out.blk.lt; omega)), hy.2.2.trans ⟨rfl, rfl, rfl, by simp [World.setRow], fun k hk => setRow_other _ _ _ _ (by have := HG.out; omega)⟩⟩
                clear hK K
                iterate 2 (refine Mix.mix_still (by decide) (fun K hK => ?_); go_simp; refine hK _ ?_; clear hK K)
                refine Mix.mix_nil ?_
                intro w6 hw6
                have HB6 := Lib.hid hw6.1
                have HW6 := Lib.hid hw6.2.2
                clear hw6 ne hC0 lx l0 HB HW
                show Exit.inBlock _ _ _ _ w6
                go_wp2_with fail
                go_roundw
                case rel =>
                  have hsz := HC.out
                  have hjn := HJN.out
                  have hbl := HBL.out
                  have hA : (cur.toList.take j).length = j := by simp; omega
                  have hww : IntKind.i64.wrap ((j : Int) + (((ns a).size : Nat) : Int)) = ((j + (ns a).size : Nat) : Int) := by rw [IntKind.wrap_i64]; omega
                  refine ⟨i + 1, j + (ns a).size, cur', by omega, by rw [hww], rfl, Lib.hid ?_, HB6, Lib.hid ?_, Lib.hid ?_, HW6⟩
                  · rw [HSU.out, show sg np s.data.toList[i] = (ns a).data.toList from HSG.out, List.length_append, ← HJ.out]
                    simp
                  · rw [HCUR.out, List.size_toArray, List.length_append, List.length_append, hA, hbl, List.length_drop]
                    simp
                    omega
                  · rw [HSU.out, show sg np s.data.toList[i] = (ns a).data.toList from HSG.out, HCUR.out]
                    show List.take (j + (ns a).size) (cur.toList.take j ++ by8 (ns a).data.toList ++ _) = _
                    rw [List.take_left' (by rw [List.length_append, hA, hbl]), HT.out]
                    unfold by8
                    rw [List.map_append]
                case measure => simp [intOf]; omega
              · rw [h2] at l0
                have HSG := Lib.hid (show sg np (s[i]'hlt) = _ from sg_none h1)
                have hjn : j < n := by
                  have h1 := HLE.out
                  have h2 := HJ.out
                  have h3 := HN'.out
                  rw [HSU.out, List.length_append, show sg np s.data.toList[i] = [s[i]] from HSG.out] at h1
                  simp at h1
                  omega
                have v8 : (j : Int) < (n : Int) := by omega
                have d0 : wr.cell? ⟨g, j, none⟩ = some (cur[j]'(by have := HC.out; omega)) := by rw [HB.out.cell]; simp
                have d1 := HB.out.free j
                clear h1 h2 hq2
                go_wp2_with fail
                go_roundw
                case rel =>
                  refine ⟨i + 1, j + 1, cur.setIfInBounds j (.int .u8 ((s[i]'hlt).toNat : Int)), by omega, rfl, rfl, Lib.hid ?_, Lib.hid (HB.out.set _ _), Lib.hid (by rw [Array.size_setIfInBounds]; exact HC.out), Lib.hid ?_, Lib.hid (HW.out.trans ⟨rfl, rfl, rfl, by simp [World.setCell], fun k hk => Below.heap_setCell _ _ _ _ (by show k ≠ g; have := HG.out; omega)⟩)⟩
                  · rw [HSU.out, show sg np s.data.toList[i] = [s[i]] from HSG.out, List.length_append, ← HJ.out]; rfl
                  · rw [HSU.out, show sg np s.data.toList[i] = [s[i]] from HSG.out, Array.toList_setIfInBounds, take_set _ _ _ (by have := HC.out; simp; omega), HT.out]
                    unfold by8
                    rw [List.map_append]
                    rfl
                case measure => simp [intOf]; omega
            · have v1 : ¬ (i : Int) < (s.size : Int) := by omega
              have hi'' : i = s.size := by omega
              have htk : s.data.toList.take i = s.data.toList := by rw [hi'']; exact List.take_of_length_le (by simp)
              have hJ := HJ.out
              have hT := HT.out
              rw [htk] at hJ hT
              have hjn : j = n := by rw [hJ]; exact HN'.out.symm
              have hcv := run_convert_bytes_back (P := Try.prog) wr 45 9 5 ⟨g, 0, none⟩ n (signF np s.data.toList) Try.underlying45 Try.underlying5 Try.underlying9 (fun k hk => by
                have e : (⟨g, 0, none⟩ : Addr).add k = ⟨g, k, none⟩ := by unfold Addr.add; split <;> simp_all
                rw [e, HB.out.cell]
                have h1 : (cur.toList.take j)[k]? = some (.int .u8 ((signF np s.data.toList)[k].toNat : Int)) := by rw [hT]; unfold by8; rw [List.getElem?_map, List.getElem?_eq_getElem hk]; rfl
                rw [List.getElem?_take_of_lt (by omega)] at h1
                simpa using h1)
              rw [← HN'.out] at hcv
              clear hJ hT htk hjn
              go_wp2_with fail
              refine bodyPost_ret (v := .string ⟨(signF np s.data.toList).toArray⟩) (by simp [results, Try.results107, go_sem]) rfl ⟨rfl, HBB.out.trans (HW.out.mono HBB.out.size)⟩
  · have u1 : (np : Int) * 8 ≤ (s.size : Int) ↔ False := by simp; omega
    have u2 : (np : Int) * 8 ≤ 32 := by have := HNP.out; omega
    have u3 : 0 ≤ (np : Int) * 8 := by omega
    have u4 : (s.size : Int) ≤ 600000 := by omega
    have HU := Lib.hid (And.intro u1 (And.intro u2 u3))
    go_enter Try.func107, Try.ntmps107
    go_wp2_with fail
    clear u1 u2 u3
    go_loopw [5, 6, 10] (fun nv bv iv wr => ∃ (i n : Nat) (ch : Bool), i ≤ s.size ∧ nv = .int .i64 (n : Int) ∧ bv = .bool ch ∧ iv = .int .i64 (i : Int) ∧ Hid (wr = w) ∧ Hid (n = (signF np (s.data.toList.take i)).length + (s.size - i)) ∧ Hid (n ≤ s.size + 5 * i) ∧ Hid (ch = false → signF np (s.data.toList.take i) = s.data.toList.take i)) (fun _ _ iv _ => s.size - (intOf iv).toNat)
    case atStart => exact ⟨0, s.size, false, by omega, rfl, rfl, rfl, by first | exact Lib.hid rfl | exact Lib.hid trivial, Lib.hid (by simp [signF]), Lib.hid (by omega), Lib.hid (fun _ => rfl)⟩
    case round =>
      obtain ⟨i, n, ch, hi, rfl, rfl, rfl, HWR, HN, HN6, HCH⟩ := hrel
      obtain rfl : w = wr := HWR.out.symm
      clear HWR
      by_cases hlt : i < s.size
      · have v1 : (i : Int) < (s.size : Int) := by omega
        have v2 : (0 : Int) ≤ (i : Int) := by omega
        have v3 : (n : Int) ≤ 3600000 := by have := HN6.out; omega
        have v4 : (0 : Int) ≤ (n : Int) := by omega
        have l0 : w.cell? ⟨q, (s[i]'hlt).toNat, none⟩ = some (f (s[i]'hlt).toNat) := by rw [HS.out.blk.cell]; exact bsb_at (s[i]'hlt).toNat_lt
        have v5 : (((s[i]'hlt).toNat : Nat) : Int) < 256 := by have := (s[i]'hlt).toNat_lt; omega
        have HSU := Lib.hid (show signF np (s.data.toList.take (i + 1)) = _ from signF_succ (by simpa using hlt))
        rcases bs_or HS.out (s[i]'hlt) with ⟨a, h1, h2, g, cap, cur, fz, h3, h4, h5⟩ | ⟨h1, h2⟩
        · rw [h3] at l0
          have HSG := Lib.hid (show sg np (s[i]'hlt) = _ from sg_some (by have := HNP.out; omega) h1 h2)
          have hns := ns_size (a := a) (by have := HNP.out; omega)
          have v6 : 4 ≤ (((ns a).size : Nat) : Int) := by omega
          have v7 : (((ns a).size : Nat) : Int) ≤ 6 := by omega
          clear h1 h2 h3 h4 h5 hns
          go_wp2_with fail
          go_roundw
          case rel =>
            refine ⟨i + 1, n + (ns a).size - 1, true, by omega, by congr 1; omega, rfl, rfl, by first | exact Lib.hid rfl | exact Lib.hid trivial, Lib.hid ?_, Lib.hid ?_, Lib.hid (fun e => by cases e)⟩
            · have h1 := HSU.out
              have h2 : sg np s.data.toList[i] = (ns a).data.toList := HSG.out
              have h3 := HN.out
              rw [h1, h2, List.length_append]
              have h4 : (ns a).data.toList.length = (ns a).size := by simp
              omega
            · have := HN6.out; omega
          case measure => simp [intOf]; omega
        · rw [h2] at l0
          have HSG := Lib.hid (show sg np (s[i]'hlt) = _ from sg_none h1)
          clear h1 h2
          go_wp2_with fail
          go_roundw
          case rel =>
            refine ⟨i + 1, n, ch, by omega, rfl, rfl, rfl, by first | exact Lib.hid rfl | exact Lib.hid trivial, Lib.hid ?_, Lib.hid ?_, Lib.hid (fun e => ?_)⟩
            · have h1 := HSU.out
              have h2 : sg np s.data.toList[i] = [s[i]] := HSG.out
              have h3 := HN.out
              rw [h1, h2, List.length_append]
              simp
              omega
            · have := HN6.out; omega
            · have h1 := HSU.out
              have h2 : sg np s.data.toList[i] = [s[i]] := HSG.out
              rw [h1, h2, HCH.out e, List.take_succ_eq_append_getElem (by simpa using hlt)]
              rfl
          case measure => simp [intOf]; omega
      · have v1 : ¬ (i : Int) < (s.size : Int) := by omega
        have hi' : i = s.size := by omega
        have htk : s.data.toList.take i = s.data.toList := by rw [hi']; exact List.take_of_length_le (by simp)
        have hN := HN.out
        have hCH := HCH.out
        rw [htk] at hN hCH
        have HN' := Lib.hid (show n = (signF np s.data.toList).length by omega)
        have HCH' := Lib.hid hCH
        have hn6 : n ≤ 3600000 := by have := HN6.out; omega
        clear hN hCH HN HCH htk HN6
        cases ch with
        | false =>
          have HSG := Lib.hid (HCH'.out rfl)
          clear HCH'
          go_wp2_with fail
          refine bodyPost_ret (v := .string s) (by simp [results, Try.results107, go_sem]) rfl ⟨by rw [HSG.out], Below.refl _ _⟩
        | true =>
          clear HCH'
          obtain ⟨i0, hi0, hzz⟩ : ∃ i0, Try.prog.info? 5 = some i0 ∧ (i0.zero, i0.size, i0.bytes) = (some (.int .u8 0), 1, 1) := Option.map_eq_some_iff.1 (show (Try.prog.info? 5).map (fun i => (i.zero, i.size, i.bytes)) = some (some (.int .u8 0), 1, 1) by kernel_rfl)
          simp only [Prod.mk.injEq] at hzz
          obtain ⟨hz0, hz1, hz2⟩ := hzz
          have hrun := run_make (P := Try.prog) w 45 5 i0 (.int .u8 0) Try.underlying45 hi0 hz0 .i64 .i64 (n : Int) (n : Int) (by omega) (by omega) (by rw [hz2]; omega) (by omega)
          rw [hz1, Nat.mul_one] at hrun
          simp only [Int.toNat_natCast] at hrun
          clear hi0 hz0 hz1 hz2
          go_wp2_with fail
          clear hrun
          obtain ⟨g, hg⟩ : ∃ g, g = w.heap.size := ⟨_, rfl⟩
          have HB0 := Lib.hid (show Blk (w.alloc (.cells (madeCells (Value.int .u8 0).cells n) 5)) g (madeCells (Value.int .u8 0).cells n) 5 from Blk.alloc_at _ _ _ hg)
          have HW0 := Lib.hid (show Below w.heap.size w (w.alloc (.cells (madeCells (Value.int .u8 0).cells n) 5)) from (Below.refl _ _).alloc (Nat.le_refl _) _)
          have HG := Lib.hid hg
          rw [← hg]
          clear hg
          go_loopw [13, 14] (fun jv iv wr => ∃ (i j : Nat) (cur : Array Value), i ≤ s.size ∧ jv = .int .i64 (j : Int) ∧ iv = .int .i64 (i : Int) ∧ Hid (j = (signF np (s.data.toList.take i)).length) ∧ Hid (Blk wr g cur 5) ∧ Hid (cur.size = n) ∧ Hid (cur.toList.take j = by8 (signF np (s.data.toList.take i))) ∧ Hid (Below w.heap.size w wr)) (fun _ iv _ => s.size - (intOf iv).toNat)
          case atStart => exact ⟨0, 0, _, by omega, rfl, rfl, Lib.hid rfl, HB0, Lib.hid (size_madeCells _ _), Lib.hid rfl, HW0⟩
          case round =>
            clear HB0 HW0
            obtain ⟨i, j, cur, hi, rfl, rfl, HJ, HB, HC, HT, HW⟩ := hrel
            by_cases hlt : i < s.size
            · have v1 : (i : Int) < (s.size : Int) := by omega
              have v2 : (0 : Int) ≤ (i : Int) := by omega
              have HSU := Lib.hid (show signF np (s.data.toList.take (i + 1)) = _ from signF_succ (by simpa using hlt))
              have HLE := Lib.hid (signF_le (np := np) s.data.toList (i + 1))
              have hq2 : q < w.heap.size := HS.out.blk.lt
              have l0 : wr.cell? ⟨q, (s[i]'hlt).toNat, none⟩ = some (f (s[i]'hlt).toNat) := by rw [(HS.out.blk.below HW.out hq2).cell]; exact bsb_at (s[i]'hlt).toNat_lt
              have v5 : (((s[i]'hlt).toNat : Nat) : Int) < 256 := by have := (s[i]'hlt).toNat_lt; omega
              have v6 : (j : Int) ≤ 3600000 := by have := HJ.out; have := HN'.out; have := signF_le (np := np) s.data.toList i; omega
              have v7 : (0 : Int) ≤ (j : Int) := by omega
              rcases bs_or HS.out (s[i]'hlt) with ⟨a, h1, h2, g2, cap, cur2, fz, h3, h4, h5⟩ | ⟨h1, h2⟩
              · have HL0 := Lib.hid h3
                rw [h3] at l0
                have HSG := Lib.hid (show sg np (s[i]'hlt) = _ from sg_some (by have := HNP.out; omega) h1 h2)
                have hns := ns_size (a := a) (by have := HNP.out; omega)
                have HP4 := Lib.hid h4
                have HP5 := Lib.hid h5
                have v8 : (j : Int) ≤ (n : Int) := by have := HJ.out; have := HN'.out; have := signF_le (np := np) s.data.toList i; omega
                clear h1 h2 h3 h4 h5
                have hbl : (by8 (ns a).data.toList).length = (ns a).size := by simp [by8]
                have hjn : j + (ns a).size ≤ n := by
                  have h1 := HLE.out
                  rw [HSU.out, List.length_append, show sg np s.data.toList[i] = (ns a).data.toList from HSG.out] at h1
                  have h2 := HJ.out
                  have h3 := HN'.out
                  simp at h1
                  omega
                have hnj : ¬ n = j := by omega
                have HNS := Lib.hid hns
                have HJN := Lib.hid hjn
                have HBL := Lib.hid hbl
                obtain ⟨cur', hcur⟩ : ∃ c', c' = (cur.toList.take j ++ by8 (ns a).data.toList ++ cur.toList.drop (j + (by8 (ns a).data.toList).length)).toArray := ⟨_, rfl⟩
                have HCUR := Lib.hid hcur
                clear hns hjn hbl hcur
                have v9 : (((ns a).size : Nat) : Int) ≤ 6 := by have := HNS.out; omega
                have v10 : (0 : Int) ≤ (((ns a).size : Nat) : Int) := by omega
                go_upto_region 28 with (fail)
                have hC0 : CpC q g (BSB f (.slice A0 np c0)) cur cur' w 0 wr.drew := ⟨HB.out.drew, (HS.out.blk.below HW.out HS.out.blk.lt).drew, HW.out.trans ⟨rfl, rfl, rfl, Nat.le_refl _, fun _ _ => rfl⟩⟩
                have ne : Nonempty (Mix.Wd (CpC q g (BSB f (.slice A0 np c0)) cur cur' w) 0) := ⟨⟨wr.drew, 0, Nat.le_refl _, hC0⟩⟩
                have lx : ∀ x : Mix.Wd (CpC q g (BSB f (.slice A0 np c0)) cur cur' w) 0, x.1.cell? ⟨q, (s[i]'hlt).toNat, none⟩ = some (.slice (some ⟨g2, 0, none⟩) (ns a).size cap) := fun x => by
                  obtain ⟨k, _, hk⟩ := x.2
                  rw [hk.q.cell, bsb_at (s[i]'hlt).toNat_lt, HL0.out]
                refine Mix.wp_region_mix (C := CpC q g (BSB f (.slice A0 np c0)) cur cur' w) [10] (by kernel_rfl) (by kernel_rfl) hC0 ?_
                iterate 10 (refine Mix.mix_still (by decide) (fun K hK => ?_); go_simp; refine hK _ ?_; clear hK K)
                refine Mix.mix_turn (by decide) (fun K hK => ?_)
                go_simp
                refine ⟨.int .i64 ((ns a).size : Nat), fun yw hy => ?_, hK _ ?_⟩
                · have hcp := run_copy_row (P := Try.prog) yw 45 45 3 5 g j (n - j) (n - j) ⟨g2, 0, none⟩ (ns a).size cap cur 5 (by8 (ns a).data.toList) Try.underlying45 (by kernel_rfl) hy.1 (by rw [HBL.out]; show (ns a).size = min (ns a).size (n - j); have := HJN.out; omega) (fun k v hk => by
                    have e : (⟨g2, 0, none⟩ : Addr).add k = ⟨g2, k, none⟩ := by unfold Addr.add; split <;> simp_all
                    rw [e]
                    have hk' : k < (ns a).size := by
                      have := (List.getElem?_eq_some_iff.1 hk).1
                      rw [HBL.out] at this; exact this
                    have h1 := HP5.out k hk'
                    have h2 : g2 < w.heap.size := by
                      rcases Nat.lt_or_ge g2 w.heap.size with h | h
                      · exact h
                      · have := HP4.out
                        rw [Array.getElem?_eq_none h] at this; cases this
                    have h3 : yw.heap[g2]? = some (.cells cur2 5 fz) := (hy.2.2.block g2 h2).trans HP4.out
                    have h4 : yw.cell? ⟨g2, k, none⟩ = cur2[k]? := by simp [World.cell?, h3]
                    rw [h4, h1, ← hk]
                    unfold by8
                    rw [List.getElem?_map, List.getElem?_eq_getElem (by simpa using hk')]
                    rfl) (by rw [HBL.out, HC.out]; exact HJN.out) (fun v hv => by
                    unfold by8 at hv
                    rw [List.mem_map] at hv
                    obtain ⟨_, _, rfl⟩ := hv
                    rfl)
                  rw [hcp, HBL.out, ← HBL.out, ← HCUR.out]
                  refine ⟨by first | rfl | (rw [HBL.out]; rfl), setRow_heap yw g cur cur' 5 (0, 0) hy.1, hy.2.1.of_block (setRow_other _ _ _ _ (by have := HG.out; have := HS.out.blk.lt; omega)), hy.2.2.trans ⟨rfl, rfl, rfl, by simp [World.setRow], fun k hk => setRow_other _ _ _ _ (by have := HG.out; omega)⟩⟩
                clear hK K
                iterate 2 (refine Mix.mix_still (by decide) (fun K hK => ?_); go_simp; refine hK _ ?_; clear hK K)
                refine Mix.mix_nil ?_
                intro w6 hw6
                have HB6 := Lib.hid hw6.1
                have HW6 := Lib.hid hw6.2.2
                clear hw6 ne hC0 lx l0 HB HW
                show Exit.inBlock _ _ _ _ w6
                go_wp2_with fail
                go_roundw
                case rel =>
                  have hsz := HC.out
                  have hjn := HJN.out
                  have hbl := HBL.out
                  have hA : (cur.toList.take j).length = j := by simp; omega
                  have hww : IntKind.i64.wrap ((j : Int) + (((ns a).size : Nat) : Int)) = ((j + (ns a).size : Nat) : Int) := by rw [IntKind.wrap_i64]; omega
                  refine ⟨i + 1, j + (ns a).size, cur', by omega, by rw [hww], rfl, Lib.hid ?_, HB6, Lib.hid ?_, Lib.hid ?_, HW6⟩
                  · rw [HSU.out, show sg np s.data.toList[i] = (ns a).data.toList from HSG.out, List.length_append, ← HJ.out]
                    simp
                  · rw [HCUR.out, List.size_toArray, List.length_append, List.length_append, hA, hbl, List.length_drop]
                    simp
                    omega
                  · rw [HSU.out, show sg np s.data.toList[i] = (ns a).data.toList from HSG.out, HCUR.out]
                    show List.take (j + (ns a).size) (cur.toList.take j ++ by8 (ns a).data.toList ++ _) = _
                    rw [List.take_left' (by rw [List.length_append, hA, hbl]), HT.out]
                    unfold by8
                    rw [List.map_append]
                case measure => simp [intOf]; omega
              · rw [h2] at l0
                have HSG := Lib.hid (show sg np (s[i]'hlt) = _ from sg_none h1)
                have hjn : j < n := by
                  have h1 := HLE.out
                  have h2 := HJ.out
                  have h3 := HN'.out
                  rw [HSU.out, List.length_append, show sg np s.data.toList[i] = [s[i]] from HSG.out] at h1
                  simp at h1
                  omega
                have v8 : (j : Int) < (n : Int) := by omega
                have d0 : wr.cell? ⟨g, j, none⟩ = some (cur[j]'(by have := HC.out; omega)) := by rw [HB.out.cell]; simp
                have d1 := HB.out.free j
                clear h1 h2 hq2
                go_wp2_with fail
                go_roundw
                case rel =>
                  refine ⟨i + 1, j + 1, cur.setIfInBounds j (.int .u8 ((s[i]'hlt).toNat : Int)), by omega, rfl, rfl, Lib.hid ?_, Lib.hid (HB.out.set _ _), Lib.hid (by rw [Array.size_setIfInBounds]; exact HC.out), Lib.hid ?_, Lib.hid (HW.out.trans ⟨rfl, rfl, rfl, by simp [World.setCell], fun k hk => Below.heap_setCell _ _ _ _ (by show k ≠ g; have := HG.out; omega)⟩)⟩
                  · rw [HSU.out, show sg np s.data.toList[i] = [s[i]] from HSG.out, List.length_append, ← HJ.out]; rfl
                  · rw [HSU.out, show sg np s.data.toList[i] = [s[i]] from HSG.out, Array.toList_setIfInBounds, take_set _ _ _ (by have := HC.out; simp; omega), HT.out]
                    unfold by8
                    rw [List.map_append]
                    rfl
                case measure => simp [intOf]; omega
            · have v1 : ¬ (i : Int) < (s.size : Int) := by omega
              have hi'' : i = s.size := by omega
              have htk : s.data.toList.take i = s.data.toList := by rw [hi'']; exact List.take_of_length_le (by simp)
              have hJ := HJ.out
              have hT := HT.out
              rw [htk] at hJ hT
              have hjn : j = n := by rw [hJ]; exact HN'.out.symm
              have hcv := run_convert_bytes_back (P := Try.prog) wr 45 9 5 ⟨g, 0, none⟩ n (signF np s.data.toList) Try.underlying45 Try.underlying5 Try.underlying9 (fun k hk => by
                have e : (⟨g, 0, none⟩ : Addr).add k = ⟨g, k, none⟩ := by unfold Addr.add; split <;> simp_all
                rw [e, HB.out.cell]
                have h1 : (cur.toList.take j)[k]? = some (.int .u8 ((signF np s.data.toList)[k].toNat : Int)) := by rw [hT]; unfold by8; rw [List.getElem?_map, List.getElem?_eq_getElem hk]; rfl
                rw [List.getElem?_take_of_lt (by omega)] at h1
                simpa using h1)
              rw [← HN'.out] at hcv
              clear hJ hT htk hjn
              go_wp2_with fail
              refine bodyPost_ret (v := .string ⟨(signF np s.data.toList).toArray⟩) (by simp [results, Try.results107, go_sem]) rfl ⟨rfl, HW.out⟩
end Go.Proofs.Ytkjgnkmnngaioaa.Q
