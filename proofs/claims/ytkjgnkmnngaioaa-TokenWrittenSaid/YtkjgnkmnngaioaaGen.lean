/- 'strings.makeGenericReplacer', of the four signs that a text may hold: the trie that it builds. -/
import Derived.Test.YtkjgnkmnngaioaaStep
namespace Go.Proofs.Ytkjgnkmnngaioaa.Q
open Go.RowKit Go.IntWalk Go.Proofs.Ytkjgnkmnngaioaa.Mem
set_option linter.unusedVariables false
set_option linter.unusedSimpArgs false

set_option maxRecDepth 100000 in
set_option maxHeartbeats 1600000 in
theorem gen_calls (ob c : Nat) (w : World) (hK : ∀ a, a < 4 → w.cell? ⟨ob, 2 * a, none⟩ = some (.string (ks a)) ∧ w.cell? ⟨ob, 2 * a + 1, none⟩ = some (.string (vs a))) :
    Calls Try.prog 38 #[.slice (some ⟨ob, 0, none⟩) 8 c] w fun e w' => e = .returned (.pointer (some ⟨w.heap.size, 0, none⟩)) ∧ TrS 4 w.heap.size w' ∧ Below w.heap.size w w' := by
  have HK := Lib.hid hK
  clear hK
  go_enter Try.func38, Try.ntmps38
  go_upto_region 2 with (fail)
  have hB1 : Blk (w.alloc (.cells Try.zeroCells112 112)) w.heap.size (GB (.slice none 0 0) 0 (marks (kbs 0))) 112 := by
    have := Blk.alloc w Try.zeroCells112 112
    rw [gb_zero] at this ⊢
    exact this
  have HB1 := Lib.hid hB1
  have HW1 := Lib.hid ((Below.refl w.heap.size w).alloc (Nat.le_refl _) (.cells Try.zeroCells112 112))
  have HS1 := Lib.hid (show (w.alloc (.cells Try.zeroCells112 112)).heap.size = w.heap.size + 1 by simp)
  clear hB1
  obtain ⟨g, hg⟩ : ∃ g, g = w.heap.size := ⟨_, rfl⟩
  rw [← hg] at HB1 HS1 ⊢
  have HG := Lib.hid hg
  clear hg
  generalize w.alloc (.cells Try.zeroCells112 112) = W1 at HB1 HW1 HS1 ⊢
  go_wp2_with fail
  go_loopw [4] (fun iv wr => ∃ a ia : Nat, Hid (ia = 2 * a) ∧ ia ≤ 8 ∧ iv = .int .i64 (ia : Int) ∧ Hid (Blk wr g (GB (.slice none 0 0) 0 (marks (kbs a))) 112) ∧ Hid (Below w.heap.size w wr) ∧ Hid (wr.heap.size = g + 1)) (fun iv _ => 8 - (intOf iv).toNat)
  case atStart => exact ⟨0, 0, Lib.hid rfl, by omega, rfl, HB1, HW1, HS1⟩
  case round =>
    clear HB1 HW1 HS1
    obtain ⟨a, ia, HIA, hi8, rfl, HB, HW, HS⟩ := hrel
    by_cases hi : ia < 8
    · have h4 : a < 4 := by have := HIA.out; omega
      have hk0 : wr.cell? ⟨ob, ia, none⟩ = some (.string (ks a)) := by rw [HIA.out]; exact (HW.out.cell (World.block_lt_of_cell? w _ (HK.out a h4).1)).trans (HK.out a h4).1
      have u1 : (ia : Int) < 8 := by omega
      have u2 : (0 : Int) ≤ (ia : Int) := by omega
      have HKB := Lib.hid (kbs_succ h4)
      have HKS := Lib.hid (ks_size h4)
      generalize ks a = key at HKB HKS hk0
      have hks : key.size ≤ 1000 := HKS.out
      go_wp2_with fail
      go_loopw [6] (fun jv wr => ∃ j : Nat, j ≤ key.size ∧ jv = .int .i64 j ∧ Hid (Blk wr g (GB (.slice none 0 0) 0 (marks (kbs a ++ key.data.toList.take j))) 112) ∧ Hid (Below w.heap.size w wr) ∧ Hid (wr.heap.size = g + 1)) (fun jv _ => key.size - (intOf jv).toNat)
      case atStart => exact ⟨0, by omega, rfl, by rw [List.take_zero, List.append_nil]; exact HB, HW, HS⟩
      case round =>
        clear HB HW HS
        obtain ⟨j, hj, rfl, HB, HW, HS⟩ := hrel
        by_cases hlt : j < key.size
        · have x1 : (j : Int) < (key.size : Int) := by omega
          have x2 : (0 : Int) ≤ (j : Int) := by omega
          have x3 : (key[j].toNat : Int) < 256 := by have := key[j].toNat_lt; omega
          have HM := Lib.hid (show marks (kbs a ++ key.data.toList.take (j + 1)) = (marks (kbs a ++ key.data.toList.take j)).set key[j].toNat 1 by rw [take_snoc' hlt, ← List.append_assoc, marks_snoc])
          have hc := HB.out.drew.cell (6 + key[j].toNat)
          rw [gb_map (by rw [marks_len]; omega)] at hc
          have hz := HB.out.drew.free (6 + key[j].toNat)
          go_upto_region 9 with (fail)
          go_still_tail 7, (by kernel_rfl)
          change wpList _ _ _ _ _ wr.drew
          have HB2 := Lib.hid (HB.out.drew.set (6 + key[j].toNat) (.int .u8 1))
          have HW2 := Lib.hid (below_drewN HW.out 1)
          have HS2 := Lib.hid (show wr.drew.heap.size = g + 1 from HS.out)
          change Hid (Below w.heap.size w wr.drew) at HW2
          generalize wr.drew = W2 at HB2 HW2 HS2 hc hz ⊢
          clear HB HW HS
          go_wp2_with fail
          clear hc hz
          go_roundw
          case rel =>
            refine ⟨j + 1, by omega, by go_num, ?_, ?_, ?_⟩
            · rw [HM.out, ← gb_set]; exact HB2
            · exact Lib.hid (HW2.out.setCell (Nat.le_of_eq HG.out.symm) _)
            · exact Lib.hid ((size_set _ _ _).trans HS2.out)
          case measure => simp [intOf]; omega
        · have x1 : ¬ (j : Int) < (key.size : Int) := by omega
          have hjj : j = key.size := by omega
          have HB2 := Lib.hid (show Blk wr g (GB (.slice none 0 0) 0 (marks (kbs (a + 1)))) 112 by
            have := HB.out
            rw [hjj, List.take_of_length_le (by simp), ← HKB.out] at this
            exact this)
          clear HB hjj
          go_wp2_with fail
          go_roundw
          case rel => exact ⟨a + 1, ia + 2, Lib.hid (by have := HIA.out; omega), by have := HIA.out; omega, by go_num, HB2, HW, HS⟩
          case measure => simp [intOf]; omega
    · have h4 : a = 4 := by have := HIA.out; omega
      have u1 : ¬ (ia : Int) < 8 := by omega
      have HB1 := Lib.hid (show Blk wr g (GB (.slice none 0 0) 0 (marks (kbs 4))) 112 by rw [← h4]; exact HB.out)
      clear h4 HB HIA
      go_upto_region 10 with (fail)
      have HM := Lib.hid (marks_len (kbs 4))
      have HM01 := Lib.hid (marks_01 (kbs 4))
      have HMC := Lib.hid (show marks (kbs 4) = marks (kbs 4) from rfl)
      generalize hMM : marks (kbs 4) = M at HB1 HM HM01 ⊢
      have HMM := Lib.hid hMM
      clear hMM HMC
      have hr : wr.rangeAt g 6 (M.map fun x => Value.int .u8 x) := gb_range HB1.out
      have hi : (Try.prog.info? 87).map (·.size) = some (M.map fun x => Value.int .u8 x).length := by rw [List.length_map, HM.out]; kernel_rfl
      have HR := Lib.hid hr
      have HI := Lib.hid hi
      clear hr hi
      go_upto_region 11 with (refine wpList_load_mid (op := ⟨some 40, _, _, _, _, _⟩) rfl 87 (.tmp 39) rfl g 6 rfl _ _ HR.out Try.underlying87 rfl HI.out ?_)
      clear HR HI
      have ha : ∀ k, k < 256 → (M.map fun x => Value.int .u8 x).toArray[k]? = some (.int .u8 (M.getD k 0)) := fun k hk => by
        rw [List.getElem?_toArray, List.getElem?_map, List.getElem?_eq_getElem (by have := HM.out; omega), List.getD_eq_getElem?_getD, List.getElem?_eq_getElem (by have := HM.out; omega)]
        rfl
      have HA := Lib.hid ha
      clear ha
      generalize (M.map fun x => Value.int .u8 x).toArray = AM at HA ⊢
      go_loopw [41] (fun kv wr => ∃ k : Nat, k ≤ 256 ∧ kv = .int .i64 k ∧ Hid (Blk wr g (GB (.slice none 0 0) (sm M k) M) 112) ∧ Hid (Below w.heap.size w wr) ∧ Hid (wr.heap.size = g + 1)) (fun kv _ => 256 - (intOf kv).toNat)
      case atStart => exact ⟨0, by omega, rfl, HB1, HW, HS⟩
      case round =>
        clear HB1 HW HS
        obtain ⟨k, hk, rfl, HB, HW, HS⟩ := hrel
        by_cases hlt : k < 256
        · have x1 : (k : Int) < 256 := by omega
          have x2 : (0 : Int) ≤ (k : Int) := by omega
          have hx := idx_agg AM k _ hlt (HA.out k hlt)
          have HN := Lib.hid (sm_succ (M := M) (k := k) (by have := HM.out; omega))
          have c5 : wr.cell? ⟨g, 5, none⟩ = some (.int .i64 (sm M k)) := (HB.out.cell 5).trans (by simp [GB])
          have f5 := HB.out.free 5
          have hb := sm_le HM01.out k (by have := HM.out; omega)
          have hm := HM01.out k
          generalize M.getD k 0 = b at hx HN hm
          have hb1 : 0 ≤ b ∧ b ≤ 1 := by omega
          have HB2 := Lib.hid (HB.out.set 5 (.int .i64 (sm M k + b)))
          clear hm
          generalize sm M k = t at c5 HN hb HB2
          obtain ⟨hb2, hb3⟩ := hb1
          obtain ⟨hb4, hb5⟩ := hb
          have hb6 : t ≤ 256 := by omega
          clear hb5
          go_upto_region 14 with (fail)
          have HS2 := Lib.hid ((size_set wr ⟨g, 5, none⟩ (.int .i64 (t + b))).trans HS.out)
          have HW2 := Lib.hid (show Below w.heap.size w (wr.setCell ⟨g, 5, none⟩ (.int .i64 (t + b))) from HW.out.setCell (Nat.le_of_eq HG.out.symm) _)
          clear c5 f5 HB HS HW hx
          rw [gb_ts] at HB2
          generalize wr.setCell ⟨g, 5, none⟩ (.int .i64 (t + b)) = W2 at HB2 HS2 HW2 ⊢
          go_wp2_with fail
          go_roundw
          case rel => exact ⟨k + 1, by omega, by go_num, by rw [HN.out]; exact HB2, HW2, HS2⟩
          case measure => simp [intOf]; omega
        · have x1 : ¬ (k : Int) < 256 := by omega
          have hk2 : k = 256 := by omega
          have HB2 := Lib.hid (show Blk wr g (GB (.slice none 0 0) 11 M) 112 by
            have := HB.out
            rw [hk2, ← HMM.out, marks_11, HMM.out] at this
            exact this)
          clear hk2 HB HA
          go_upto_region 16 with (fail)
          have hr : wr.rangeAt g 6 (M.map fun x => Value.int .u8 x) := gb_range HB2.out
          have hi : (Try.prog.info? 87).map (·.size) = some (M.map fun x => Value.int .u8 x).length := by rw [List.length_map, HM.out]; kernel_rfl
          have HR := Lib.hid hr
          have HI := Lib.hid hi
          clear hr hi
          go_upto_region 17 with (refine wpList_load_mid (op := ⟨some 57, _, _, _, _, _⟩) rfl 87 (.tmp 56) rfl g 6 rfl _ _ HR.out Try.underlying87 rfl HI.out ?_)
          clear HR HI
          have ha : ∀ k, k < 256 → (M.map fun x => Value.int .u8 x).toArray[k]? = some (.int .u8 (M.getD k 0)) := fun k hk => by
            rw [List.getElem?_toArray, List.getElem?_map, List.getElem?_eq_getElem (by have := HM.out; omega), List.getD_eq_getElem?_getD, List.getElem?_eq_getElem (by have := HM.out; omega)]
            rfl
          have HA := Lib.hid ha
          clear ha
          generalize (M.map fun x => Value.int .u8 x).toArray = AM2 at HA ⊢
          go_loopw [9, 58] (fun xv kv wr => ∃ k : Nat, k ≤ 256 ∧ xv = .int .u8 (sm M k) ∧ kv = .int .i64 k ∧ Hid (Blk wr g (GB (.slice none 0 0) 11 (mp2 M k)) 112) ∧ Hid (Below w.heap.size w wr) ∧ Hid (wr.heap.size = g + 1)) (fun _ kv _ => 256 - (intOf kv).toNat)
          case atStart => exact ⟨0, by omega, by simp [sm], rfl, by rw [mp2_zero HM.out]; exact HB2, HW, HS⟩
          case round =>
            clear HB2 HW HS x1
            obtain ⟨k, hk, rfl, rfl, HB, HW, HS⟩ := hrel
            by_cases hlt : k < 256
            · have x1 : (k : Int) < 256 := by omega
              have x2 : (0 : Int) ≤ (k : Int) := by omega
              have hx := idx_agg AM2 k _ hlt (HA.out k hlt)
              have HN := Lib.hid (sm_succ (M := M) (k := k) (by have := HM.out; omega))
              have HM2 := Lib.hid (mp2_succ (M := M) hlt)
              have ck := HB.out.cell (6 + k)
              rw [gb_map (by rw [mp2_len]; omega), mp2_at hlt] at ck
              have fk := HB.out.free (6 + k)
              have c5 : wr.cell? ⟨g, 5, none⟩ = some (.int .i64 11) := HB.out.cell 5
              have hb := sm_le HM01.out k (by have := HM.out; omega)
              have hb7 : sm M k ≤ 11 := by
                have h1 := sm_mono HM01.out (k := k) (n := 256) hk (by have := HM.out; omega)
                have h2 := marks_11
                rw [HMM.out] at h2
                omega
              have hm := HM01.out k
              rcases hm with hm | hm
              · rw [hm] at hx HN ck HM2
                have HM3 := Lib.hid (HM2.out.trans (by rw [if_pos rfl]))
                have dk : wr.drew.cell? ⟨g, 6 + k, none⟩ = some (.int .u8 0) := ck
                have df : wr.drew.frozen? ⟨g, 6 + k, none⟩ = false := fk
                go_upto_region 20 with (fail)
                clear ck fk hx
                go_still_tail 10, (by kernel_rfl)
                change wpList _ _ _ _ _ wr.drew
                have HB2 := Lib.hid (HB.out.drew.set (6 + k) (.int .u8 11))
                have HW2 := Lib.hid (show Below w.heap.size w wr.drew from below_drewN HW.out 1)
                have HS2 := Lib.hid (show wr.drew.heap.size = g + 1 from HS.out)
                clear c5 HB HW HS
                rw [gb_set] at HB2
                generalize wr.drew = W2 at HB2 HW2 HS2 dk df ⊢
                go_wp2_with fail
                clear dk df
                go_roundw
                case rel =>
                  refine ⟨k + 1, by omega, by rw [HN.out, Int.add_zero], by go_num, ?_, ?_, ?_⟩
                  · rw [HM3.out]; exact HB2
                  · exact Lib.hid (HW2.out.setCell (Nat.le_of_eq HG.out.symm) _)
                  · exact Lib.hid ((size_set _ _ _).trans HS2.out)
                case measure => simp [intOf]; omega
              · rw [hm] at hx HN ck HM2
                have HM3 := Lib.hid (HM2.out.trans (by rw [if_neg (by decide)]))
                have hb0 := hb.1
                have hb8 : 0 ≤ sm M k + 1 ∧ sm M k + 1 ≤ 12 := by omega
                clear hb
                generalize hT : sm M k = t at *
                go_upto_region 22 with (fail)
                have HB2 := Lib.hid (HB.out.set (6 + k) (.int .u8 t))
                have HW2 := Lib.hid (show Below w.heap.size w (wr.setCell ⟨g, 6 + k, none⟩ (.int .u8 t)) from HW.out.setCell (Nat.le_of_eq HG.out.symm) _)
                have HS2 := Lib.hid ((size_set wr ⟨g, 6 + k, none⟩ (.int .u8 t)).trans HS.out)
                rw [gb_set] at HB2
                clear c5 HB HW HS ck fk hx
                generalize wr.setCell ⟨g, 6 + k, none⟩ (.int .u8 t) = W2 at HB2 HW2 HS2 ⊢
                go_wp2_with fail
                go_roundw
                case rel =>
                  refine ⟨k + 1, by omega, by rw [HN.out], by go_num, ?_, HW2, HS2⟩
                  rw [HM3.out]; exact HB2
                case measure => simp [intOf]; omega
            · have x1 : ¬ (k : Int) < 256 := by omega
              have hk2 : k = 256 := by omega
              have HB2 := Lib.hid (show Blk wr g (GB (.slice none 0 0) 11 MP) 112 by
                have := HB.out
                rw [hk2, ← HMM.out, ← mp_def] at this
                exact this)
              clear hk2 HB HA HMM HM HM01
              go_upto_region 24 with (fail)
              have c5 : wr.cell? ⟨g, 5, none⟩ = some (.int .i64 11) := (HB2.out.cell 5).trans gb_5
              have hmk := mk11
              have d4 : ∀ o, (wr.alloc o).cell? ⟨g, 4, none⟩ = some nl := fun o => ((HB2.out.alloc_old o).cell 4).trans gb_4
              have d5 : ∀ o, (wr.alloc o).frozen? ⟨g, 4, none⟩ = false := fun o => (HB2.out.alloc_old o).free 4
              go_upto_region 25 with (fail)
              have HS3 := HS.out
              have HT0 := Lib.hid (show TrS 0 g ((wr.alloc (.cells P11 107)).setCell ⟨g, 4, none⟩ (.slice (some ⟨wr.heap.size, 0, none⟩) 11 11)) from by
                refine ⟨?_, ?_, ?_⟩
                · have h1 := (HB2.out.alloc_old (.cells P11 107)).set 4 (.slice (some ⟨wr.heap.size, 0, none⟩) 11 11)
                  rw [gb_tb] at h1
                  rw [HS3] at h1 ⊢
                  exact h1
                · have h1 := (Blk.alloc wr P11 107).setCell_other (a := ⟨g, 4, none⟩) (.slice (some ⟨wr.heap.size, 0, none⟩) 11 11) (by show wr.heap.size ≠ g; omega)
                  rw [HS3] at h1 ⊢
                  exact h1
                · rw [size_set]; simp; omega)
              have HW3 := Lib.hid (show Below w.heap.size w ((wr.alloc (.cells P11 107)).setCell ⟨g, 4, none⟩ (.slice (some ⟨wr.heap.size, 0, none⟩) 11 11)) from (HW.out.alloc (by have := HG.out; omega) _).setCell (Nat.le_of_eq HG.out.symm) _)
              clear c5 hmk d4 d5 HB2 HS HW HS3
              generalize (wr.alloc (.cells P11 107)).setCell ⟨g, 4, none⟩ (.slice (some ⟨wr.heap.size, 0, none⟩) 11 11) = W3 at HT0 HW3 ⊢
              go_wp2_with fail
              go_loopw [12] (fun iv wr => ∃ a ia : Nat, Hid (ia = 2 * a) ∧ ia ≤ 8 ∧ iv = .int .i64 (ia : Int) ∧ Hid (TrS a g wr) ∧ Hid (Below w.heap.size w wr)) (fun iv _ => 8 - (intOf iv).toNat)
              case atStart => exact ⟨0, 0, Lib.hid rfl, by omega, rfl, HT0, HW3⟩
              case round =>
                clear HT0 HW3 x1
                obtain ⟨a, ib, HIA, hi8, rfl, HT, HW⟩ := hrel
                by_cases hi : ib < 8
                · have h4 : a < 4 := by have := HIA.out; omega
                  have hk0 : wr.cell? ⟨ob, ib, none⟩ = some (.string (ks a)) := by rw [HIA.out]; exact (HW.out.cell (World.block_lt_of_cell? w _ (HK.out a h4).1)).trans (HK.out a h4).1
                  have hk1 : wr.cell? ⟨ob, ib + 1, none⟩ = some (.string (vs a)) := by rw [HIA.out]; exact (HW.out.cell (World.block_lt_of_cell? w _ (HK.out a h4).2)).trans (HK.out a h4).2
                  have u1 : (ib : Int) < 8 := by omega
                  have u2 : (0 : Int) ≤ (ib : Int) := by omega
                  have u3 : IntKind.i64.wrap ((ib : Int) + 1) = (ib : Int) + 1 := i64_in _ (by omega)
                  have u4 : (ib : Int) + 1 < 8 := by have := HIA.out; omega
                  have u5 : IntKind.i64.wrap (8 - (ib : Int)) = 8 - (ib : Int) := i64_in _ (by omega)
                  have u6 : (0 : Int) ≤ (ib : Int) + 1 := by omega
                  have u7 : ((ib : Int) + 1).toNat = ib + 1 := by omega
                  go_upto_region 28 with (fail)
                  go_still_tail 17, (by kernel_rfl)
                  change wpList _ _ _ _ _ wr.drew
                  have HT2 := Lib.hid HT.out.drew
                  have HW2 := Lib.hid (show Below w.heap.size w wr.drew from below_drewN HW.out 1)
                  clear hk0 hk1 HT HW u3 u5 u7
                  generalize wr.drew = W5 at HT2 HW2 ⊢
                  go_wp2_with (go_at_call 48; refine (steps' g a ib _ HIA.out h4 HT2.out).mono ?_; rintro e w5 ⟨rfl, ht, hb⟩; have HT3 := Lib.hid ht; have HB3 := Lib.hid hb; clear ht hb)
                  have HW3 := Lib.hid (HW2.out.trans (HB3.out.mono (Nat.le_of_eq HG.out.symm)))
                  go_roundw
                  case rel => exact ⟨a + 1, ib + 2, Lib.hid (by have := HIA.out; omega), by have := HIA.out; omega, by go_num, HT3, HW3⟩
                  case measure => simp [intOf]; omega
                · have u1 : ¬ (ib : Int) < 8 := by omega
                  have ha : a = 4 := by have := HIA.out; omega
                  have HT2 := Lib.hid (show TrS 4 g wr by rw [← ha]; exact HT.out)
                  clear ha HT HIA
                  go_wp2_with fail
                  go_ret
                  exact ⟨by rw [HG.out]; rfl, by rw [← HG.out]; exact HT2.out, HW.out⟩
end Go.Proofs.Ytkjgnkmnngaioaa.Q
