/- TokenParts walked: no two texts stand one behind the other, and none is empty; names are names, and no attribute is there twice. No condition. -/
import Derived.Test.YtkjgnkmnngaioaaTpP
import Derived.Test.YtkjgnkmnngaioaaTkA
import Derived.Maps.OwnOps
import Derived.Maps.OwnSet
import Derived.Maps.Views
import Derived.LoopN
import Derived.StringKeys
namespace Go.Proofs.Ytkjgnkmnngaioaa.Q
open Go.RowKit Go.IntWalk Go.Proofs.Ytkjgnkmnngaioaa.Mem Go.Proofs.YtkjgnkmnngaioaaW.PrintWords Go.Proofs.YtkjgnkmnngaioaaW.PrintLast Go.Proofs.YtkjgnkmnngaioaaW.PrintMore
open Go.Maps (Keyed)
set_option linter.unusedVariables false
set_option linter.unusedSimpArgs false

theorem plainElem_bool_inv {H : Type} {P : Program} {e : TypeId} (he : P.underlying e = some .bool) {v : Value} {z : DataW H × List MemPlace} (h : plainElem P e v = some z) : ∃ b, v = .bool b ∧ z = (.lit (.bool b), []) := by
  unfold plainElem at h
  rw [he] at h
  cases v <;> simp at h
  exact ⟨_, rfl, h.symm⟩
/-- A look-up of a bool in a map of the call's own. -/
theorem wpList_lookup_own_bool {H : Type} {P : Program} (w : World) {ops : Array Oper} {rest : List Oper} {o : Oper} {a : Act} {Q : Exit → Act → World → Prop}
    (hg : o.guard = none) (m x : Operand) (t : TypeId) (hop : o.op = Op.lookup t m x false)
    (k e : TypeId) (K : Keyed P k) (ht : P.underlying t = some (.map k e)) (he : P.underlying e = some .bool) (hz : (zeroValue e).run P w = .ok (.bool false) w) (b n : Nat) (D : DataW H)
    (hm : a.eval m = .map (some b)) (hown : w.ownsMap P k (plainElem P e) b n D) (key : Value) (kl : Lit) (hx : a.eval x = key) (hkey : keyOf P k key = some kl)
    (hK : ∀ c : Bool, D.atKey kl (.lit (.bool false)) = .lit (.bool c) → wpList P ops Q rest (a.put o.dst (.bool c)) w) :
    wpList P ops Q (o :: rest) a w := by
  refine wpList_plain hg fun K' hK' => ?_
  obtain ⟨v, ps, hrun, hv⟩ := hown.lookup K ht hz (plainElem_bool he false) hkey
  obtain ⟨c, rfl, hc⟩ := plainElem_bool_inv he hv
  simp only [Prod.mk.injEq] at hc
  unfold Oper.wp
  simp [execOp, hop, hm, hx, hrun, Result.andThen]
  exact hK' _ _ (hK c hc.1)
/-- The names, as a map's keys. -/
def keyL (x : S36) : Lit := .string x.f0.data.toList
def seenM (l : List S36) : DataW Nat := Maps.setOf (.lit (.bool true)) (l.map keyL)
theorem keyL_key (x : S36) : WideAt.IsKeyLit (keyL x) := by unfold keyL; first | trivial | simp [WideAt.IsKeyLit]
theorem seen_not {l : List S36} {x : S36} (h : ∀ y ∈ l, y.f0 ≠ x.f0) : Maps.has (seenM l) (keyL x) = false := by
  unfold seenM
  rw [Maps.has_setOf _ _ _ (fun y hy => by
    obtain ⟨z, _, rfl⟩ := List.mem_map.1 hy
    exact keyL_key z), List.any_eq_false]
  intro y hy
  obtain ⟨z, hz, rfl⟩ := List.mem_map.1 hy
  rw [Maps.sameKey_ne (fun e => h z hz (by
    unfold keyL at e
    injection e with e
    exact ByteArray.ext (Array.toList_inj.1 e)))]
  simp
theorem seen_snoc (l : List S36) (x : S36) : seenM (l ++ [x]) = (seenM l).put (keyL x) (.lit (.bool true)) := by
  unfold seenM
  rw [List.map_append, List.map_singleton, Maps.setOf_snoc]
theorem name_small {s : ByteArray} (h : nameB s.data.toList = true) : s.size ≤ 20 ∧ token_Name.f s = some true := by
  have h1 : s.size ≤ 20 := by
    unfold nameB at h
    rw [Bool.and_eq_true, decide_eq_true_iff] at h
    have h2 := (nmF_some h.1).2.2.1
    have h3 : s.data.toList.length = s.size := by simp
    omega
  refine ⟨h1, ?_⟩
  unfold token_Name.f
  rw [if_pos (by omega), h]
theorem empty_of {s : ByteArray} (h : s.data.toList = []) : s = ⟨#[]⟩ := ByteArray.ext (Array.toList_inj.1 h)
set_option maxRecDepth 100000 in
set_option maxHeartbeats 16000000 in
theorem tparts_walk (s : ByteArray) (w : World) (hs : s.size ≤ 140737488351232) :
    Calls Try.prog 4 #[.string s] w fun e w' => e = .returned (.bool true) ∧ Below w.heap.size w w' := by
  by_cases h5 : 5000 < s.size
  · have v1 : decide ((5000 : Int) < (s.size : Int)) = true := by simp; omega
    go_enter Try.func4, Try.ntmps4
    go_wp2_with (go_at_call 6; refine (awake_calls _).mono ?_; rintro e w0 ⟨rfl, hb⟩; have HB0 := Lib.hid hb; clear hb)
    go_ret
    exact ⟨rfl, HB0.out⟩
  · have v1 : decide ((5000 : Int) < (s.size : Int)) = false := by simp; omega
    obtain ⟨ts, r1, hr, hok⟩ : ∃ ts r1, token_Read.f s = some (ts, r1) ∧ okT ts := by
      unfold token_Read.f
      rw [if_pos hs]
      split
      · exact ⟨_, _, rfl, okT_read _⟩
      · exact ⟨_, _, rfl, fun i t h => by simp at h⟩
    have HRF := Lib.hid hr
    have HOK := Lib.hid hok
    clear hr hok
    have hmm := @run_makeMap Try.prog
    go_enter Try.func4, Try.ntmps4
    go_wp2_with (first | (go_at_call 6; refine (awake_calls _).mono ?_; rintro e w0 ⟨rfl, hb⟩; have HB0 := Lib.hid hb; clear hb) | (go_at_call 8; refine (token_Read.calls _ ts r1 _ HRF.out).mono ?_; rintro e w1 ⟨v, rfl, hs, hb⟩; have HB1 := Lib.hid (HB0.out.trans (hb.mono HB0.out.size)); obtain ⟨A1, c1, rfl⟩ := Kd.S_slice hs; have HC1 := Lib.hid (Kd.S_reads' hs).2.2; clear hs hb))
    go_loopw [22] (fun iv wr => ∃ i : Nat, i ≤ ts.length ∧ iv = .int .i64 (i : Int) ∧ Hid (Below w1.heap.size w1 wr)) (fun iv _ => ts.length - (intOf iv).toNat)
    case atStart => exact ⟨0, Nat.zero_le _, rfl, Lib.hid (Below.refl _ _)⟩
    case round =>
      obtain ⟨i, hi, rfl, HB⟩ := hrel
      by_cases hlt : i < ts.length
      · have hti : ts[i]? = some (rd_T31 ts (i : Int)) := by unfold rd_T31; rw [Int.toNat_natCast, List.getD_eq_getElem?_getD, List.getElem?_eq_getElem hlt]; rfl
        have hoi := HOK.out i _ hti
        obtain ⟨ad, A3, c3, rfl, h0, h1, h2, h3, h4, h5'⟩ := at_T31 (Kd.C_below HC1.out HB.out) (i : Int) (by omega) (by omega)
        simp only [Int.toNat_natCast] at h0 h1 h2 h3
        generalize hx : rd_T31 ts (i : Int) = t at *
        obtain ⟨k0, n1, t2, as3⟩ := t
        dsimp only at h0 h1 h2 h3 h4 h5' hoi
        have HC3 := Lib.hid h5'
        have v2 : (i : Int) < (ts.length : Int) := by omega
        have v3 : (0 : Int) ≤ (i : Int) := by omega
        have hlen : ts.length ≤ 9223372036854775807 := HC1.out.2.1
        clear hx h5' hti
        rcases hoi with ⟨hk, hn, ht2, hk2, ha⟩ | ⟨⟨hk, hn, ht2, has⟩, hp⟩
        · have HN1 := Lib.hid (name_small hn).2
          have ht2' : t2 = ⟨#[]⟩ := empty_of ht2
          subst ht2'
          dsimp only at hk hk2 ha
          have HA := Lib.hid ha
          have HK2 := Lib.hid hk2
          clear hn ht2 hk2 ha
          rcases hk with hk | hk
          · have hk' : k0 = 1 := hk
            subst hk'
            clear hk HK2
            as_aux_lemma =>
              go_wp2_with (go_at_call 10; refine (token_Name.calls n1 true _ HN1.out).mono ?_; rintro e wn ⟨rfl, hb⟩; have HBN := Lib.hid (((HB.out.alloc HB.out.size _)).trans (hb.mono (by have := HB.out.size; simp; omega))); have HWN := Lib.hid (show Below wr.heap.size wr wn from ((Below.refl _ _).alloc (Nat.le_refl _) _).trans (hb.mono (by simp))); have HT6 := Lib.hid ((Blk.alloc wr (TK 1 (.string n1) (.string ⟨#[]⟩) (.slice A3 as3.length c3)) 31).below hb (by simp)); have d0 := HT6.out.cell 0; have d1 := HT6.out.cell 1; have d2 := HT6.out.cell 2; have d3 := HT6.out.cell 3; simp only [TK, List.getElem?_toArray, List.getElem?_cons_zero, List.getElem?_cons_succ] at d0 d1 d2 d3; have d3' : ∀ o, (wn.alloc o).cell? ⟨wr.heap.size, 3, none⟩ = some (.slice A3 as3.length c3) := (fun o => (HT6.out.alloc_old o).cell 3); clear hb)
              have hts : Hid (∀ x ∈ as3, nameB x.f0.data.toList = true) := Lib.hid HA.out.2
              have hz0 : ∀ W : World, (zeroValue 4).run Try.prog W = .ok (.bool false) W := fun W => by kernel_rfl
              have HZB := Lib.hid hz0
              clear hz0
              obtain ⟨wo, rfl⟩ : ∃ wo : World, wo = wn := ⟨_, rfl⟩
              have HM0 := Lib.hid (World.ownsMap_made (H := Nat) wo Try.prog 9 (plainElem Try.prog 4))
              have HC4 := Lib.hid (Kd.C_below HC3.out HWN.out)
              go_loopw [91] (fun jv ws => ∃ j : Nat, j ≤ as3.length ∧ jv = .int .i64 (j : Int) ∧ Hid (Below w1.heap.size w1 ws) ∧ Hid (Below wo.heap.size wo ws) ∧ Hid (ws.ownsMap Try.prog 9 (plainElem Try.prog 4) wo.heap.size j (seenM (as3.take j)))) (fun jv _ => as3.length - (intOf jv).toNat)
              case atStart => exact ⟨0, Nat.zero_le _, rfl, Lib.hid (HBN.out.alloc HBN.out.size _), Lib.hid ((Below.refl _ _).alloc (Nat.le_refl _) _), HM0⟩
              case round =>
                clear HM0
                obtain ⟨j, hj, rfl, HBJ, HBO, HMJ⟩ := hrel
                by_cases hjl : j < as3.length
                · as_aux_lemma =>
                    have hjx : as3[j]? = some (rd_T36 as3 (j : Int)) := by unfold rd_T36; rw [Int.toNat_natCast, List.getD_eq_getElem?_getD, List.getElem?_eq_getElem hjl]; rfl
                    obtain ⟨ad3, rfl, g0, g1⟩ := at_T36 (Kd.C_below HC4.out HBO.out) (j : Int) (by omega) (by omega)
                    simp only [Int.toNat_natCast] at g0 g1
                    have hnx := hts.out _ (List.mem_of_getElem? hjx)
                    have HNOT := Lib.hid (show Maps.has (seenM (as3.take j)) (keyL (rd_T36 as3 (j : Int))) = false from seen_not (fun y hy => by
                      obtain ⟨q, hq, hqy⟩ := List.getElem_of_mem hy
                      rw [List.length_take] at hq
                      rw [List.getElem_take] at hqy
                      have h := List.pairwise_iff_getElem.1 HA.out.1 q j (by omega) hjl (by omega)
                      rw [List.getElem?_eq_getElem hjl] at hjx
                      injection hjx with hjx
                      rw [hqy, hjx] at h
                      exact h))
                    have HTK := Lib.hid (show as3.take (j + 1) = as3.take j ++ [rd_T36 as3 (j : Int)] from by
                      rw [List.getElem?_eq_getElem hjl] at hjx
                      injection hjx with hjx
                      rw [List.take_succ_eq_append_getElem hjl, hjx])
                    have HJM := Lib.hid (show j < maxLen from by have := HC4.out.2.1; unfold maxLen; omega)
                    have hlen3 : as3.length ≤ 9223372036854775807 := HC4.out.2.1
                    have u1 : (j : Int) < (as3.length : Int) := by omega
                    have u2 : (0 : Int) ≤ (j : Int) := by omega
                    generalize rd_T36 as3 (j : Int) = x at *
                    obtain ⟨x0, x1⟩ := x
                    dsimp only at g0 g1 hnx
                    have HNX := Lib.hid (name_small hnx).2
                    have HKEY := Lib.hid (show keyOf Try.prog 9 (.string x0) = some (keyL ⟨x0, x1⟩) from WideMaps.keyOf_string_mk Try.underlying9 (by have := (name_small hnx).1; unfold maxLen; omega))
                    have HMX := Lib.hid (HMJ.out.alloc (.cells #[.string x0, .string x1] 36))
                    clear hjx hnx
                    go_wp2_with (first | (at_lookup; refine wpList_lookup_own_bool _ rfl _ _ 34 rfl 9 4 (Maps.string_keyed Try.underlying9) Try.underlying34 Try.underlying4 (HZB.out _) wo.heap.size j (seenM (as3.take j)) rfl HMX.out _ (keyL ⟨x0, x1⟩) rfl HKEY.out ?_; intro cc hcc; have hcf : cc = false := (by rw [Maps.atKey_of_not_has HNOT.out] at hcc; injection hcc with hcc; injection hcc with hcc; exact hcc.symm); subst hcf; clear hcc) | (go_at_call 10; refine (token_Name.calls x0 true _ HNX.out).mono ?_; rintro e wx ⟨rfl, hb⟩; have HBX := Lib.hid ((HBJ.out.alloc HBJ.out.size _).trans (hb.mono (by have := HBJ.out.size; simp; omega))); have HBOX := Lib.hid ((HBO.out.alloc HBO.out.size _).trans (hb.mono (by have := HBO.out.size; simp; omega))); have HMX2 := Lib.hid (HMX.out.kept (grown_of_below hb none) (by simp)); have k0 : wx.cell? ⟨wr.heap.size, 0, none⟩ = some (.string x0) := (((Blk.alloc wr #[.string x0, .string x1] 36).below hb (by simp)).cell 0); clear hb) | (at_mapUpdate; refine wpList_mapUpdate_own _ rfl _ _ _ 34 rfl 9 4 (Maps.string_keyed Try.underlying9) Try.underlying34 (plainElem Try.prog 4) wo.heap.size j (seenM (as3.take j)) rfl HMX2.out HJM.out _ _ (keyL ⟨x0, x1⟩) rfl rfl HKEY.out (.lit (.bool true)) [] (plainElem_bool Try.underlying4 true) ?_; intro w5 hown5 hg5; have HM5 := Lib.hid hown5; have HG5 := Lib.hid hg5; clear hown5 hg5))
                    go_roundw
                    case rel =>
                      refine ⟨j + 1, by omega, by first | go_num | rfl, Lib.hid (HBX.out.trans ⟨HG5.out.os, HG5.out.tape, HG5.out.output, HG5.out.size, fun k hk => HG5.out.block k (Nat.lt_of_lt_of_le hk HBX.out.size) (fun e => by injection e with e; have := HBN.out.size; omega)⟩), Lib.hid (HBOX.out.trans ⟨HG5.out.os, HG5.out.tape, HG5.out.output, HG5.out.size, fun k hk => HG5.out.block k (Nat.lt_of_lt_of_le hk HBOX.out.size) (fun e => by injection e with e; omega)⟩), Lib.hid ?_⟩
                      rw [HTK.out, seen_snoc]
                      exact HM5.out
                    case measure => simp [intOf]; omega

                · as_aux_lemma =>
                    have u2 : ¬ (j : Int) < (as3.length : Int) := by omega
                    go_wp2_with fail
                    go_roundw
                    case rel => exact ⟨i + 1, by omega, by first | go_num | rfl, HBJ⟩
                    case measure => simp [intOf]; omega
          · have hk' : k0 = 2 := hk
            subst hk'
            have has3 : as3 = [] := HK2.out hk
            subst has3
            clear hk HK2
            as_aux_lemma =>
              go_wp2_with (go_at_call 10; refine (token_Name.calls n1 true _ HN1.out).mono ?_; rintro e wn ⟨rfl, hb⟩; have HBN := Lib.hid (((HB.out.alloc HB.out.size _)).trans (hb.mono (by have := HB.out.size; simp; omega))); have HWN := Lib.hid (show Below wr.heap.size wr wn from ((Below.refl _ _).alloc (Nat.le_refl _) _).trans (hb.mono (by simp))); have HT6 := Lib.hid ((Blk.alloc wr (TK 2 (.string n1) (.string ⟨#[]⟩) (.slice A3 0 c3)) 31).below hb (by simp)); have d0 := HT6.out.cell 0; have d1 := HT6.out.cell 1; have d2 := HT6.out.cell 2; have d3 := HT6.out.cell 3; simp only [TK, List.getElem?_toArray, List.getElem?_cons_zero, List.getElem?_cons_succ] at d0 d1 d2 d3; have d3' : ∀ o, (wn.alloc o).cell? ⟨wr.heap.size, 3, none⟩ = some (.slice A3 0 c3) := (fun o => (HT6.out.alloc_old o).cell 3); clear hb)
              refine wp_loop_rounds 1 ?_
              rw [rounds_succ]
              go_wp2_with fail
              go_roundw
              case rel => exact ⟨i + 1, by omega, by first | go_num | rfl, Lib.hid (HBN.out.alloc HBN.out.size _)⟩
              case measure => simp [intOf]; omega
        · have hk' : k0 = 3 := hk
          subst hk'
          have hn' : n1 = ⟨#[]⟩ := empty_of hn
          subst hn'
          have has' : as3 = [] := has
          subst has'
          have e2 : t2.toList ≠ [] := by rw [ByteArray.toList_eq]; exact ht2
          have e3 : t2.toList.isEmpty = false := by simp [e2]
          have HP := Lib.hid hp
          clear hk hn has ht2 hp
          have hrel2 : Hid (Below w1.heap.size w1 (wr.alloc (.cells (TK 3 (.string ⟨#[]⟩) (.string t2) (.slice A3 0 c3)) 31))) := Lib.hid (HB.out.alloc HB.out.size _)
          by_cases hi0 : 0 < i
          · have v5 : (0 : Int) < (i : Int) := by omega
            have v6 : (1 : Int) ≤ (i : Int) := by omega
            have v9 : (i : Int) - 1 < (ts.length : Int) := by omega
            have v10 : (0 : Int) ≤ (i : Int) - 1 := by omega
            obtain ⟨ad2, A4, c4, had, g0, g1, g2, g3, g4, g5⟩ := at_T31 (Kd.C_below HC1.out HB.out) ((i : Int) - 1) (by omega) (by omega)
            have had' : ad = ad2 := by injection had
            subst had'
            have hq := HP.out (i - 1) (rd_T31 ts ((i : Int) - 1)) (by omega) (by unfold rd_T31; rw [show ((i : Int) - 1).toNat = i - 1 by omega, List.getD_eq_getElem?_getD, List.getElem?_eq_getElem (by omega)]; rfl)
            generalize rd_T31 ts ((i : Int) - 1) = q at *
            have v7 : (q.f0 == 3) = false := by simp [hq]
            have HQ := Lib.hid hq
            have g0' : ∀ o, (wr.alloc o).cell? (ad.add ((i - 1) * 4)) = some (.int .i64 q.f0) := fun o => by
              have h := (World.cell?_of_block (Below.heap_alloc wr o _ (World.block_lt_of_cell? wr _ g0))).trans g0
              rw [show ((i : Int) - 1).toNat = i - 1 by omega] at h
              exact h
            clear hq g0 g1 g2 g3 g4 g5 had hi0
            as_aux_lemma =>
              go_wp2_with fail
              go_roundw
              case rel => exact ⟨i + 1, by omega, by first | go_num | rfl, hrel2⟩
              case measure => simp [intOf]; omega
          · have v5 : ¬ (0 : Int) < (i : Int) := by omega
            clear hi0
            as_aux_lemma =>
              go_wp2_with fail
              go_roundw
              case rel => exact ⟨i + 1, by omega, by first | go_num | rfl, hrel2⟩
              case measure => simp [intOf]; omega
      · have v2 : ¬ (i : Int) < (ts.length : Int) := by omega
        go_wp2_with fail
        go_ret
        exact ⟨rfl, HB1.out.trans (HB.out.mono HB1.out.size)⟩
end Go.Proofs.Ytkjgnkmnngaioaa.Q
