/- 'token.closing'. -/
import Derived.Test.YtkjgnkmnngaioaaQu
import Derived.Test.YtkjgnkmnngaioaaMmx
namespace Go.Proofs.Ytkjgnkmnngaioaa.Q
open Go.RowKit Go.IntWalk Go.Proofs.Ytkjgnkmnngaioaa.Mem
set_option linter.unusedVariables false
set_option linter.unusedSimpArgs false

/-- A closing: how long its name is, and how many bytes it takes. -/
def clF (l : List UInt8) : Option (Nat × Nat) :=
  if l.length < 2 then none else if l.getD 1 0 ≠ 47 then none else
    match nmF (l.drop 2) with
    | none => none
    | some k => if (l.drop (2 + k + spLen (l.drop (2 + k)))).head? = some 62 then some (k, 2 + k + spLen (l.drop (2 + k)) + 1) else none
/-- The cells of a token. -/
def TK (k : Int) (n t a : Value) : Array Value := #[.int .i64 k, n, t, a]
def nil8 : Value := .slice none 0 0
def emv : Value := .string ⟨#[]⟩
/-- What is taken. -/
def TakePost (g a n : Nat) (w : World) (tok : Array Value) (u : Nat) (e : Ending) : Prop :=
  ∃ a', (u < n → a' = a + u) ∧ e = .returned (.tuple #[.agg tok, .slice (some ⟨g, a', none⟩) (n - u) (n - u), .bool true])
theorem tk_all (k : Int) (n t : ByteArray) (p : Option Addr) (x y : Nat) : (TK k (.string n) (.string t) (.slice p x y)).all (·.oneCell') = true := by unfold TK; simp; exact ⟨rfl, rfl, rfl, rfl⟩
theorem info_tok (k : Int) (n t a : Value) : (Try.prog.info? 31).map (·.size) = some (TK k n t a).size := by
  have h : (Try.prog.info? 31).map (·.size) = some 4 := by kernel_rfl
  exact h
def NonePost (e : Ending) : Prop := e = .returned (.tuple #[.agg (TK 0 emv emv nil8), nil8, .bool false])
def ClPost (g a n : Nat) (l : List UInt8) (w : World) (e : Ending) (w' : World) : Prop :=
  (match clF l with
    | none => NonePost e
    | some (k, u) => TakePost g a n w (TK 2 (.string (st (lows ((l.drop 2).take k)))) emv nil8) u e) ∧ Below w.heap.size w w'
/-- Ahead of the store, and behind it. -/
def ClC (h : Nat) (cs : Array Value) (w w1 : World) : Nat → World → Prop
  | 0, y => y = w1
  | _, y => Blk y h cs 31 ∧ Below w.heap.size w y
set_option maxRecDepth 100000 in
set_option maxHeartbeats 4000000 in
theorem closing_calls (g a n c : Nat) (l : List UInt8) (w : World) (hB : Bt w g a n c l) (hn : n ≤ 600000) :
    Calls Try.prog 21 #[.slice (some ⟨g, a, none⟩) n c] w (ClPost g a n l w) := by
  have HB := Lib.hid hB
  have HLN := Lib.hid hB.len
  have HCP := Lib.hid hB.cap
  clear hB
  by_cases h2 : n < 2
  · have HN := Lib.hid (show clF l = none from by unfold clF; rw [if_pos (by rw [HLN.out]; exact h2)])
    have v1 : (n : Int) < 2 := by omega
    go_enter Try.func21, Try.ntmps21
    go_wp2_with fail
    refine bodyPost_ret (v := .tuple #[.agg (TK 0 emv emv nil8), nil8, .bool false]) (by simp [results, Try.results21, go_sem, TK, emv, nil8]) rfl ⟨by rw [HN.out]; exact rfl, (Below.refl _ _).alloc (Nat.le_refl _) _⟩
  · have v1 : ¬ (n : Int) < 2 := by omega
    have hl1 : 1 < l.length := by have := HLN.out; omega
    obtain ⟨d, hd⟩ : ∃ d, d = l[1]'hl1 := ⟨_, rfl⟩
    have d0 : w.cell? ⟨g, a + 1, none⟩ = some (.int .u8 (d.toNat : Int)) := by rw [hd]; exact HB.out.cell 1 hl1
    have HD := Lib.hid (show l.getD 1 0 = d from by rw [hd, List.getD_eq_getElem?_getD, List.getElem?_eq_getElem hl1]; rfl)
    have hga : g < w.heap.size := lt_of_cell d0
    have d0' : ∀ o, (w.alloc o).cell? ⟨g, a + 1, none⟩ = some (.int .u8 (d.toNat : Int)) := fun o => (World.cell?_of_block (Below.heap_alloc _ _ _ hga)).trans d0
    clear hd
    by_cases h47 : d = 47
    · subst h47
      have hc2 : 2 ≤ c := by have := HCP.out; omega
      obtain ⟨a1, ha1⟩ : ∃ a1, a1 = bof a c 2 := ⟨_, rfl⟩
      have hsl : ∀ W : World, (Instr.slice 45 (.slice (some ⟨g, a, none⟩) n c) (some (.int .i64 2)) none none).run Try.prog W = .ok (.slice (some ⟨g, a1, none⟩) (n - 2) (c - 2)) W := fun W => by
        have h := slice_l W g a n c 2 (by omega) HCP.out
        rw [← ha1] at h
        exact h
      obtain ⟨W, hW⟩ : ∃ W, W = w.alloc (.cells (TK 0 emv emv nil8) 31) := ⟨_, rfl⟩
      have HBW := Lib.hid (show Below w.heap.size w W from by rw [hW]; exact (Below.refl _ _).alloc (Nat.le_refl _) _)
      have HB1 := Lib.hid (show Bt W g a1 (n - 2) (c - 2) (l.drop 2) from (HB.out.below HBW.out).drop (by omega) (fun h => by rw [ha1]; exact bof_lt (by have := HCP.out; omega)) (by have := HCP.out; omega))
      have HBK := Lib.hid (show Blk W w.heap.size (TK 0 emv emv nil8) 31 from by rw [hW]; exact Blk.alloc _ _ _)
      have HNM := Lib.hid (name_calls g a1 (n - 2) (c - 2) (l.drop 2) W HB1.out (by omega))
      rw [hW] at HNM
      unfold NmPost at HNM
      have HA1 := Lib.hid (show 2 < c → a1 = a + 2 from fun h => by rw [ha1]; exact bof_lt h)
      clear ha1
      cases hnm : nmF (l.drop 2) with
      | none =>
        have HN := Lib.hid (show clF l = none from by
          unfold clF
          rw [if_neg (by rw [HLN.out]; exact h2), if_neg (by rw [HD.out]; exact fun h => h rfl), hnm])
        rw [hnm] at HNM
        dsimp only at HNM
        clear hnm
        go_enter Try.func21, Try.ntmps21
        go_wp2_with (first | (go_at_call 17; refine HNM.out.mono ?_; rintro e w1 ⟨rfl, hb⟩; have HB2 := Lib.hid (show Below w.heap.size w w1 from by have h1 := HBW.out; rw [hW] at h1; exact h1.trans (hb.mono h1.size)); have HK := Lib.hid (show Blk w1 w.heap.size (TK 0 emv emv nil8) 31 from HBK.out.below (by rw [hW]; exact hb) HBK.out.lt); clear hb) | (refine Mix.wpList_store_blk (o := ⟨none, .store 31 _ _, _, _, _, _⟩) rfl 31 _ _ rfl w.heap.size (TK 0 emv emv nil8) rfl rfl 31 (TK 0 emv emv nil8) HK.out (info_tok _ _ _ _) rfl (tk_all _ _ _ _ _ _) ?_; intro W3 hb3 hbu hsz3; have e1 : W3.cell? ⟨w.heap.size, 0, none⟩ = some (.int .i64 0) := hb3.cell 0; have e2 : W3.cell? ⟨w.heap.size, 1, none⟩ = some emv := hb3.cell 1; have e3 : W3.cell? ⟨w.heap.size, 2, none⟩ = some emv := hb3.cell 2; have e4 : W3.cell? ⟨w.heap.size, 3, none⟩ = some nil8 := hb3.cell 3; have HB3 := Lib.hid hb3; have HBU := Lib.hid hbu; have HSZ := Lib.hid hsz3; clear hb3 hbu hsz3))
        refine bodyPost_ret (v := .tuple #[.agg (TK 0 emv emv nil8), nil8, .bool false]) (by simp [results, Try.results21, go_sem, e1, e2, e3, e4]; first | done | exact ⟨rfl, rfl⟩) rfl ⟨by rw [HN.out]; exact rfl, HB2.out.trans (HBU.out.below (Nat.le_refl _) HB2.out.size)⟩
      | some k =>
        rw [hnm] at HNM
        dsimp only at HNM
        have hk := nmF_some hnm
        have hkl : k ≤ n - 2 := by have := hk.2.2.2.1; rw [List.length_drop, HLN.out] at this; exact this
        have HNK := Lib.hid hnm
        clear hnm hk
        obtain ⟨a2, ha2⟩ : ∃ a2, a2 = bof a1 (n - 2) k := ⟨_, rfl⟩
        rw [← ha2] at HNM
        have HBT2 := Lib.hid (show ∀ w1, Below w.heap.size w w1 → Bt w1 g a2 (n - 2 - k) (n - 2 - k) (l.drop (2 + k)) from fun w1 hb => by
          have h := HB.out.below hb
          have h2 := (h.drop (k := 2) (a' := a1) (c' := n - 2) (by omega) (fun h => HA1.out (by have := HCP.out; omega)) (Nat.le_refl _)).drop (k := k) (a' := a2) (c' := n - 2 - k) (by omega) (fun h => by rw [ha2]; exact bof_lt h) (Nat.le_refl _)
          rw [List.drop_drop] at h2
          exact h2)
        have HA2 := Lib.hid (show k < n - 2 → a2 = a + (2 + k) from fun h => by rw [ha2, bof_lt h, HA1.out (by have := HCP.out; omega)]; omega)
        clear ha2
        obtain ⟨sp, hsp⟩ : ∃ sp, spLen (l.drop (2 + k)) = sp := ⟨_, rfl⟩
        have hspl : sp ≤ n - 2 - k := by have h := spLen_le (l.drop (2 + k)); rw [hsp, List.length_drop, HLN.out] at h; omega
        have HSP := Lib.hid hsp
        obtain ⟨a3, ha3⟩ : ∃ a3, a3 = bof a2 (n - 2 - k) sp := ⟨_, rfl⟩
        obtain ⟨m, hm⟩ : ∃ m, m = n - 2 - k - sp := ⟨_, rfl⟩
        have HBT3 := Lib.hid (show ∀ w1, Below w.heap.size w w1 → Bt w1 g a3 m m (l.drop (2 + k + sp)) from fun w1 hb => by
          have h2 := (HBT2.out w1 hb).drop (k := sp) (a' := a3) (c' := m) (by omega) (fun h => by rw [ha3]; exact bof_lt h) (by omega)
          rw [List.drop_drop, ← hm] at h2
          exact h2)
        have HSC := Lib.hid (show ∀ w1, Below w.heap.size w w1 → Calls Try.prog 29 #[.slice (some ⟨g, a2, none⟩) (n - 2 - k) (n - 2 - k)] w1 fun e w' => e = .returned (.tuple #[.slice (some ⟨g, a3, none⟩) m m, .bool (decide (0 < sp))]) ∧ w1 = w' from fun w1 hb => by
          have h := space_calls g a2 (n - 2 - k) (n - 2 - k) (l.drop (2 + k)) w1 (HBT2.out w1 hb) (by omega)
          unfold SpPost at h
          rw [hsp, ← ha3, ← hm] at h
          exact h)
        have HM := Lib.hid hm
        have HA3 := Lib.hid (show sp < n - 2 - k → a3 = a + (2 + k + sp) from fun h => by rw [ha3, bof_lt h, HA2.out (by omega)]; omega)
        clear hsp ha3 hm
        by_cases hm0 : m = 0
        · subst hm0
          have HN := Lib.hid (show clF l = none from by
            unfold clF
            rw [if_neg (by rw [HLN.out]; exact h2), if_neg (by rw [HD.out]; exact fun h => h rfl), HNK.out]
            dsimp only
            rw [HSP.out, if_neg (by
              rw [List.drop_of_length_le (by rw [HLN.out]; have := HM.out; omega)]
              simp)])
          go_enter Try.func21, Try.ntmps21
          go_wp2_with (first | (go_at_call 17; refine HNM.out.mono ?_; rintro e w1 ⟨rfl, hb⟩; have HB2 := Lib.hid (show Below w.heap.size w w1 from by have h1 := HBW.out; rw [hW] at h1; exact h1.trans (hb.mono h1.size)); have HK := Lib.hid (show Blk w1 w.heap.size (TK 0 emv emv nil8) 31 from HBK.out.below (by rw [hW]; exact hb) HBK.out.lt); clear hb) | (go_at_call 29; refine (HSC.out _ HB2.out).mono ?_; rintro e w2 ⟨rfl, rfl⟩) | (refine Mix.wpList_store_blk (o := ⟨none, .store 31 _ _, _, _, _, _⟩) rfl 31 _ _ rfl w.heap.size (TK 0 emv emv nil8) rfl rfl 31 (TK 0 emv emv nil8) HK.out (info_tok _ _ _ _) rfl (tk_all _ _ _ _ _ _) ?_; intro W3 hb3 hbu hsz3; have e1 : W3.cell? ⟨w.heap.size, 0, none⟩ = some (.int .i64 0) := hb3.cell 0; have e2 : W3.cell? ⟨w.heap.size, 1, none⟩ = some emv := hb3.cell 1; have e3 : W3.cell? ⟨w.heap.size, 2, none⟩ = some emv := hb3.cell 2; have e4 : W3.cell? ⟨w.heap.size, 3, none⟩ = some nil8 := hb3.cell 3; have HB3 := Lib.hid hb3; have HBU := Lib.hid hbu; have HSZ := Lib.hid hsz3; clear hb3 hbu hsz3))
          refine bodyPost_ret (v := .tuple #[.agg (TK 0 emv emv nil8), nil8, .bool false]) (by simp [results, Try.results21, go_sem, e1, e2, e3, e4]; first | done | exact ⟨rfl, rfl⟩) rfl ⟨by rw [HN.out]; exact rfl, HB2.out.trans (HBU.out.below (Nat.le_refl _) HB2.out.size)⟩
        · have hm1 : 0 < m := by omega
          have hll : 0 < (l.drop (2 + k + sp)).length := by rw [List.length_drop, HLN.out]; have := HM.out; omega
          obtain ⟨d5, hd5⟩ : ∃ d5, d5 = (l.drop (2 + k + sp))[0]'hll := ⟨_, rfl⟩
          have HD5 := Lib.hid (show (l.drop (2 + k + sp)).head? = some d5 from by rw [hd5, List.head?_eq_getElem?, List.getElem?_eq_getElem hll])
          have HC5 := Lib.hid (show ∀ w1, Below w.heap.size w w1 → w1.cell? ⟨g, a3, none⟩ = some (.int .u8 (d5.toNat : Int)) from fun w1 hb => by
            rw [hd5]
            exact (HBT3.out w1 hb).cell 0 hll)
          have v3 : ((m : Int) == 0) = false := by simp; omega
          clear hd5 hll
          by_cases h62 : d5 = 62
          · subst h62
            have HN := Lib.hid (show clF l = some (k, 2 + k + sp + 1) from by
              unfold clF
              rw [if_neg (by rw [HLN.out]; exact h2), if_neg (by rw [HD.out]; exact fun h => h rfl), HNK.out]
              dsimp only
              rw [HSP.out, if_pos HD5.out])
            obtain ⟨a4, ha4⟩ : ∃ a4, a4 = bof a3 m 1 := ⟨_, rfl⟩
            have hsl2 : ∀ W : World, (Instr.slice 45 (.slice (some ⟨g, a3, none⟩) m m) (some (.int .i64 1)) (some (.int .i64 (m : Int))) (some (.int .i64 (m : Int)))).run Try.prog W = .ok (.slice (some ⟨g, a4, none⟩) (m - 1) (m - 1)) W := fun W => by
              have h := slice_lhm W g a3 m m 1 (by omega) (Nat.le_refl _)
              rw [← ha4] at h
              exact h
            have HA4 := Lib.hid (show 2 + k + sp + 1 < n → a4 = a + (2 + k + sp + 1) from fun h => by
              have hm := HM.out
              rw [ha4, bof_lt (by omega), HA3.out (by omega)]
              omega)
            clear ha4
            go_enter Try.func21, Try.ntmps21
            go_upto_region 9 with (first | (go_at_call 17; refine HNM.out.mono ?_; rintro e w1 ⟨rfl, hb⟩; have HB2 := Lib.hid (show Below w.heap.size w w1 from by have h1 := HBW.out; rw [hW] at h1; exact h1.trans (hb.mono h1.size)); have HK := Lib.hid (show Blk w1 w.heap.size (TK 0 emv emv nil8) 31 from HBK.out.below (by rw [hW]; exact hb) HBK.out.lt); clear hb; have c5 := HC5.out w1 HB2.out) | (go_at_call 29; refine (HSC.out _ HB2.out).mono ?_; rintro e w2 ⟨rfl, rfl⟩))
            have hC0 : ClC w.heap.size (TK 2 (.string (st (lows ((l.drop 2).take k)))) emv nil8) w w1.drew 0 w1.drew := rfl
            have ne : Nonempty (Mix.Wd (ClC w.heap.size (TK 2 (.string (st (lows ((l.drop 2).take k)))) emv nil8) w w1.drew) 0) := ⟨⟨w1.drew, 0, Nat.le_refl _, hC0⟩⟩
            refine Mix.wp_region_mix (C := ClC w.heap.size (TK 2 (.string (st (lows ((l.drop 2).take k)))) emv nil8) w w1.drew) [8] (by kernel_rfl) (by kernel_rfl) hC0 ?_
            iterate 8 (refine Mix.mix_still (by decide) (fun K hK => ?_); go_simp; refine hK _ ?_; clear hK K)
            refine Mix.mix_store (by decide) rfl 31 _ _ rfl w.heap.size (TK 2 (.string (st (lows ((l.drop 2).take k)))) emv nil8) rfl rfl (info_tok _ _ _ _) (tk_all _ _ _ _ _ _) (fun y hy => ⟨31, TK 0 emv emv nil8, (by have hy' : y = w1.drew := hy; rw [hy']; exact HK.out.drew), rfl, (by have hy' : y = w1.drew := hy; rw [hy']; exact ⟨Mix.blk_setRow HK.out.drew, (below_drewN HB2.out 1).trans ((Mix.but_setRow _ _ _).below (Nat.le_refl _) HB2.out.size)⟩)⟩) ?_
            iterate 2 (refine Mix.mix_still (by decide) (fun K hK => ?_); go_simp; refine hK _ ?_; clear hK K)
            refine Mix.mix_nil ?_
            intro w6 hw6
            have hw6' : Blk w6 w.heap.size (TK 2 (.string (st (lows ((l.drop 2).take k)))) emv nil8) 31 ∧ Below w.heap.size w w6 := hw6
            have HW6 := Lib.hid hw6'.2
            have e1 : w6.cell? ⟨w.heap.size, 0, none⟩ = some (.int .i64 2) := hw6'.1.cell 0
            have e2 : w6.cell? ⟨w.heap.size, 1, none⟩ = some (.string (st (lows ((l.drop 2).take k)))) := hw6'.1.cell 1
            have e3 : w6.cell? ⟨w.heap.size, 2, none⟩ = some emv := hw6'.1.cell 2
            have e4 : w6.cell? ⟨w.heap.size, 3, none⟩ = some nil8 := hw6'.1.cell 3
            clear hw6 hw6' ne hC0 hsl hsl2
            show Exit.then _ _ _ _ w6
            go_wp2_with fail
            refine bodyPost_ret (v := .tuple #[.agg (TK 2 (.string (st (lows ((l.drop 2).take k)))) emv nil8), .slice (some ⟨g, a4, none⟩) (m - 1) (m - 1), .bool true]) (by simp [results, Try.results21, go_sem, e1, e2, e3, e4]; first | done | rfl) rfl ⟨by rw [HN.out]; exact ⟨a4, HA4.out, by have := HM.out; rw [show m - 1 = n - (2 + k + sp + 1) by omega]⟩, HW6.out⟩
          · have HN := Lib.hid (show clF l = none from by
              unfold clF
              rw [if_neg (by rw [HLN.out]; exact h2), if_neg (by rw [HD.out]; exact fun h => h rfl), HNK.out]
              dsimp only
              rw [HSP.out, if_neg (by rw [HD5.out]; intro h; injection h with h; exact h62 h)])
            have v4 : ((d5.toNat : Int) != 62) = true := by
              have : d5.toNat ≠ 62 := fun h => h62 (by apply UInt8.toNat_inj.1; exact h)
              simp; omega
            go_enter Try.func21, Try.ntmps21
            go_wp2_with (first | (go_at_call 17; refine HNM.out.mono ?_; rintro e w1 ⟨rfl, hb⟩; have HB2 := Lib.hid (show Below w.heap.size w w1 from by have h1 := HBW.out; rw [hW] at h1; exact h1.trans (hb.mono h1.size)); have HK := Lib.hid (show Blk w1 w.heap.size (TK 0 emv emv nil8) 31 from HBK.out.below (by rw [hW]; exact hb) HBK.out.lt); clear hb; have c5 := HC5.out w1 HB2.out) | (go_at_call 29; refine (HSC.out _ HB2.out).mono ?_; rintro e w2 ⟨rfl, rfl⟩) | (refine Mix.wpList_store_blk (o := ⟨none, .store 31 _ _, _, _, _, _⟩) rfl 31 _ _ rfl w.heap.size (TK 0 emv emv nil8) rfl rfl 31 (TK 0 emv emv nil8) HK.out (info_tok _ _ _ _) rfl (tk_all _ _ _ _ _ _) ?_; intro W3 hb3 hbu hsz3; have e1 : W3.cell? ⟨w.heap.size, 0, none⟩ = some (.int .i64 0) := hb3.cell 0; have e2 : W3.cell? ⟨w.heap.size, 1, none⟩ = some emv := hb3.cell 1; have e3 : W3.cell? ⟨w.heap.size, 2, none⟩ = some emv := hb3.cell 2; have e4 : W3.cell? ⟨w.heap.size, 3, none⟩ = some nil8 := hb3.cell 3; have HB3 := Lib.hid hb3; have HBU := Lib.hid hbu; have HSZ := Lib.hid hsz3; clear hb3 hbu hsz3))
            refine bodyPost_ret (v := .tuple #[.agg (TK 0 emv emv nil8), nil8, .bool false]) (by simp [results, Try.results21, go_sem, e1, e2, e3, e4]; first | done | exact ⟨rfl, rfl⟩) rfl ⟨by rw [HN.out]; exact rfl, HB2.out.trans (HBU.out.below (Nat.le_refl _) HB2.out.size)⟩
    · have HN := Lib.hid (show clF l = none from by unfold clF; rw [if_neg (by rw [HLN.out]; exact h2), if_pos (by rw [HD.out]; exact h47)])
      have v2 : ((d.toNat : Int) != 47) = true := by
        have : d.toNat ≠ 47 := fun h => h47 (by apply UInt8.toNat_inj.1; exact h)
        simp; omega
      go_enter Try.func21, Try.ntmps21
      go_wp2_with fail
      refine bodyPost_ret (v := .tuple #[.agg (TK 0 emv emv nil8), nil8, .bool false]) (by simp [results, Try.results21, go_sem, TK, emv, nil8]) rfl ⟨by rw [HN.out]; exact rfl, (Below.refl _ _).alloc (Nat.le_refl _) _⟩
end Go.Proofs.Ytkjgnkmnngaioaa.Q
