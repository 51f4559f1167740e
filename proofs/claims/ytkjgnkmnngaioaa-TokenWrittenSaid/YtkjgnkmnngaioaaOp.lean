/- 'token.opening'. -/
import Derived.Test.YtkjgnkmnngaioaaCl
import Derived.Test.YtkjgnkmnngaioaaKy
import Derived.Laws.EntriesVeiled
namespace Go.Proofs.Ytkjgnkmnngaioaa.Q
open Go.RowKit Go.IntWalk Go.Proofs.Ytkjgnkmnngaioaa.Mem Go.Proofs.YtkjgnkmnngaioaaW.PrintWords Go.Proofs.YtkjgnkmnngaioaaW.PrintLast Go.Proofs.YtkjgnkmnngaioaaW.PrintMore
set_option linter.unusedVariables false
set_option linter.unusedSimpArgs false

/-- An attribute is put behind the others, if none has its name. -/
def addA (l : List S36) (key : ByteArray) (v : ByteArray) : List S36 := if (l.any fun x => eqS x.f0 key) = true then l else l ++ [⟨key, v⟩]
/-- The attributes from a place on, and how many bytes are taken. -/
def opL (l : List UInt8) : Nat → Nat → List S36 → Option (List S36 × Nat)
  | 0, _, _ => none
  | f + 1, o, at_ =>
    if (l.drop (o + spLen (l.drop o))).head? = some 62 then some (at_, o + spLen (l.drop o) + 1) else
    match nmF (l.drop (o + spLen (l.drop o))) with
    | none => none
    | some k => if spLen (l.drop o) = 0 then none else
      match qF (l.drop (o + spLen (l.drop o) + k)) with
      | some v => opL l f (o + spLen (l.drop o) + k + (v.length + 3)) (addA at_ (st (lows ((l.drop (o + spLen (l.drop o))).take k))) (st (tellF (st v) 0)))
      | none => if (l.drop (o + spLen (l.drop o) + k)).head? = some 61 then none else opL l f (o + spLen (l.drop o) + k) (addA at_ (st (lows ((l.drop (o + spLen (l.drop o))).take k))) (st []))
/-- An opening: how long its name is, its attributes, and how many bytes it takes. -/
def opF (l : List UInt8) : Option (Nat × List S36 × Nat) :=
  match nmF (l.drop 1) with
  | none => none
  | some k => (opL l (l.length + 1) (1 + k) []).map fun (as_, u) => (k, as_, u)
/-- How long a slice is. -/
def slz : Value → Nat
  | .slice _ m _ => m
  | _ => 0
/-- A token that is told in cells of the call's own. -/
def TakeP (g a n : Nat) (w : World) (tok : S31) (u : Nat) (e : Ending) (w' : World) : Prop :=
  ∃ cs a', k31.M w' w.heap.size (fun _ => True) tok cs ∧ (u < n → a' = a + u) ∧ e = .returned (.tuple #[.agg cs.toArray, .slice (some ⟨g, a', none⟩) (n - u) (n - u), .bool true])
def OpPost (g a n : Nat) (l : List UInt8) (w : World) (e : Ending) (w' : World) : Prop :=
  (match opF l with
    | none => NonePost e
    | some (k, as_, u) => TakeP g a n w ⟨1, st (lows ((l.drop 1).take k)), ⟨#[]⟩, as_⟩ u e w') ∧ Below w.heap.size w w'
/-- What stands while an opening is taken. -/
structure OpI (w : World) (ht : Nat) (nm : ByteArray) (av : Value) (as_ : List S36) (y : World) : Prop where
  below : Below w.heap.size w y
  res : Blk y w.heap.size (TK 0 emv emv nil8) 31
  tok : Blk y ht (TK 1 (.string nm) emv av) 31
  row : k36.R 36 y w.heap.size (fun _ => True) av as_
  lt : w.heap.size < ht
theorem OpI.step {w y z : World} {ht : Nat} {nm : ByteArray} {av : Value} {as_ : List S36} (h : OpI w ht nm av as_ y) (hb : Below y.heap.size y z) : OpI w ht nm av as_ z :=
  ⟨h.below.trans (hb.mono h.below.size), h.res.below hb h.res.lt, h.tok.below hb h.tok.lt, Kd.R_below h.row hb, h.lt⟩
/-- Ahead of the store, and behind it. -/
def OpC (w : World) (nm : ByteArray) (av : Value) (as_ : List S36) (w1 : World) : Nat → World → Prop
  | 0, y => y = w1
  | _, y => Blk y w.heap.size (TK 1 (.string nm) emv av) 31 ∧ k36.R 36 y w.heap.size (fun _ => True) av as_ ∧ Below w.heap.size w y
theorem info_attr : (Try.prog.info? 36).map (fun i => (i.zero, i.size, i.bytes)) = some (some (.agg #[.string ⟨#[]⟩, .string ⟨#[]⟩]), 2, 32) := by kernel_rfl
theorem typ_attr : ∀ q, q ∈ 36 :: k36.E → q ≠ 31 := by
  intro q hq
  have h : q = 36 := by
    simp [k36, Kd.iso, Kd.pair, Kd.string, Kd.scalar] at hq
    exact hq
  rw [h]; decide
theorem opI_app {w y z : World} {ht : Nat} {nm : ByteArray} {av v1 : Value} {as_ : List S36} {p : S36} (h : OpI w ht nm av as_ y) (hr : k36.R 36 z w.heap.size (fun _ => True) v1 (as_ ++ [p])) (hb : Below w.heap.size w z) (hg : y.grownBy z av.ownBlock) :
    Blk z ht (TK 1 (.string nm) emv av) 31 ∧ OpI w ht nm v1 (as_ ++ [p]) (z.setCell ⟨ht, 3, none⟩ v1) := by
  have h1 : Blk z ht (TK 1 (.string nm) emv av) 31 := h.tok.of_block (hg.block ht h.tok.lt (Kd.R_ne h.row h.tok (by decide)))
  have h2 : Blk z w.heap.size (TK 0 emv emv nil8) 31 := h.res.of_block (hg.block _ h.res.lt (Kd.R_ne h.row h.res (by decide)))
  have hlt := h.lt
  refine ⟨h1, hb.trans ⟨rfl, rfl, rfl, by simp [World.setCell], fun k hk => Below.heap_setCell _ _ _ _ (by show k ≠ ht; omega)⟩, h2.setCell_other _ (by show w.heap.size ≠ ht; omega), h1.set 3 v1, Kd.R_set hr h1 typ_attr 3 v1, h.lt⟩
set_option maxRecDepth 100000 in
set_option maxHeartbeats 16000000 in
theorem opening_calls (g a n c : Nat) (l : List UInt8) (w : World) (hB : Bt w g a n c l) (hn : n ≤ 600000) (hn0 : 0 < n) :
    Calls Try.prog 22 #[.slice (some ⟨g, a, none⟩) n c] w (OpPost g a n l w) := by
  have HB := Lib.hid hB
  have HLN := Lib.hid hB.len
  have HCP := Lib.hid hB.cap
  clear hB
  have hc1 : 1 ≤ c := by have := HCP.out; omega
  obtain ⟨a1, ha1⟩ : ∃ a1, a1 = bof a c 1 := ⟨_, rfl⟩
  have hsl : ∀ W : World, (Instr.slice 45 (.slice (some ⟨g, a, none⟩) n c) (some (.int .i64 1)) none none).run Try.prog W = .ok (.slice (some ⟨g, a1, none⟩) (n - 1) (c - 1)) W := fun W => by
    have h := slice_l W g a n c 1 (by omega) HCP.out
    rw [← ha1] at h
    exact h
  have HA1 := Lib.hid (show 1 < c → a1 = a + 1 from fun h => by rw [ha1]; exact bof_lt h)
  obtain ⟨W, hW⟩ : ∃ W, W = w.alloc (.cells (TK 0 emv emv nil8) 31) := ⟨_, rfl⟩
  have HBW := Lib.hid (show Below w.heap.size w W from by rw [hW]; exact (Below.refl _ _).alloc (Nat.le_refl _) _)
  have HB1 := Lib.hid (show Bt W g a1 (n - 1) (c - 1) (l.drop 1) from (HB.out.below HBW.out).drop (by omega) (fun h => HA1.out (by have := HCP.out; omega)) (by have := HCP.out; omega))
  have HBK := Lib.hid (show Blk W w.heap.size (TK 0 emv emv nil8) 31 from by rw [hW]; exact Blk.alloc _ _ _)
  have HNM := Lib.hid (name_calls g a1 (n - 1) (c - 1) (l.drop 1) W HB1.out (by omega))
  rw [hW] at HNM
  unfold NmPost at HNM
  clear ha1
  have hmf : ∀ (fn : Fn) (first cap : Array Value) (w : World), (Instr.makeFunc fn first cap).run Try.prog w = .ok (.func fn first cap) w := fun _ _ _ _ => rfl
  cases hnm : nmF (l.drop 1) with
  | none =>
    have HN := Lib.hid (show opF l = none from by unfold opF; rw [hnm])
    rw [hnm] at HNM
    dsimp only at HNM
    clear hnm
    go_enter Try.func22, Try.ntmps22
    go_wp2_with (first | (go_at_call 17; refine HNM.out.mono ?_; rintro e w1 ⟨rfl, hb⟩; have HB2 := Lib.hid (show Below w.heap.size w w1 from by have h1 := HBW.out; rw [hW] at h1; exact h1.trans (hb.mono h1.size)); have HK := Lib.hid (show Blk w1 w.heap.size (TK 0 emv emv nil8) 31 from HBK.out.below (by rw [hW]; exact hb) HBK.out.lt); clear hb) | ((with_reducible refine Mix.at_st (t := 31) ?_); refine Mix.wpList_store_blk (o := ⟨none, .store 31 _ _, _, _, _, _⟩) rfl 31 _ _ rfl w.heap.size (TK 0 emv emv nil8) rfl rfl 31 (TK 0 emv emv nil8) HK.out (info_tok _ _ _ _) rfl (tk_all _ _ _ _ _ _) ?_; intro W3 hb3 hbu hsz3; have e1 : W3.cell? ⟨w.heap.size, 0, none⟩ = some (.int .i64 0) := hb3.cell 0; have e2 : W3.cell? ⟨w.heap.size, 1, none⟩ = some emv := hb3.cell 1; have e3 : W3.cell? ⟨w.heap.size, 2, none⟩ = some emv := hb3.cell 2; have e4 : W3.cell? ⟨w.heap.size, 3, none⟩ = some nil8 := hb3.cell 3; have HB3 := Lib.hid hb3; have HBU := Lib.hid hbu; have HSZ := Lib.hid hsz3; clear hb3 hbu hsz3))
    refine bodyPost_ret (v := .tuple #[.agg (TK 0 emv emv nil8), nil8, .bool false]) (by simp [results, Try.results22, go_sem, e1, e2, e3, e4]; first | done | exact ⟨rfl, rfl⟩) rfl ⟨by rw [HN.out]; exact rfl, HB2.out.trans (HBU.out.below (Nat.le_refl _) HB2.out.size)⟩
  | some kn =>
    rw [hnm] at HNM
    dsimp only at HNM
    have hk := nmF_some hnm
    have hkl : kn ≤ n - 1 := by have := hk.2.2.2.1; rw [List.length_drop, HLN.out] at this; exact this
    have hk1 : 0 < kn := hk.2.1
    obtain ⟨R, hR⟩ : ∃ R, opL l (l.length + 1) (1 + kn) [] = R := ⟨_, rfl⟩
    have HOP := Lib.hid (show opF l = R.map fun (as_, u) => (kn, as_, u) from by unfold opF; rw [hnm, ← hR])
    have HR0 := Lib.hid hR
    obtain ⟨a2, ha2⟩ : ∃ a2, a2 = bof a1 (n - 1) kn := ⟨_, rfl⟩
    rw [← ha2] at HNM
    have HA2 := Lib.hid (show 1 + kn < n → a2 = a + (1 + kn) from fun h => by rw [ha2, bof_lt (by omega), HA1.out (by have := HCP.out; omega)]; omega)
    obtain ⟨nm, hnmv⟩ : ∃ nm, nm = st (lows ((l.drop 1).take kn)) := ⟨_, rfl⟩
    rw [← hnmv] at HNM
    have HNV := Lib.hid hnmv
    clear hnm hk ha2 hR hnmv
    have hn1 : n - 1 - kn = n - (1 + kn) := by omega
    rw [hn1] at HNM
    clear hn1
    go_enter Try.func22, Try.ntmps22
    go_wp2_with (go_at_call 17; refine HNM.out.mono ?_; rintro e w1 ⟨rfl, hb⟩; have HB2 := Lib.hid (show Below w.heap.size w w1 from by have h1 := HBW.out; rw [hW] at h1; exact h1.trans (hb.mono h1.size)); have HK := Lib.hid (show Blk w1 w.heap.size (TK 0 emv emv nil8) 31 from HBK.out.below (by rw [hW]; exact hb) HBK.out.lt); clear hb)
    obtain ⟨ht, hht⟩ : ∃ ht, ht = w1.heap.size := ⟨_, rfl⟩
    have HI0 := Lib.hid (show OpI w ht nm nil8 [] (w1.alloc (.cells (TK 1 (.string nm) emv nil8) 31)) from
      ⟨HB2.out.alloc HB2.out.size _, HK.out.alloc_old _, Blk.alloc_at _ _ _ hht, Kd.R_nil _ _ _ _ _, by rw [hht]; exact HK.out.lt⟩)
    have HHT := Lib.hid hht
    rw [← hht]
    clear hht
    clear hW HBW HB1 HBK HNM HK HB2 hsl HA1 hc1
    go_loopw [6] (fun rv wr => ∃ (f o ar m : Nat) (av : Value) (as_ : List S36), rv = .slice (some ⟨g, ar, none⟩) m m ∧ m ≤ n ∧ Hid (m = n - o ∧ o ≤ n) ∧ Hid (o < n → ar = a + o) ∧ Hid (OpI w ht nm av as_ wr) ∧ Hid (opL l f o as_ = R) ∧ Hid (m < f) ∧ Hid (as_.length ≤ o)) (fun rv _ => slz rv)
    case atStart => exact ⟨l.length + 1, 1 + kn, a2, n - (1 + kn), nil8, [], rfl, by omega, Lib.hid ⟨rfl, by omega⟩, HA2, HI0, HR0, Lib.hid (by have := HLN.out; omega), Lib.hid (Nat.zero_le _)⟩
    case round =>
      clear HI0 HR0 HA2
      obtain ⟨f, o, ar, m, av, as_, rfl, hmn, HO, HAR, HI, HL, HF, HAL⟩ := hrel
      obtain ⟨f, rfl⟩ : ∃ f', f = f' + 1 := ⟨f - 1, by have := HF.out; omega⟩
      have HBR := Lib.hid (show ∀ y, Below w.heap.size w y → Bt y g ar m m (l.drop o) from fun y hy => by
        have h := (HB.out.below hy).drop (k := o) (a' := ar) (c' := m) HO.out.2 HAR.out (by have := HO.out.1; omega)
        rw [← HO.out.1] at h
        exact h)
      obtain ⟨sp, hsp⟩ : ∃ sp, spLen (l.drop o) = sp := ⟨_, rfl⟩
      have hspl : sp ≤ m := by have h := spLen_le (l.drop o); rw [hsp, List.length_drop, HLN.out] at h; have := HO.out; omega
      have HSP := Lib.hid hsp
      obtain ⟨a3, ha3⟩ : ∃ a3, a3 = bof ar m sp := ⟨_, rfl⟩
      obtain ⟨m1, hm1⟩ : ∃ m1, m1 = m - sp := ⟨_, rfl⟩
      obtain ⟨b1, hb1⟩ : ∃ b1, b1 = decide (0 < sp) := ⟨_, rfl⟩
      have HSC := Lib.hid (show Calls Try.prog 29 #[.slice (some ⟨g, ar, none⟩) m m] wr fun e w' => e = .returned (.tuple #[.slice (some ⟨g, a3, none⟩) m1 m1, .bool b1]) ∧ wr = w' from by
        have h := space_calls g ar m m (l.drop o) wr (HBR.out _ HI.out.below) (by omega)
        unfold SpPost at h
        rw [hsp, ← ha3, ← hm1, ← hb1] at h
        exact h)
      obtain ⟨o1, ho1⟩ : ∃ o1, o1 = o + sp := ⟨_, rfl⟩
      have HO1 := Lib.hid ho1
      have HA3 := Lib.hid (show o1 < n → a3 = a + o1 from fun h => by have := HO.out; rw [ha3, bof_lt (by omega), HAR.out (by omega)]; omega)
      have HM1 := Lib.hid (show m1 = n - o1 ∧ o1 ≤ n from by have := HO.out; omega)
      have HBR1 := Lib.hid (show ∀ y, Below w.heap.size w y → Bt y g a3 m1 m1 (l.drop o1) from fun y hy => by
        have h2 := (HBR.out y hy).drop (k := sp) (a' := a3) (c' := m1) hspl (fun h => by rw [ha3]; exact bof_lt h) (by omega)
        rw [List.drop_drop, ← hm1, ← ho1] at h2
        exact h2)
      have HBB := Lib.hid hb1
      have hm1n : m1 ≤ n := by omega
      have hL := HL.out
      rw [opL, hsp, ← ho1] at hL
      have HLL := Lib.hid hL
      clear hsp ha3 hm1 hb1 ho1 hL HL
      by_cases hz : 0 < m1 ∧ (l.drop o1).head? = some 62
      · obtain ⟨hz1, hz2⟩ := hz
        have hll : 0 < (l.drop o1).length := by rw [List.length_drop, HLN.out]; have := HM1.out; omega
        have c1 : wr.cell? ⟨g, a3, none⟩ = some (.int .u8 62) := by
          have h := (HBR1.out _ HI.out.below).cell 0 hll
          rw [List.head?_eq_getElem?, List.getElem?_eq_getElem hll] at hz2
          injection hz2 with hz2
          rw [hz2] at h
          exact h
        have hL := HLL.out
        rw [if_pos hz2] at hL
        have HN := Lib.hid (show opF l = some (kn, as_, o1 + 1) from by rw [HOP.out, ← hL]; rfl)
        have v3 : (0 : Int) < (m1 : Int) := by omega
        obtain ⟨a4, ha4⟩ : ∃ a4, a4 = bof a3 m1 1 := ⟨_, rfl⟩
        have hsl2 : ∀ W : World, (Instr.slice 45 (.slice (some ⟨g, a3, none⟩) m1 m1) (some (.int .i64 1)) (some (.int .i64 (m1 : Int))) (some (.int .i64 (m1 : Int)))).run Try.prog W = .ok (.slice (some ⟨g, a4, none⟩) (m1 - 1) (m1 - 1)) W := fun W => by
          have h := slice_lhm W g a3 m1 m1 1 (by omega) (Nat.le_refl _)
          rw [← ha4] at h
          exact h
        have HA4 := Lib.hid (show o1 + 1 < n → a4 = a + (o1 + 1) from fun h => by
          have hm := HM1.out
          rw [ha4, bof_lt (by omega), HA3.out (by omega)]
          omega)
        clear ha4 hz2 hL hll
        go_upto_region 7 with (go_at_call 29; refine HSC.out.mono ?_; rintro e w' ⟨rfl, rfl⟩)
        have hC0 : OpC w nm av as_ wr.drew 0 wr.drew := rfl
        have ne : Nonempty (Mix.Wd (OpC w nm av as_ wr.drew) 0) := ⟨⟨wr.drew, 0, Nat.le_refl _, hC0⟩⟩
        have ne0 : Nonempty (Mix.Wx (OpC w nm av as_ wr.drew) 0 0) := ⟨⟨wr.drew, 0, Nat.le_refl _, Nat.le_refl _, hC0⟩⟩
        have hx0 : ∀ x : Mix.Wx (OpC w nm av as_ wr.drew) 0 0, Blk x.1 ht (TK 1 (.string nm) emv av) 31 := fun x => by
          obtain ⟨y, i, h1, h2, h3⟩ := x
          obtain rfl : i = 0 := by omega
          have h3' : y = wr.drew := h3
          subst h3'
          exact HI.out.tok.drew
        obtain ⟨A0, c0, hav⟩ := Kd.R_slice HI.out.row
        subst hav
        have d1 : ∀ x : Mix.Wx (OpC w nm (.slice A0 as_.length c0) as_ wr.drew) 0 0, x.1.cell? ⟨ht, 0, none⟩ = some (.int .i64 1) := fun x => (hx0 x).cell 0
        have d2 : ∀ x : Mix.Wx (OpC w nm (.slice A0 as_.length c0) as_ wr.drew) 0 0, x.1.cell? ⟨ht, 1, none⟩ = some (.string nm) := fun x => (hx0 x).cell 1
        have d3 : ∀ x : Mix.Wx (OpC w nm (.slice A0 as_.length c0) as_ wr.drew) 0 0, x.1.cell? ⟨ht, 2, none⟩ = some (.string ⟨#[]⟩) := fun x => (hx0 x).cell 2
        have d4 : ∀ x : Mix.Wx (OpC w nm (.slice A0 as_.length c0) as_ wr.drew) 0 0, x.1.cell? ⟨ht, 3, none⟩ = some (.slice A0 as_.length c0) := fun x => (hx0 x).cell 3
        refine Mix.wp_region_mix (C := OpC w nm (.slice A0 as_.length c0) as_ wr.drew) [7] (by kernel_rfl) (by kernel_rfl) hC0 ?_
        (refine Mix.mix_in 0 0 (by decide) (by kernel_rfl) (fun K hK => ?_); go_simp; refine hK _ ?_; clear hK K)
        iterate 6 (refine Mix.mix_still (by decide) (fun K hK => ?_); go_simp; refine hK _ ?_; clear hK K)
        refine Mix.mix_store (by decide) rfl 31 _ _ rfl w.heap.size (TK 1 (.string nm) emv (.slice A0 as_.length c0)) rfl rfl (info_tok _ _ _ _) (tk_all _ _ _ _ _ _) (fun y hy => ⟨31, TK 0 emv emv nil8, (by have hy' : y = wr.drew := hy; rw [hy']; exact HI.out.res.drew), rfl, (by have hy' : y = wr.drew := hy; rw [hy']; exact ⟨Mix.blk_setRow HI.out.res.drew, Kd.R_step (Kd.R_types (Kd.R_below HI.out.row (below_drewN (Below.refl _ _) 1)) HI.out.res.drew typ_attr) (fun k hk _ => setRow_other _ _ _ _ hk.2) |> (Kd.R_mono · (fun _ hk => hk.1)), (below_drewN HI.out.below 1).trans ((Mix.but_setRow _ _ _).below (Nat.le_refl _) HI.out.below.size)⟩)⟩) ?_
        iterate 2 (refine Mix.mix_still (by decide) (fun K hK => ?_); go_simp; refine hK _ ?_; clear hK K)
        refine Mix.mix_nil ?_
        intro w6 hw6
        have hw6' : Blk w6 w.heap.size (TK 1 (.string nm) emv (.slice A0 as_.length c0)) 31 ∧ k36.R 36 w6 w.heap.size (fun _ => True) (.slice A0 as_.length c0) as_ ∧ Below w.heap.size w w6 := hw6
        have HW6 := Lib.hid hw6'.2
        have e1 : w6.cell? ⟨w.heap.size, 0, none⟩ = some (.int .i64 1) := hw6'.1.cell 0
        have e2 : w6.cell? ⟨w.heap.size, 1, none⟩ = some (.string nm) := hw6'.1.cell 1
        have e3 : w6.cell? ⟨w.heap.size, 2, none⟩ = some emv := hw6'.1.cell 2
        have e4 : w6.cell? ⟨w.heap.size, 3, none⟩ = some (.slice A0 as_.length c0) := hw6'.1.cell 3
        clear hw6 hw6' ne ne0 hC0 hx0 d1 d2 d3 d4 hsl2 hmf
        show Exit.then _ _ _ _ w6
        go_wp2_with fail
        refine bodyPost_ret (v := .tuple #[.agg (TK 1 (.string nm) emv (.slice A0 as_.length c0)), .slice (some ⟨g, a4, none⟩) (m1 - 1) (m1 - 1), .bool true]) (by simp [results, Try.results22, go_sem, e1, e2, e3, e4]; first | done | rfl) rfl ⟨by rw [HN.out]; show TakeP g a n w ⟨1, st (lows ((l.drop 1).take kn)), ⟨#[]⟩, as_⟩ (o1 + 1) _ _; rw [← HNV.out]; exact ⟨[.int .i64 1, .string nm, .string ⟨#[]⟩, .slice A0 as_.length c0], a4, k31_mkM _ _ _ ⟨1, nm, ⟨#[]⟩, as_⟩ HW6.out.1, HA4.out, by have := HM1.out; rw [show m1 - 1 = n - (o1 + 1) by omega]; rfl⟩, HW6.out.2⟩
      · have HZ := Lib.hid (show ¬ (l.drop o1).head? = some 62 from fun h => hz ⟨by
          rcases Nat.eq_zero_or_pos m1 with h0 | h0
          · rw [List.drop_of_length_le (by rw [HLN.out]; have := HM1.out; omega)] at h
            simp at h
          · exact h0, h⟩)
        obtain ⟨A0, c0, hav⟩ := Kd.R_slice HI.out.row
        subst hav
        clear hz
        by_cases hm10 : m1 = 0
        · have v3 : ¬ (0 : Int) < (m1 : Int) := by omega
          have hnm : nmF (l.drop o1) = none := by rw [List.drop_of_length_le (by rw [HLN.out]; have := HM1.out; omega)]; rfl
          clear hm10
          have HNR := Lib.hid (show Calls Try.prog 17 #[.slice (some ⟨g, a3, none⟩) m1 m1] wr fun e w' => e = .returned (.tuple #[.string ⟨#[]⟩, .slice none 0 0, .bool false]) ∧ Below wr.heap.size wr w' from by
            have h := name_calls g a3 m1 m1 (l.drop o1) wr (HBR1.out _ HI.out.below) (by omega)
            unfold NmPost at h
            rw [hnm] at h
            exact h)
          have HN := Lib.hid (show opF l = none from by
            have hL := HLL.out
            rw [if_neg HZ.out, hnm] at hL
            rw [HOP.out, ← hL]
            rfl)
          clear hnm

          cases b1 with
          | true =>
            go_wp2_with (first | (go_at_call 29; refine HSC.out.mono ?_; rintro e w' ⟨rfl, rfl⟩) | (go_at_call 17; refine HNR.out.mono ?_; rintro e wn ⟨rfl, hb⟩; have HIn := Lib.hid ((HI.out.step hb).step ((Below.refl _ _).alloc (Nat.le_refl _) (.cells #[.string ⟨#[]⟩] 9))); clear hb) | ((with_reducible refine Mix.at_st (t := 31) ?_); refine Mix.wpList_store_blk (o := ⟨none, .store 31 _ _, _, _, _, _⟩) rfl 31 _ _ rfl w.heap.size (TK 0 emv emv nil8) rfl rfl 31 (TK 0 emv emv nil8) HIn.out.res (info_tok _ _ _ _) rfl (tk_all _ _ _ _ _ _) ?_; intro W3 hb3 hbu hsz3; have e1 : W3.cell? ⟨w.heap.size, 0, none⟩ = some (.int .i64 0) := hb3.cell 0; have e2 : W3.cell? ⟨w.heap.size, 1, none⟩ = some emv := hb3.cell 1; have e3 : W3.cell? ⟨w.heap.size, 2, none⟩ = some emv := hb3.cell 2; have e4 : W3.cell? ⟨w.heap.size, 3, none⟩ = some nil8 := hb3.cell 3; have HB3 := Lib.hid hb3; have HBU := Lib.hid hbu; have HSZ := Lib.hid hsz3; clear hb3 hbu hsz3))
            refine bodyPost_ret (v := .tuple #[.agg (TK 0 emv emv nil8), nil8, .bool false]) (by simp [results, Try.results22, go_sem, e1, e2, e3, e4]; first | done | exact ⟨rfl, rfl⟩) rfl ⟨by rw [HN.out]; exact rfl, HIn.out.below.trans (HBU.out.below (Nat.le_refl _) HIn.out.below.size)⟩
          | false =>
            go_wp2_with (first | (go_at_call 29; refine HSC.out.mono ?_; rintro e w' ⟨rfl, rfl⟩) | (go_at_call 17; refine HNR.out.mono ?_; rintro e wn ⟨rfl, hb⟩; have HIn := Lib.hid ((HI.out.step hb).step ((Below.refl _ _).alloc (Nat.le_refl _) (.cells #[.string ⟨#[]⟩] 9))); clear hb) | ((with_reducible refine Mix.at_st (t := 31) ?_); refine Mix.wpList_store_blk (o := ⟨none, .store 31 _ _, _, _, _, _⟩) rfl 31 _ _ rfl w.heap.size (TK 0 emv emv nil8) rfl rfl 31 (TK 0 emv emv nil8) HIn.out.res (info_tok _ _ _ _) rfl (tk_all _ _ _ _ _ _) ?_; intro W3 hb3 hbu hsz3; have e1 : W3.cell? ⟨w.heap.size, 0, none⟩ = some (.int .i64 0) := hb3.cell 0; have e2 : W3.cell? ⟨w.heap.size, 1, none⟩ = some emv := hb3.cell 1; have e3 : W3.cell? ⟨w.heap.size, 2, none⟩ = some emv := hb3.cell 2; have e4 : W3.cell? ⟨w.heap.size, 3, none⟩ = some nil8 := hb3.cell 3; have HB3 := Lib.hid hb3; have HBU := Lib.hid hbu; have HSZ := Lib.hid hsz3; clear hb3 hbu hsz3))
            refine bodyPost_ret (v := .tuple #[.agg (TK 0 emv emv nil8), nil8, .bool false]) (by simp [results, Try.results22, go_sem, e1, e2, e3, e4]; first | done | exact ⟨rfl, rfl⟩) rfl ⟨by rw [HN.out]; exact rfl, HIn.out.below.trans (HBU.out.below (Nat.le_refl _) HIn.out.below.size)⟩

        · have v3 : (0 : Int) < (m1 : Int) := by omega
          have hll : 0 < (l.drop o1).length := by rw [List.length_drop, HLN.out]; have := HM1.out; omega
          obtain ⟨d5, hd5⟩ : ∃ d5, d5 = (l.drop o1)[0]'hll := ⟨_, rfl⟩
          have c1 : wr.cell? ⟨g, a3, none⟩ = some (.int .u8 (d5.toNat : Int)) := by rw [hd5]; exact (HBR1.out _ HI.out.below).cell 0 hll
          have v4 : ((d5.toNat : Int) == 62) = false := by
            have : d5.toNat ≠ 62 := fun h => HZ.out (by rw [List.head?_eq_getElem?, List.getElem?_eq_getElem hll, ← hd5]; congr 1; apply UInt8.toNat_inj.1; exact h)
            simp; omega
          clear hd5 hll
          cases hnm : nmF (l.drop o1) with
          | none =>
            have HNR := Lib.hid (show Calls Try.prog 17 #[.slice (some ⟨g, a3, none⟩) m1 m1] wr fun e w' => e = .returned (.tuple #[.string ⟨#[]⟩, .slice none 0 0, .bool false]) ∧ Below wr.heap.size wr w' from by
              have h := name_calls g a3 m1 m1 (l.drop o1) wr (HBR1.out _ HI.out.below) (by omega)
              unfold NmPost at h
              rw [hnm] at h
              exact h)
            have HN := Lib.hid (show opF l = none from by
              have hL := HLL.out
              rw [if_neg HZ.out, hnm] at hL
              rw [HOP.out, ← hL]
              rfl)
            clear hnm

            cases b1 with
            | true =>
              go_wp2_with (first | (go_at_call 29; refine HSC.out.mono ?_; rintro e w' ⟨rfl, rfl⟩) | (go_at_call 17; refine HNR.out.mono ?_; rintro e wn ⟨rfl, hb⟩; have HIn := Lib.hid ((HI.out.step hb).step ((Below.refl _ _).alloc (Nat.le_refl _) (.cells #[.string ⟨#[]⟩] 9))); clear hb) | ((with_reducible refine Mix.at_st (t := 31) ?_); refine Mix.wpList_store_blk (o := ⟨none, .store 31 _ _, _, _, _, _⟩) rfl 31 _ _ rfl w.heap.size (TK 0 emv emv nil8) rfl rfl 31 (TK 0 emv emv nil8) HIn.out.res (info_tok _ _ _ _) rfl (tk_all _ _ _ _ _ _) ?_; intro W3 hb3 hbu hsz3; have e1 : W3.cell? ⟨w.heap.size, 0, none⟩ = some (.int .i64 0) := hb3.cell 0; have e2 : W3.cell? ⟨w.heap.size, 1, none⟩ = some emv := hb3.cell 1; have e3 : W3.cell? ⟨w.heap.size, 2, none⟩ = some emv := hb3.cell 2; have e4 : W3.cell? ⟨w.heap.size, 3, none⟩ = some nil8 := hb3.cell 3; have HB3 := Lib.hid hb3; have HBU := Lib.hid hbu; have HSZ := Lib.hid hsz3; clear hb3 hbu hsz3))
              refine bodyPost_ret (v := .tuple #[.agg (TK 0 emv emv nil8), nil8, .bool false]) (by simp [results, Try.results22, go_sem, e1, e2, e3, e4]; first | done | exact ⟨rfl, rfl⟩) rfl ⟨by rw [HN.out]; exact rfl, HIn.out.below.trans (HBU.out.below (Nat.le_refl _) HIn.out.below.size)⟩
            | false =>
              go_wp2_with (first | (go_at_call 29; refine HSC.out.mono ?_; rintro e w' ⟨rfl, rfl⟩) | (go_at_call 17; refine HNR.out.mono ?_; rintro e wn ⟨rfl, hb⟩; have HIn := Lib.hid ((HI.out.step hb).step ((Below.refl _ _).alloc (Nat.le_refl _) (.cells #[.string ⟨#[]⟩] 9))); clear hb) | ((with_reducible refine Mix.at_st (t := 31) ?_); refine Mix.wpList_store_blk (o := ⟨none, .store 31 _ _, _, _, _, _⟩) rfl 31 _ _ rfl w.heap.size (TK 0 emv emv nil8) rfl rfl 31 (TK 0 emv emv nil8) HIn.out.res (info_tok _ _ _ _) rfl (tk_all _ _ _ _ _ _) ?_; intro W3 hb3 hbu hsz3; have e1 : W3.cell? ⟨w.heap.size, 0, none⟩ = some (.int .i64 0) := hb3.cell 0; have e2 : W3.cell? ⟨w.heap.size, 1, none⟩ = some emv := hb3.cell 1; have e3 : W3.cell? ⟨w.heap.size, 2, none⟩ = some emv := hb3.cell 2; have e4 : W3.cell? ⟨w.heap.size, 3, none⟩ = some nil8 := hb3.cell 3; have HB3 := Lib.hid hb3; have HBU := Lib.hid hbu; have HSZ := Lib.hid hsz3; clear hb3 hbu hsz3))
              refine bodyPost_ret (v := .tuple #[.agg (TK 0 emv emv nil8), nil8, .bool false]) (by simp [results, Try.results22, go_sem, e1, e2, e3, e4]; first | done | exact ⟨rfl, rfl⟩) rfl ⟨by rw [HN.out]; exact rfl, HIn.out.below.trans (HBU.out.below (Nat.le_refl _) HIn.out.below.size)⟩

          | some k =>
            have hk := nmF_some hnm
            have hkm : k ≤ m1 := by have h := hk.2.2.2.1; rw [List.length_drop, HLN.out] at h; have := HM1.out; omega
            have hk0 : 0 < k := hk.2.1
            obtain ⟨key, hkey⟩ : ∃ key, key = st (lows ((l.drop o1).take k)) := ⟨_, rfl⟩
            obtain ⟨a5, ha5⟩ : ∃ a5, a5 = bof a3 m1 k := ⟨_, rfl⟩
            obtain ⟨m2, hm2⟩ : ∃ m2, m2 = m1 - k := ⟨_, rfl⟩
            obtain ⟨o2, ho2⟩ : ∃ o2, o2 = o1 + k := ⟨_, rfl⟩
            have HNR := Lib.hid (show Calls Try.prog 17 #[.slice (some ⟨g, a3, none⟩) m1 m1] wr fun e w' => e = .returned (.tuple #[.string key, .slice (some ⟨g, a5, none⟩) m2 m2, .bool true]) ∧ Below wr.heap.size wr w' from by
              have h := name_calls g a3 m1 m1 (l.drop o1) wr (HBR1.out _ HI.out.below) (by omega)
              unfold NmPost at h
              rw [hnm] at h
              dsimp only at h
              rw [← hkey, ← ha5, ← hm2] at h
              exact h)
            have HA5 := Lib.hid (show o2 < n → a5 = a + o2 from fun h => by have := HM1.out; rw [ha5, bof_lt (by omega), HA3.out (by omega)]; omega)
            have HM2 := Lib.hid (show m2 = n - o2 ∧ o2 ≤ n from by have := HM1.out; omega)
            have HBR2 := Lib.hid (show ∀ y, Below w.heap.size w y → Bt y g a5 m2 m2 (l.drop o2) from fun y hy => by
              have h2 := (HBR1.out y hy).drop (k := k) (a' := a5) (c' := m2) hkm (fun h => by rw [ha5]; exact bof_lt h) (by omega)
              rw [List.drop_drop, ← hm2, ← ho2] at h2
              exact h2)
            have HO2 := Lib.hid (show o < o2 from by have := HO1.out; omega)
            have hm2n : m2 ≤ n := by omega
            have hL := HLL.out
            rw [if_neg HZ.out, hnm] at hL
            dsimp only at hL
            rw [← hkey, ← ho2] at hL
            have HLK := Lib.hid hL
            have HALB := Lib.hid (show (as_.length + 1) * 32 ≤ 140737488355328 from by have := HAL.out; have := HO.out.2; omega)
            have HCFA := Lib.hid (show ∀ y b, k36.C y A0 as_.length as_ → y.cell? ⟨b, 0, none⟩ = some (.string key) → b < y.heap.size → Calls Try.prog 31 #[.slice A0 as_.length c0, .func (.func 32) #[] #[.pointer (some ⟨b, 0, none⟩)]] y fun e w' => e = .returned (.bool (as_.any fun x => eqS x.f0 key)) ∧ Below y.heap.size y w' from fun y b h1 h2 h3 => hasKey_calls A0 c0 as_ b key y h1 (by have := HAL.out; have := HO.out.2; omega) h2 h3)
            clear hk hkey ha5 hm2 ho2 hL hnm HLL
            by_cases hs0 : sp = 0
            · have HB1F := Lib.hid (show b1 = false from by rw [HBB.out, hs0]; rfl)
              have HN := Lib.hid (show opF l = none from by
                have hL := HLK.out
                rw [if_pos hs0] at hL
                rw [HOP.out, ← hL]
                rfl)
              obtain rfl : b1 = false := HB1F.out
              clear HB1F HBB hs0
              go_wp2_with (first | (go_at_call 29; refine HSC.out.mono ?_; rintro e w' ⟨rfl, rfl⟩) | (go_at_call 17; refine HNR.out.mono ?_; rintro e wn ⟨rfl, hb⟩; have HIn := Lib.hid ((HI.out.step hb).step ((Below.refl _ _).alloc (Nat.le_refl _) (.cells #[.string key] 9))); clear hb) | ((with_reducible refine Mix.at_st (t := 31) ?_); refine Mix.wpList_store_blk (o := ⟨none, .store 31 _ _, _, _, _, _⟩) rfl 31 _ _ rfl w.heap.size (TK 0 emv emv nil8) rfl rfl 31 (TK 0 emv emv nil8) HIn.out.res (info_tok _ _ _ _) rfl (tk_all _ _ _ _ _ _) ?_; intro W3 hb3 hbu hsz3; have e1 : W3.cell? ⟨w.heap.size, 0, none⟩ = some (.int .i64 0) := hb3.cell 0; have e2 : W3.cell? ⟨w.heap.size, 1, none⟩ = some emv := hb3.cell 1; have e3 : W3.cell? ⟨w.heap.size, 2, none⟩ = some emv := hb3.cell 2; have e4 : W3.cell? ⟨w.heap.size, 3, none⟩ = some nil8 := hb3.cell 3; have HB3 := Lib.hid hb3; have HBU := Lib.hid hbu; have HSZ := Lib.hid hsz3; clear hb3 hbu hsz3))
              refine bodyPost_ret (v := .tuple #[.agg (TK 0 emv emv nil8), nil8, .bool false]) (by simp [results, Try.results22, go_sem, e1, e2, e3, e4]; first | done | exact ⟨rfl, rfl⟩) rfl ⟨by rw [HN.out]; exact rfl, HIn.out.below.trans (HBU.out.below (Nat.le_refl _) HIn.out.below.size)⟩
            · have HB1T := Lib.hid (show b1 = true from by rw [HBB.out]; simp; omega)
              obtain rfl : b1 = true := HB1T.out
              clear HB1T HBB
              have hL := HLK.out
              rw [if_neg hs0] at hL
              have HLK2 := Lib.hid hL
              clear hL HLK hs0
              cases hq : qF (l.drop o2) with
              | some v =>
                have hqs := (qF_some hq).1
                rw [List.length_drop, HLN.out] at hqs
                obtain ⟨val, hval⟩ : ∃ val, val = st (tellF (st v) 0) := ⟨_, rfl⟩
                obtain ⟨a6, ha6⟩ : ∃ a6, a6 = bof a5 m2 (v.length + 3) := ⟨_, rfl⟩
                obtain ⟨m3, hm3⟩ : ∃ m3, m3 = m2 - (v.length + 3) := ⟨_, rfl⟩
                obtain ⟨o3, ho3⟩ : ∃ o3, o3 = o2 + (v.length + 3) := ⟨_, rfl⟩
                have HQ := Lib.hid (show ∀ y, Below w.heap.size w y → Calls Try.prog 30 #[.slice (some ⟨g, a5, none⟩) m2 m2] y fun e w' => e = .returned (.tuple #[.string val, .slice (some ⟨g, a6, none⟩) m3 m3, .bool true]) ∧ Below y.heap.size y w' from fun y hy => by
                  have h := quoted_calls g a5 m2 m2 (l.drop o2) y (HBR2.out y hy) (by omega)
                  unfold QuPost at h
                  rw [hq] at h
                  dsimp only at h
                  rw [← hval, ← ha6, ← hm3] at h
                  exact h)
                have HLQ := Lib.hid (show opL l f o3 (addA as_ key val) = R from by
                  have hL := HLK2.out
                  rw [hq] at hL
                  dsimp only at hL
                  rw [← hval, ← ho3] at hL
                  exact hL)
                have HM3 := Lib.hid (show m3 = n - o3 ∧ o3 ≤ n from by have := HM2.out; omega)
                have HO3 := Lib.hid (show o < o3 from by have := HO2.out; omega)
                have HA6 := Lib.hid (show o3 < n → a6 = a + o3 from fun h => by have := HM2.out; rw [ha6, bof_lt (by omega), HA5.out (by omega)]; omega)
                clear hq hval ha6 hm3 ho3 hqs HLK2
                have HCF0 := HCFA.out
                obtain ⟨bc, hbc⟩ : ∃ bc, (as_.any fun x => eqS x.f0 key) = bc := ⟨_, rfl⟩
                have HBC := Lib.hid hbc
                have HCF := Lib.hid (show ∀ y b, k36.C y A0 as_.length as_ → y.cell? ⟨b, 0, none⟩ = some (.string key) → b < y.heap.size → Calls Try.prog 31 #[.slice A0 as_.length c0, .func (.func 32) #[] #[.pointer (some ⟨b, 0, none⟩)]] y fun e w' => e = .returned (.bool bc) ∧ Below y.heap.size y w' from fun y b h1 h2 h3 => by
                  have h := HCF0 y b h1 h2 h3
                  rw [hbc] at h
                  exact h)
                clear hbc HCF0
                cases bc with
                | true =>
                  go_wp2_with (first | (go_at_call 29; refine HSC.out.mono ?_; rintro e w' ⟨rfl, rfl⟩) | (go_at_call 17; refine HNR.out.mono ?_; rintro e wn ⟨rfl, hb⟩; have HIn := Lib.hid ((HI.out.step hb).step ((Below.refl _ _).alloc (Nat.le_refl _) (.cells #[.string key] 9))); clear hb) | (go_at_call 30; refine (HQ.out _ HIn.out.below).mono ?_; rintro e w2 ⟨rfl, hb⟩; have HI2 := Lib.hid (HIn.out.step hb); have ck : w2.cell? ⟨wn.heap.size, 0, none⟩ = some (.string key) := (by rw [hb.cell (p := ⟨wn.heap.size, 0, none⟩) (by simp)]; exact (Blk.alloc wn _ _).cell 0); have hkl2 : wn.heap.size < w2.heap.size := (Nat.lt_of_lt_of_le (by simp) hb.size); have HCK := Lib.hid ck; have HKL2 := Lib.hid hkl2; have c3 : w2.cell? ⟨ht, 3, none⟩ = some (.slice A0 as_.length c0) := HI2.out.tok.cell 3; clear hb ck hkl2) | (go_at_call 31; refine (HCF.out _ _ (Kd.R_reads' HI2.out.row).2.2 HCK.out HKL2.out).mono ?_; rintro e w3 ⟨rfl, hb⟩; have HI3 := Lib.hid (HI2.out.step hb); have ck3 : w3.cell? ⟨wn.heap.size, 0, none⟩ = some (.string key) := (by rw [hb.cell (p := ⟨wn.heap.size, 0, none⟩) HKL2.out]; exact HCK.out); have c33 : w3.cell? ⟨ht, 3, none⟩ = some (.slice A0 as_.length c0) := HI3.out.tok.cell 3; clear hb c3))
                  go_roundw
                  case rel => exact ⟨f, o3, a6, m3, _, as_, rfl, by have := HM3.out; omega, Lib.hid HM3.out, HA6, HI3, Lib.hid (by have h := HLQ.out; unfold addA at h; rw [HBC.out] at h; exact h), Lib.hid (by have := HF.out; have := HM3.out; have := HO3.out; have := HO.out; omega), Lib.hid (by have := HAL.out; have := HO3.out;  omega)⟩
                  case measure => show slz _ < slz _; have := HM3.out; have := HO3.out; have := HO.out; simp only [slz]; omega
                | false =>
                  go_wp2_with (first | (go_at_call 29; refine HSC.out.mono ?_; rintro e w' ⟨rfl, rfl⟩) | (go_at_call 17; refine HNR.out.mono ?_; rintro e wn ⟨rfl, hb⟩; have HIn := Lib.hid ((HI.out.step hb).step ((Below.refl _ _).alloc (Nat.le_refl _) (.cells #[.string key] 9))); clear hb) | (go_at_call 30; refine (HQ.out _ HIn.out.below).mono ?_; rintro e w2 ⟨rfl, hb⟩; have HI2 := Lib.hid (HIn.out.step hb); have ck : w2.cell? ⟨wn.heap.size, 0, none⟩ = some (.string key) := (by rw [hb.cell (p := ⟨wn.heap.size, 0, none⟩) (by simp)]; exact (Blk.alloc wn _ _).cell 0); have hkl2 : wn.heap.size < w2.heap.size := (Nat.lt_of_lt_of_le (by simp) hb.size); have HCK := Lib.hid ck; have HKL2 := Lib.hid hkl2; have c3 : w2.cell? ⟨ht, 3, none⟩ = some (.slice A0 as_.length c0) := HI2.out.tok.cell 3; clear hb ck hkl2) | (go_at_call 31; refine (HCF.out _ _ (Kd.R_reads' HI2.out.row).2.2 HCK.out HKL2.out).mono ?_; rintro e w3 ⟨rfl, hb⟩; have HI3 := Lib.hid (HI2.out.step hb); have ck3 : w3.cell? ⟨wn.heap.size, 0, none⟩ = some (.string key) := (by rw [hb.cell (p := ⟨wn.heap.size, 0, none⟩) HKL2.out]; exact HCK.out); have c33 : w3.cell? ⟨ht, 3, none⟩ = some (.slice A0 as_.length c0) := HI3.out.tok.cell 3; clear hb c3) | (at_builtin; refine Kd.R_append k36 (w0 := w) w.heap.size rfl _ _ 29 36 (.agg #[.string ⟨#[]⟩, .string ⟨#[]⟩]) 32 rfl Try.underlying29 info_attr rfl (by decide) (by decide) (.slice A0 as_.length c0) as_ ⟨key, val⟩ [.string key, .string val] (fun _ => True) (fun _ => False) rfl rfl (k36_mkM _ _ _ ⟨key, val⟩) (fun _ h => h.elim) (fun _ _ => trivial) HI3.out.row HI3.out.below HI3.out.below.size HALB.out ?_; intro v1 w4 hr hb4 hg4 hat4; have HI4 := Lib.hid (opI_app HI3.out hr hb4 hg4); obtain ⟨A1, c1', hv1⟩ := Kd.R_slice hr; rw [List.length_append, List.length_singleton] at hv1; subst hv1; have c34 : w4.cell? ⟨ht, 3, none⟩ = some (.slice A0 as_.length c0) := HI4.out.1.cell 3; have f34 := HI4.out.1.free 3; clear hr hb4 hg4 hat4))
                  go_roundw
                  case rel => exact ⟨f, o3, a6, m3, _, as_ ++ [⟨key, val⟩], rfl, by have := HM3.out; omega, Lib.hid HM3.out, HA6, Lib.hid HI4.out.2, Lib.hid (by have h := HLQ.out; unfold addA at h; rw [HBC.out] at h; exact h), Lib.hid (by have := HF.out; have := HM3.out; have := HO3.out; have := HO.out; omega), Lib.hid (by have := HAL.out; have := HO3.out; rw [List.length_append, List.length_singleton]; omega)⟩
                  case measure => show slz _ < slz _; have := HM3.out; have := HO3.out; have := HO.out; simp only [slz]; omega

              | none =>
                have HQ := Lib.hid (show ∀ y, Below w.heap.size w y → Calls Try.prog 30 #[.slice (some ⟨g, a5, none⟩) m2 m2] y fun e w' => e = .returned (.tuple #[.string ⟨#[]⟩, .slice (some ⟨g, a5, none⟩) m2 m2, .bool false]) ∧ Below y.heap.size y w' from fun y hy => by
                  have h := quoted_calls g a5 m2 m2 (l.drop o2) y (HBR2.out y hy) (by omega)
                  unfold QuPost at h
                  rw [hq] at h
                  exact h)
                have hL := HLK2.out
                rw [hq] at hL
                dsimp only at hL
                have HLK3 := Lib.hid hL
                clear hq hL HLK2
                by_cases hm0 : m2 = 0
                · have w3 : ¬ (0 : Int) < (m2 : Int) := by omega
                  obtain ⟨val, hval⟩ : ∃ val, val = (⟨#[]⟩ : ByteArray) := ⟨_, rfl⟩
                  obtain ⟨a6, ha6⟩ : ∃ a6, a6 = a5 := ⟨_, rfl⟩
                  obtain ⟨m3, hm3⟩ : ∃ m3, m3 = m2 := ⟨_, rfl⟩
                  obtain ⟨o3, ho3⟩ : ∃ o3, o3 = o2 := ⟨_, rfl⟩
                  have HLQ := Lib.hid (show opL l f o3 (addA as_ key val) = R from by
                    have hL := HLK3.out
                    rw [if_neg (by rw [List.drop_of_length_le (by rw [HLN.out]; have := HM2.out; omega)]; simp)] at hL
                    rw [hval, ho3]
                    exact hL)
                  subst hval ha6 hm3 ho3
                  have HM3 := HM2
                  have HO3 := HO2
                  have HA6 := HA5
                  clear HLK3 hm0
                  have HCF0 := HCFA.out
                  obtain ⟨bc, hbc⟩ : ∃ bc, (as_.any fun x => eqS x.f0 key) = bc := ⟨_, rfl⟩
                  have HBC := Lib.hid hbc
                  have HCF := Lib.hid (show ∀ y b, k36.C y A0 as_.length as_ → y.cell? ⟨b, 0, none⟩ = some (.string key) → b < y.heap.size → Calls Try.prog 31 #[.slice A0 as_.length c0, .func (.func 32) #[] #[.pointer (some ⟨b, 0, none⟩)]] y fun e w' => e = .returned (.bool bc) ∧ Below y.heap.size y w' from fun y b h1 h2 h3 => by
                    have h := HCF0 y b h1 h2 h3
                    rw [hbc] at h
                    exact h)
                  clear hbc HCF0
                  cases bc with
                  | true =>
                    go_wp2_with (first | (go_at_call 29; refine HSC.out.mono ?_; rintro e w' ⟨rfl, rfl⟩) | (go_at_call 17; refine HNR.out.mono ?_; rintro e wn ⟨rfl, hb⟩; have HIn := Lib.hid ((HI.out.step hb).step ((Below.refl _ _).alloc (Nat.le_refl _) (.cells #[.string key] 9))); clear hb) | (go_at_call 30; refine (HQ.out _ HIn.out.below).mono ?_; rintro e w2 ⟨rfl, hb⟩; have HI2 := Lib.hid (HIn.out.step hb); have ck : w2.cell? ⟨wn.heap.size, 0, none⟩ = some (.string key) := (by rw [hb.cell (p := ⟨wn.heap.size, 0, none⟩) (by simp)]; exact (Blk.alloc wn _ _).cell 0); have hkl2 : wn.heap.size < w2.heap.size := (Nat.lt_of_lt_of_le (by simp) hb.size); have HCK := Lib.hid ck; have HKL2 := Lib.hid hkl2; have c3 : w2.cell? ⟨ht, 3, none⟩ = some (.slice A0 as_.length c0) := HI2.out.tok.cell 3; clear hb ck hkl2) | (go_at_call 31; refine (HCF.out _ _ (Kd.R_reads' HI2.out.row).2.2 HCK.out HKL2.out).mono ?_; rintro e w3 ⟨rfl, hb⟩; have HI3 := Lib.hid (HI2.out.step hb); have ck3 : w3.cell? ⟨wn.heap.size, 0, none⟩ = some (.string key) := (by rw [hb.cell (p := ⟨wn.heap.size, 0, none⟩) HKL2.out]; exact HCK.out); have c33 : w3.cell? ⟨ht, 3, none⟩ = some (.slice A0 as_.length c0) := HI3.out.tok.cell 3; clear hb c3))
                    go_roundw
                    case rel => exact ⟨f, o3, a6, m3, _, as_, rfl, by have := HM3.out; omega, Lib.hid HM3.out, HA6, HI3, Lib.hid (by have h := HLQ.out; unfold addA at h; rw [HBC.out] at h; exact h), Lib.hid (by have := HF.out; have := HM3.out; have := HO3.out; have := HO.out; omega), Lib.hid (by have := HAL.out; have := HO3.out;  omega)⟩
                    case measure => show slz _ < slz _; have := HM3.out; have := HO3.out; have := HO.out; simp only [slz]; omega
                  | false =>
                    go_wp2_with (first | (go_at_call 29; refine HSC.out.mono ?_; rintro e w' ⟨rfl, rfl⟩) | (go_at_call 17; refine HNR.out.mono ?_; rintro e wn ⟨rfl, hb⟩; have HIn := Lib.hid ((HI.out.step hb).step ((Below.refl _ _).alloc (Nat.le_refl _) (.cells #[.string key] 9))); clear hb) | (go_at_call 30; refine (HQ.out _ HIn.out.below).mono ?_; rintro e w2 ⟨rfl, hb⟩; have HI2 := Lib.hid (HIn.out.step hb); have ck : w2.cell? ⟨wn.heap.size, 0, none⟩ = some (.string key) := (by rw [hb.cell (p := ⟨wn.heap.size, 0, none⟩) (by simp)]; exact (Blk.alloc wn _ _).cell 0); have hkl2 : wn.heap.size < w2.heap.size := (Nat.lt_of_lt_of_le (by simp) hb.size); have HCK := Lib.hid ck; have HKL2 := Lib.hid hkl2; have c3 : w2.cell? ⟨ht, 3, none⟩ = some (.slice A0 as_.length c0) := HI2.out.tok.cell 3; clear hb ck hkl2) | (go_at_call 31; refine (HCF.out _ _ (Kd.R_reads' HI2.out.row).2.2 HCK.out HKL2.out).mono ?_; rintro e w3 ⟨rfl, hb⟩; have HI3 := Lib.hid (HI2.out.step hb); have ck3 : w3.cell? ⟨wn.heap.size, 0, none⟩ = some (.string key) := (by rw [hb.cell (p := ⟨wn.heap.size, 0, none⟩) HKL2.out]; exact HCK.out); have c33 : w3.cell? ⟨ht, 3, none⟩ = some (.slice A0 as_.length c0) := HI3.out.tok.cell 3; clear hb c3) | (at_builtin; refine Kd.R_append k36 (w0 := w) w.heap.size rfl _ _ 29 36 (.agg #[.string ⟨#[]⟩, .string ⟨#[]⟩]) 32 rfl Try.underlying29 info_attr rfl (by decide) (by decide) (.slice A0 as_.length c0) as_ ⟨key, ⟨#[]⟩⟩ [.string key, .string ⟨#[]⟩] (fun _ => True) (fun _ => False) rfl rfl (k36_mkM _ _ _ ⟨key, ⟨#[]⟩⟩) (fun _ h => h.elim) (fun _ _ => trivial) HI3.out.row HI3.out.below HI3.out.below.size HALB.out ?_; intro v1 w4 hr hb4 hg4 hat4; have HI4 := Lib.hid (opI_app HI3.out hr hb4 hg4); obtain ⟨A1, c1', hv1⟩ := Kd.R_slice hr; rw [List.length_append, List.length_singleton] at hv1; subst hv1; have c34 : w4.cell? ⟨ht, 3, none⟩ = some (.slice A0 as_.length c0) := HI4.out.1.cell 3; have f34 := HI4.out.1.free 3; clear hr hb4 hg4 hat4))
                    go_roundw
                    case rel => exact ⟨f, o3, a6, m3, _, as_ ++ [⟨key, ⟨#[]⟩⟩], rfl, by have := HM3.out; omega, Lib.hid HM3.out, HA6, Lib.hid HI4.out.2, Lib.hid (by have h := HLQ.out; unfold addA at h; rw [HBC.out] at h; exact h), Lib.hid (by have := HF.out; have := HM3.out; have := HO3.out; have := HO.out; omega), Lib.hid (by have := HAL.out; have := HO3.out; rw [List.length_append, List.length_singleton]; omega)⟩
                    case measure => show slz _ < slz _; have := HM3.out; have := HO3.out; have := HO.out; simp only [slz]; omega

                · have w3 : (0 : Int) < (m2 : Int) := by omega
                  have hll : 0 < (l.drop o2).length := by rw [List.length_drop, HLN.out]; have := HM2.out; omega
                  obtain ⟨d6, hd6⟩ : ∃ d6, d6 = (l.drop o2)[0]'hll := ⟨_, rfl⟩
                  have HD6 := Lib.hid (show (l.drop o2).head? = some d6 from by rw [hd6, List.head?_eq_getElem?, List.getElem?_eq_getElem hll])
                  have HC6 := Lib.hid (show ∀ y, Below w.heap.size w y → y.cell? ⟨g, a5, none⟩ = some (.int .u8 (d6.toNat : Int)) from fun y hy => by rw [hd6]; exact (HBR2.out y hy).cell 0 hll)
                  clear hd6 hll
                  by_cases h61 : d6 = 61
                  · subst h61
                    have HN := Lib.hid (show opF l = none from by
                      have hL := HLK3.out
                      rw [if_pos HD6.out] at hL
                      rw [HOP.out, ← hL]
                      rfl)
                    go_wp2_with (first | (go_at_call 29; refine HSC.out.mono ?_; rintro e w' ⟨rfl, rfl⟩) | (go_at_call 17; refine HNR.out.mono ?_; rintro e wn ⟨rfl, hb⟩; have HIn := Lib.hid ((HI.out.step hb).step ((Below.refl _ _).alloc (Nat.le_refl _) (.cells #[.string key] 9))); clear hb) | (go_at_call 30; refine (HQ.out _ HIn.out.below).mono ?_; rintro e w2 ⟨rfl, hb⟩; have HI2 := Lib.hid (HIn.out.step hb); have ck : w2.cell? ⟨wn.heap.size, 0, none⟩ = some (.string key) := (by rw [hb.cell (p := ⟨wn.heap.size, 0, none⟩) (by simp)]; exact (Blk.alloc wn _ _).cell 0); have hkl2 : wn.heap.size < w2.heap.size := (Nat.lt_of_lt_of_le (by simp) hb.size); have HCK := Lib.hid ck; have HKL2 := Lib.hid hkl2; have c3 : w2.cell? ⟨ht, 3, none⟩ = some (.slice A0 as_.length c0) := HI2.out.tok.cell 3; have c61 := HC6.out w2 HI2.out.below; clear hb ck hkl2) | ((with_reducible refine Mix.at_st (t := 31) ?_); refine Mix.wpList_store_blk (o := ⟨none, .store 31 _ _, _, _, _, _⟩) rfl 31 _ _ rfl w.heap.size (TK 0 emv emv nil8) rfl rfl 31 (TK 0 emv emv nil8) HI2.out.res (info_tok _ _ _ _) rfl (tk_all _ _ _ _ _ _) ?_; intro W3 hb3 hbu hsz3; have e1 : W3.cell? ⟨w.heap.size, 0, none⟩ = some (.int .i64 0) := hb3.cell 0; have e2 : W3.cell? ⟨w.heap.size, 1, none⟩ = some emv := hb3.cell 1; have e3 : W3.cell? ⟨w.heap.size, 2, none⟩ = some emv := hb3.cell 2; have e4 : W3.cell? ⟨w.heap.size, 3, none⟩ = some nil8 := hb3.cell 3; have HB3 := Lib.hid hb3; have HBU := Lib.hid hbu; have HSZ := Lib.hid hsz3; clear hb3 hbu hsz3))
                    refine bodyPost_ret (v := .tuple #[.agg (TK 0 emv emv nil8), nil8, .bool false]) (by simp [results, Try.results22, go_sem, e1, e2, e3, e4]; first | done | exact ⟨rfl, rfl⟩) rfl ⟨by rw [HN.out]; exact rfl, HI2.out.below.trans (HBU.out.below (Nat.le_refl _) HI2.out.below.size)⟩
                  · have v61 : ((d6.toNat : Int) == 61) = false := by
                      have : d6.toNat ≠ 61 := fun h => h61 (by apply UInt8.toNat_inj.1; exact h)
                      simp; omega
                    obtain ⟨val, hval⟩ : ∃ val, val = (⟨#[]⟩ : ByteArray) := ⟨_, rfl⟩
                    obtain ⟨a6, ha6⟩ : ∃ a6, a6 = a5 := ⟨_, rfl⟩
                    obtain ⟨m3, hm3⟩ : ∃ m3, m3 = m2 := ⟨_, rfl⟩
                    obtain ⟨o3, ho3⟩ : ∃ o3, o3 = o2 := ⟨_, rfl⟩
                    have HLQ := Lib.hid (show opL l f o3 (addA as_ key val) = R from by
                      have hL := HLK3.out
                      rw [if_neg (by rw [HD6.out]; intro h; injection h with h; exact h61 h)] at hL
                      rw [hval, ho3]
                      exact hL)
                    subst hval ha6 hm3 ho3
                    have HM3 := HM2
                    have HO3 := HO2
                    have HA6 := HA5
                    clear HLK3
                    have HCF0 := HCFA.out
                    obtain ⟨bc, hbc⟩ : ∃ bc, (as_.any fun x => eqS x.f0 key) = bc := ⟨_, rfl⟩
                    have HBC := Lib.hid hbc
                    have HCF := Lib.hid (show ∀ y b, k36.C y A0 as_.length as_ → y.cell? ⟨b, 0, none⟩ = some (.string key) → b < y.heap.size → Calls Try.prog 31 #[.slice A0 as_.length c0, .func (.func 32) #[] #[.pointer (some ⟨b, 0, none⟩)]] y fun e w' => e = .returned (.bool bc) ∧ Below y.heap.size y w' from fun y b h1 h2 h3 => by
                      have h := HCF0 y b h1 h2 h3
                      rw [hbc] at h
                      exact h)
                    clear hbc HCF0
                    cases bc with
                    | true =>
                      go_wp2_with (first | (go_at_call 29; refine HSC.out.mono ?_; rintro e w' ⟨rfl, rfl⟩) | (go_at_call 17; refine HNR.out.mono ?_; rintro e wn ⟨rfl, hb⟩; have HIn := Lib.hid ((HI.out.step hb).step ((Below.refl _ _).alloc (Nat.le_refl _) (.cells #[.string key] 9))); clear hb) | (go_at_call 30; refine (HQ.out _ HIn.out.below).mono ?_; rintro e w2 ⟨rfl, hb⟩; have HI2 := Lib.hid (HIn.out.step hb); have ck : w2.cell? ⟨wn.heap.size, 0, none⟩ = some (.string key) := (by rw [hb.cell (p := ⟨wn.heap.size, 0, none⟩) (by simp)]; exact (Blk.alloc wn _ _).cell 0); have hkl2 : wn.heap.size < w2.heap.size := (Nat.lt_of_lt_of_le (by simp) hb.size); have HCK := Lib.hid ck; have HKL2 := Lib.hid hkl2; have c3 : w2.cell? ⟨ht, 3, none⟩ = some (.slice A0 as_.length c0) := HI2.out.tok.cell 3; have c61 := HC6.out w2 HI2.out.below; clear hb ck hkl2) | (go_at_call 31; refine (HCF.out _ _ (Kd.R_reads' HI2.out.row).2.2 HCK.out HKL2.out).mono ?_; rintro e w3 ⟨rfl, hb⟩; have HI3 := Lib.hid (HI2.out.step hb); have ck3 : w3.cell? ⟨wn.heap.size, 0, none⟩ = some (.string key) := (by rw [hb.cell (p := ⟨wn.heap.size, 0, none⟩) HKL2.out]; exact HCK.out); have c33 : w3.cell? ⟨ht, 3, none⟩ = some (.slice A0 as_.length c0) := HI3.out.tok.cell 3; clear hb c3))
                      go_roundw
                      case rel => exact ⟨f, o3, a6, m3, _, as_, rfl, by have := HM3.out; omega, Lib.hid HM3.out, HA6, HI3, Lib.hid (by have h := HLQ.out; unfold addA at h; rw [HBC.out] at h; exact h), Lib.hid (by have := HF.out; have := HM3.out; have := HO3.out; have := HO.out; omega), Lib.hid (by have := HAL.out; have := HO3.out;  omega)⟩
                      case measure => show slz _ < slz _; have := HM3.out; have := HO3.out; have := HO.out; simp only [slz]; omega
                    | false =>
                      go_wp2_with (first | (go_at_call 29; refine HSC.out.mono ?_; rintro e w' ⟨rfl, rfl⟩) | (go_at_call 17; refine HNR.out.mono ?_; rintro e wn ⟨rfl, hb⟩; have HIn := Lib.hid ((HI.out.step hb).step ((Below.refl _ _).alloc (Nat.le_refl _) (.cells #[.string key] 9))); clear hb) | (go_at_call 30; refine (HQ.out _ HIn.out.below).mono ?_; rintro e w2 ⟨rfl, hb⟩; have HI2 := Lib.hid (HIn.out.step hb); have ck : w2.cell? ⟨wn.heap.size, 0, none⟩ = some (.string key) := (by rw [hb.cell (p := ⟨wn.heap.size, 0, none⟩) (by simp)]; exact (Blk.alloc wn _ _).cell 0); have hkl2 : wn.heap.size < w2.heap.size := (Nat.lt_of_lt_of_le (by simp) hb.size); have HCK := Lib.hid ck; have HKL2 := Lib.hid hkl2; have c3 : w2.cell? ⟨ht, 3, none⟩ = some (.slice A0 as_.length c0) := HI2.out.tok.cell 3; have c61 := HC6.out w2 HI2.out.below; clear hb ck hkl2) | (go_at_call 31; refine (HCF.out _ _ (Kd.R_reads' HI2.out.row).2.2 HCK.out HKL2.out).mono ?_; rintro e w3 ⟨rfl, hb⟩; have HI3 := Lib.hid (HI2.out.step hb); have ck3 : w3.cell? ⟨wn.heap.size, 0, none⟩ = some (.string key) := (by rw [hb.cell (p := ⟨wn.heap.size, 0, none⟩) HKL2.out]; exact HCK.out); have c33 : w3.cell? ⟨ht, 3, none⟩ = some (.slice A0 as_.length c0) := HI3.out.tok.cell 3; clear hb c3) | (at_builtin; refine Kd.R_append k36 (w0 := w) w.heap.size rfl _ _ 29 36 (.agg #[.string ⟨#[]⟩, .string ⟨#[]⟩]) 32 rfl Try.underlying29 info_attr rfl (by decide) (by decide) (.slice A0 as_.length c0) as_ ⟨key, ⟨#[]⟩⟩ [.string key, .string ⟨#[]⟩] (fun _ => True) (fun _ => False) rfl rfl (k36_mkM _ _ _ ⟨key, ⟨#[]⟩⟩) (fun _ h => h.elim) (fun _ _ => trivial) HI3.out.row HI3.out.below HI3.out.below.size HALB.out ?_; intro v1 w4 hr hb4 hg4 hat4; have HI4 := Lib.hid (opI_app HI3.out hr hb4 hg4); obtain ⟨A1, c1', hv1⟩ := Kd.R_slice hr; rw [List.length_append, List.length_singleton] at hv1; subst hv1; have c34 : w4.cell? ⟨ht, 3, none⟩ = some (.slice A0 as_.length c0) := HI4.out.1.cell 3; have f34 := HI4.out.1.free 3; clear hr hb4 hg4 hat4))
                      go_roundw
                      case rel => exact ⟨f, o3, a6, m3, _, as_ ++ [⟨key, ⟨#[]⟩⟩], rfl, by have := HM3.out; omega, Lib.hid HM3.out, HA6, Lib.hid HI4.out.2, Lib.hid (by have h := HLQ.out; unfold addA at h; rw [HBC.out] at h; exact h), Lib.hid (by have := HF.out; have := HM3.out; have := HO3.out; have := HO.out; omega), Lib.hid (by have := HAL.out; have := HO3.out; rw [List.length_append, List.length_singleton]; omega)⟩
                      case measure => show slz _ < slz _; have := HM3.out; have := HO3.out; have := HO.out; simp only [slz]; omega
end Go.Proofs.Ytkjgnkmnngaioaa.Q
