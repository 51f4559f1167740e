/- What the proof of treeMay_holds needs, of the texts that this work has written and of the words that the kit's print lends. -/
import Derived.Test.YtkjgnkmnngaioaaGreatZde
import Derived.Test.YtkjgnkmnngaioaaGreatZdb
import Derived.Test.YtkjgnkmnngaioaaGreatZdd
import Derived.Laws.EntriesVeiled
import Derived.StillTailTactics
import Derived.Lib.SliceRun
import Derived.IntWalk
import Derived.Deep.MidRow
import Derived.WalkSpells
import Derived.Laws.MakeOwn
import Derived.Laws.IdiomStrings
import Derived.Laws.AppendOwn
import Derived.Laws.CopyRow
import Derived.Laws.Tables
import Derived.Deep.RegionLaw
import Derived.LoopN
import Derived.WalkMore
import Derived.Maps.AppendAt
namespace Go.Proofs.YtkjgnkmnngaioaaGreat.Q
open Go.RowKit Go.IntWalk Go.Proofs.YtkjgnkmnngaioaaGreat.Mem Go.Proofs.YtkjgnkmnngaioaaGreatW.PrintWords Go.Proofs.YtkjgnkmnngaioaaGreatW.PrintLast Go.Proofs.YtkjgnkmnngaioaaGreatW.PrintMore
set_option linter.unusedVariables false
set_option linter.unusedSimpArgs false
/-- An attribute is put behind the others, if none has its name. -/
def addA (l : List S70) (key : ByteArray) (v : ByteArray) : List S70 := if (l.any fun x => eqS x.f0 key) = true then l else l ++ [⟨key, v⟩]
/-- The attributes from a place on, and how many bytes are taken. -/
def opL (l : List UInt8) : Nat → Nat → List S70 → Option (List S70 × Nat)
  | 0, _, _ => none
  | f + 1, o, at_ =>
    if (l.drop (o + spLen (l.drop o))).head? = some 62 then some (at_, o + spLen (l.drop o) + 1) else
    match nmF (l.drop (o + spLen (l.drop o))) with
    | none => none
    | some k => if spLen (l.drop o) = 0 then none else
      match qF (l.drop (o + spLen (l.drop o) + k)) with
      | some v => opL l f (o + spLen (l.drop o) + k + (v.length + 3)) (addA at_ (st (lows ((l.drop (o + spLen (l.drop o))).take k))) (st (tellF (st v) 0)))
      | none => if (l.drop (o + spLen (l.drop o) + k)).head? = some 61 then none else opL l f (o + spLen (l.drop o) + k) (addA at_ (st (lows ((l.drop (o + spLen (l.drop o))).take k))) (st []))
/-- An opening: how long its name is, its attributes, and how many bytes it takes. -/
def opF (l : List UInt8) : Option (Nat × List S70 × Nat) :=
  match nmF (l.drop 1) with
  | none => none
  | some k => (opL l (l.length + 1) (1 + k) []).map fun (as_, u) => (k, as_, u)
/-- How long a slice is. -/
def slz : Value → Nat
  | .slice _ m _ => m
  | _ => 0
/-- A token that is told in cells of the call's own. -/
def TakeP (g a n : Nat) (w : World) (tok : S46) (u : Nat) (e : Ending) (w' : World) : Prop :=
  ∃ cs a', k46.M w' w.heap.size (fun _ => True) tok cs ∧ (u < n → a' = a + u) ∧ e = .returned (.tuple #[.agg cs.toArray, .slice (some ⟨g, a', none⟩) (n - u) (n - u), .bool true])
def OpPost (g a n : Nat) (l : List UInt8) (w : World) (e : Ending) (w' : World) : Prop :=
  (match opF l with
    | none => NonePost e
    | some (k, as_, u) => TakeP g a n w ⟨1, st (lows ((l.drop 1).take k)), ⟨#[]⟩, as_⟩ u e w') ∧ Below w.heap.size w w'
/-- What stands while an opening is taken. -/
structure OpI (w : World) (ht : Nat) (nm : ByteArray) (av : Value) (as_ : List S70) (y : World) : Prop where
  below : Below w.heap.size w y
  res : Blk y w.heap.size (TK 0 emv emv nil8) 46
  tok : Blk y ht (TK 1 (.string nm) emv av) 46
  row : k70.R 70 y w.heap.size (fun _ => True) av as_
  lt : w.heap.size < ht
theorem OpI.step {w y z : World} {ht : Nat} {nm : ByteArray} {av : Value} {as_ : List S70} (h : OpI w ht nm av as_ y) (hb : Below y.heap.size y z) : OpI w ht nm av as_ z :=
  ⟨h.below.trans (hb.mono h.below.size), h.res.below hb h.res.lt, h.tok.below hb h.tok.lt, Kd.R_below h.row hb, h.lt⟩
/-- Ahead of the store, and behind it. -/
def OpC (w : World) (nm : ByteArray) (av : Value) (as_ : List S70) (w1 : World) : Nat → World → Prop
  | 0, y => y = w1
  | _, y => Blk y w.heap.size (TK 1 (.string nm) emv av) 46 ∧ k70.R 70 y w.heap.size (fun _ => True) av as_ ∧ Below w.heap.size w y
theorem info_attr : (Tryz.prog.info? 70).map (fun i => (i.zero, i.size, i.bytes)) = some (some (.agg #[.string ⟨#[]⟩, .string ⟨#[]⟩]), 2, 32) := by kernel_rfl
theorem typ_attr : ∀ q, q ∈ 70 :: k70.E → q ≠ 46 := by
  intro q hq
  have h : q = 70 := by
    simp [k70, Kd.iso, Kd.pair, Kd.string, Kd.scalar] at hq
    exact hq
  rw [h]; decide
theorem opI_app {w y z : World} {ht : Nat} {nm : ByteArray} {av v1 : Value} {as_ : List S70} {p : S70} (h : OpI w ht nm av as_ y) (hr : k70.R 70 z w.heap.size (fun _ => True) v1 (as_ ++ [p])) (hb : Below w.heap.size w z) (hg : y.grownBy z av.ownBlock) :
    Blk z ht (TK 1 (.string nm) emv av) 46 ∧ OpI w ht nm v1 (as_ ++ [p]) (z.setCell ⟨ht, 3, none⟩ v1) := by
  have h1 : Blk z ht (TK 1 (.string nm) emv av) 46 := h.tok.of_block (hg.block ht h.tok.lt (Kd.R_ne h.row h.tok (by decide)))
  have h2 : Blk z w.heap.size (TK 0 emv emv nil8) 46 := h.res.of_block (hg.block _ h.res.lt (Kd.R_ne h.row h.res (by decide)))
  have hlt := h.lt
  refine ⟨h1, hb.trans ⟨rfl, rfl, rfl, by simp [World.setCell], fun k hk => Below.heap_setCell _ _ _ _ (by show k ≠ ht; omega)⟩, h2.setCell_other _ (by show w.heap.size ≠ ht; omega), h1.set 3 v1, Kd.R_set hr h1 typ_attr 3 v1, h.lt⟩
set_option maxRecDepth 100000 in
set_option maxHeartbeats 16000000 in
theorem opening_calls (g a n c : Nat) (l : List UInt8) (w : World) (hB : Bt w g a n c l) (hn : n ≤ 600000) (hn0 : 0 < n) :
    Calls Tryz.prog 86 #[.slice (some ⟨g, a, none⟩) n c] w (OpPost g a n l w) := by
  have HB := Lib.hid hB
  have HLN := Lib.hid hB.len
  have HCP := Lib.hid hB.cap
  clear hB
  have hc1 : 1 ≤ c := by have := HCP.out; omega
  obtain ⟨a1, ha1⟩ : ∃ a1, a1 = bof a c 1 := ⟨_, rfl⟩
  have hsl : ∀ W : World, (Instr.slice 72 (.slice (some ⟨g, a, none⟩) n c) (some (.int .i64 1)) none none).run Tryz.prog W = .ok (.slice (some ⟨g, a1, none⟩) (n - 1) (c - 1)) W := fun W => by
    have h := slice_l W g a n c 1 (by omega) HCP.out
    rw [← ha1] at h
    exact h
  have HA1 := Lib.hid (show 1 < c → a1 = a + 1 from fun h => by rw [ha1]; exact bof_lt h)
  obtain ⟨W, hW⟩ : ∃ W, W = w.alloc (.cells (TK 0 emv emv nil8) 46) := ⟨_, rfl⟩
  have HBW := Lib.hid (show Below w.heap.size w W from by rw [hW]; exact (Below.refl _ _).alloc (Nat.le_refl _) _)
  have HB1 := Lib.hid (show Bt W g a1 (n - 1) (c - 1) (l.drop 1) from (HB.out.below HBW.out).drop (by omega) (fun h => HA1.out (by have := HCP.out; omega)) (by have := HCP.out; omega))
  have HBK := Lib.hid (show Blk W w.heap.size (TK 0 emv emv nil8) 46 from by rw [hW]; exact Blk.alloc _ _ _)
  have HNM := Lib.hid (name_calls g a1 (n - 1) (c - 1) (l.drop 1) W HB1.out (by omega))
  rw [hW] at HNM
  unfold NmPost at HNM
  clear ha1
  have hmf : ∀ (fn : Fn) (first cap : Array Value) (w : World), (Instr.makeFunc fn first cap).run Tryz.prog w = .ok (.func fn first cap) w := fun _ _ _ _ => rfl
  cases hnm : nmF (l.drop 1) with
  | none =>
    have HN := Lib.hid (show opF l = none from by unfold opF; rw [hnm])
    rw [hnm] at HNM
    dsimp only at HNM
    clear hnm
    go_enter Tryz.func86, Tryz.ntmps86
    go_wp2_with (first | (go_at_call 53; refine HNM.out.mono ?_; rintro e w1 ⟨rfl, hb⟩; have HB2 := Lib.hid (show Below w.heap.size w w1 from by have h1 := HBW.out; rw [hW] at h1; exact h1.trans (hb.mono h1.size)); have HK := Lib.hid (show Blk w1 w.heap.size (TK 0 emv emv nil8) 46 from HBK.out.below (by rw [hW]; exact hb) HBK.out.lt); clear hb) | ((with_reducible refine Mix.at_st (t := 46) ?_); refine Mix.wpList_store_blk (o := ⟨none, .store 46 _ _, _, _, _, _⟩) rfl 46 _ _ rfl w.heap.size (TK 0 emv emv nil8) rfl rfl 46 (TK 0 emv emv nil8) HK.out (info_tok _ _ _ _) rfl (tk_all _ _ _ _ _ _) ?_; intro W3 hb3 hbu hsz3; have e1 : W3.cell? ⟨w.heap.size, 0, none⟩ = some (.int .i64 0) := hb3.cell 0; have e2 : W3.cell? ⟨w.heap.size, 1, none⟩ = some emv := hb3.cell 1; have e3 : W3.cell? ⟨w.heap.size, 2, none⟩ = some emv := hb3.cell 2; have e4 : W3.cell? ⟨w.heap.size, 3, none⟩ = some nil8 := hb3.cell 3; have HB3 := Lib.hid hb3; have HBU := Lib.hid hbu; have HSZ := Lib.hid hsz3; clear hb3 hbu hsz3))
    refine bodyPost_ret (v := .tuple #[.agg (TK 0 emv emv nil8), nil8, .bool false]) (by simp [results, Tryz.results86, go_sem, e1, e2, e3, e4]; first | done | exact ⟨rfl, rfl⟩) rfl ⟨by rw [HN.out]; exact rfl, HB2.out.trans (HBU.out.below (Nat.le_refl _) HB2.out.size)⟩
  | some kn =>
    rw [hnm] at HNM
    dsimp only at HNM
    have hk := nmF_some hnm
    have hkl : kn ≤ n - 1 := by have := hk.2.2.2.1; rw [List.length_drop, HLN.out] at this; exact this
    have hk1 : 0 < kn := hk.2.1
    obtain ⟨R, hR⟩ : ∃ R, opL l (l.length + 1) (1 + kn) [] = R := ⟨_, rfl⟩
    have HOP := Lib.hid (show opF l = R.map fun (as_, u) => (kn, as_, u) from by unfold opF; rw [hnm, ← hR])
    have HR0 := Lib.hid hR
    obtain ⟨a2, ha2⟩ : ∃ a2, a2 = bof a1 (n - 1) kn := ⟨_, rfl⟩
    rw [← ha2] at HNM
    have HA2 := Lib.hid (show 1 + kn < n → a2 = a + (1 + kn) from fun h => by rw [ha2, bof_lt (by omega), HA1.out (by have := HCP.out; omega)]; omega)
    obtain ⟨nm, hnmv⟩ : ∃ nm, nm = st (lows ((l.drop 1).take kn)) := ⟨_, rfl⟩
    rw [← hnmv] at HNM
    have HNV := Lib.hid hnmv
    clear hnm hk ha2 hR hnmv
    have hn1 : n - 1 - kn = n - (1 + kn) := by omega
    rw [hn1] at HNM
    clear hn1
    go_enter Tryz.func86, Tryz.ntmps86
    go_wp2_with (go_at_call 53; refine HNM.out.mono ?_; rintro e w1 ⟨rfl, hb⟩; have HB2 := Lib.hid (show Below w.heap.size w w1 from by have h1 := HBW.out; rw [hW] at h1; exact h1.trans (hb.mono h1.size)); have HK := Lib.hid (show Blk w1 w.heap.size (TK 0 emv emv nil8) 46 from HBK.out.below (by rw [hW]; exact hb) HBK.out.lt); clear hb)
    obtain ⟨ht, hht⟩ : ∃ ht, ht = w1.heap.size := ⟨_, rfl⟩
    have HI0 := Lib.hid (show OpI w ht nm nil8 [] (w1.alloc (.cells (TK 1 (.string nm) emv nil8) 46)) from
      ⟨HB2.out.alloc HB2.out.size _, HK.out.alloc_old _, Blk.alloc_at _ _ _ hht, Kd.R_nil _ _ _ _ _, by rw [hht]; exact HK.out.lt⟩)
    have HHT := Lib.hid hht
    rw [← hht]
    clear hht
    clear hW HBW HB1 HBK HNM HK HB2 hsl HA1 hc1
    go_loopw [6] (fun rv wr => ∃ (f o ar m : Nat) (av : Value) (as_ : List S70), rv = .slice (some ⟨g, ar, none⟩) m m ∧ m ≤ n ∧ Hid (m = n - o ∧ o ≤ n) ∧ Hid (o < n → ar = a + o) ∧ Hid (OpI w ht nm av as_ wr) ∧ Hid (opL l f o as_ = R) ∧ Hid (m < f) ∧ Hid (as_.length ≤ o)) (fun rv _ => slz rv)
    case atStart => exact ⟨l.length + 1, 1 + kn, a2, n - (1 + kn), nil8, [], rfl, by omega, Lib.hid ⟨rfl, by omega⟩, HA2, HI0, HR0, Lib.hid (by have := HLN.out; omega), Lib.hid (Nat.zero_le _)⟩
    case round =>
      clear HI0 HR0 HA2
      obtain ⟨f, o, ar, m, av, as_, rfl, hmn, HO, HAR, HI, HL, HF, HAL⟩ := hrel
      obtain ⟨f, rfl⟩ : ∃ f', f = f' + 1 := ⟨f - 1, by have := HF.out; omega⟩
      have HBR := Lib.hid (show ∀ y, Below w.heap.size w y → Bt y g ar m m (l.drop o) from fun y hy => by
        have h := (HB.out.below hy).drop (k := o) (a' := ar) (c' := m) HO.out.2 HAR.out (by have := HO.out.1; omega)
        rw [← HO.out.1] at h
        exact h)
      obtain ⟨sp, hsp⟩ : ∃ sp, spLen (l.drop o) = sp := ⟨_, rfl⟩
      have hspl : sp ≤ m := by have h := spLen_le (l.drop o); rw [hsp, List.length_drop, HLN.out] at h; have := HO.out; omega
      have HSP := Lib.hid hsp
      obtain ⟨a3, ha3⟩ : ∃ a3, a3 = bof ar m sp := ⟨_, rfl⟩
      obtain ⟨m1, hm1⟩ : ∃ m1, m1 = m - sp := ⟨_, rfl⟩
      obtain ⟨b1, hb1⟩ : ∃ b1, b1 = decide (0 < sp) := ⟨_, rfl⟩
      have HSC := Lib.hid (show Calls Tryz.prog 106 #[.slice (some ⟨g, ar, none⟩) m m] wr fun e w' => e = .returned (.tuple #[.slice (some ⟨g, a3, none⟩) m1 m1, .bool b1]) ∧ wr = w' from by
        have h := space_calls g ar m m (l.drop o) wr (HBR.out _ HI.out.below) (by omega)
        unfold SpPost at h
        rw [hsp, ← ha3, ← hm1, ← hb1] at h
        exact h)
      obtain ⟨o1, ho1⟩ : ∃ o1, o1 = o + sp := ⟨_, rfl⟩
      have HO1 := Lib.hid ho1
      have HA3 := Lib.hid (show o1 < n → a3 = a + o1 from fun h => by have := HO.out; rw [ha3, bof_lt (by omega), HAR.out (by omega)]; omega)
      have HM1 := Lib.hid (show m1 = n - o1 ∧ o1 ≤ n from by have := HO.out; omega)
      have HBR1 := Lib.hid (show ∀ y, Below w.heap.size w y → Bt y g a3 m1 m1 (l.drop o1) from fun y hy => by
        have h2 := (HBR.out y hy).drop (k := sp) (a' := a3) (c' := m1) hspl (fun h => by rw [ha3]; exact bof_lt h) (by omega)
        rw [List.drop_drop, ← hm1, ← ho1] at h2
        exact h2)
      have HBB := Lib.hid hb1
      have hm1n : m1 ≤ n := by omega
      have hL := HL.out
      rw [opL, hsp, ← ho1] at hL
      have HLL := Lib.hid hL
      clear hsp ha3 hm1 hb1 ho1 hL HL
      by_cases hz : 0 < m1 ∧ (l.drop o1).head? = some 62
      · obtain ⟨hz1, hz2⟩ := hz
        have hll : 0 < (l.drop o1).length := by rw [List.length_drop, HLN.out]; have := HM1.out; omega
        have c1 : wr.cell? ⟨g, a3, none⟩ = some (.int .u8 62) := by
          have h := (HBR1.out _ HI.out.below).cell 0 hll
          rw [List.head?_eq_getElem?, List.getElem?_eq_getElem hll] at hz2
          injection hz2 with hz2
          rw [hz2] at h
          exact h
        have hL := HLL.out
        rw [if_pos hz2] at hL
        have HN := Lib.hid (show opF l = some (kn, as_, o1 + 1) from by rw [HOP.out, ← hL]; rfl)
        have v3 : (0 : Int) < (m1 : Int) := by omega
        obtain ⟨a4, ha4⟩ : ∃ a4, a4 = bof a3 m1 1 := ⟨_, rfl⟩
        have hsl2 : ∀ W : World, (Instr.slice 72 (.slice (some ⟨g, a3, none⟩) m1 m1) (some (.int .i64 1)) (some (.int .i64 (m1 : Int))) (some (.int .i64 (m1 : Int)))).run Tryz.prog W = .ok (.slice (some ⟨g, a4, none⟩) (m1 - 1) (m1 - 1)) W := fun W => by
          have h := slice_lhm W g a3 m1 m1 1 (by omega) (Nat.le_refl _)
          rw [← ha4] at h
          exact h
        have HA4 := Lib.hid (show o1 + 1 < n → a4 = a + (o1 + 1) from fun h => by
          have hm := HM1.out
          rw [ha4, bof_lt (by omega), HA3.out (by omega)]
          omega)
        clear ha4 hz2 hL hll
        go_upto_region 7 with (go_at_call 106; refine HSC.out.mono ?_; rintro e w' ⟨rfl, rfl⟩)
        have hC0 : OpC w nm av as_ wr.drew 0 wr.drew := rfl
        have ne : Nonempty (Mix.Wd (OpC w nm av as_ wr.drew) 0) := ⟨⟨wr.drew, 0, Nat.le_refl _, hC0⟩⟩
        have ne0 : Nonempty (Mix.Wx (OpC w nm av as_ wr.drew) 0 0) := ⟨⟨wr.drew, 0, Nat.le_refl _, Nat.le_refl _, hC0⟩⟩
        have hx0 : ∀ x : Mix.Wx (OpC w nm av as_ wr.drew) 0 0, Blk x.1 ht (TK 1 (.string nm) emv av) 46 := fun x => by
          obtain ⟨y, i, h1, h2, h3⟩ := x
          obtain rfl : i = 0 := by omega
          have h3' : y = wr.drew := h3
          subst h3'
          exact HI.out.tok.drew
        obtain ⟨A0, c0, hav⟩ := Kd.R_slice HI.out.row
        subst hav
        have d1 : ∀ x : Mix.Wx (OpC w nm (.slice A0 as_.length c0) as_ wr.drew) 0 0, x.1.cell? ⟨ht, 0, none⟩ = some (.int .i64 1) := fun x => (hx0 x).cell 0
        have d2 : ∀ x : Mix.Wx (OpC w nm (.slice A0 as_.length c0) as_ wr.drew) 0 0, x.1.cell? ⟨ht, 1, none⟩ = some (.string nm) := fun x => (hx0 x).cell 1
        have d3 : ∀ x : Mix.Wx (OpC w nm (.slice A0 as_.length c0) as_ wr.drew) 0 0, x.1.cell? ⟨ht, 2, none⟩ = some (.string ⟨#[]⟩) := fun x => (hx0 x).cell 2
        have d4 : ∀ x : Mix.Wx (OpC w nm (.slice A0 as_.length c0) as_ wr.drew) 0 0, x.1.cell? ⟨ht, 3, none⟩ = some (.slice A0 as_.length c0) := fun x => (hx0 x).cell 3
        refine Mix.wp_region_mix (C := OpC w nm (.slice A0 as_.length c0) as_ wr.drew) [7] (by kernel_rfl) (by kernel_rfl) hC0 ?_
        (refine Mix.mix_in 0 0 (by decide) (by kernel_rfl) (fun K hK => ?_); go_simp; refine hK _ ?_; clear hK K)
        iterate 6 (refine Mix.mix_still (by decide) (fun K hK => ?_); go_simp; refine hK _ ?_; clear hK K)
        refine Mix.mix_store (by decide) rfl 46 _ _ rfl w.heap.size (TK 1 (.string nm) emv (.slice A0 as_.length c0)) rfl rfl (info_tok _ _ _ _) (tk_all _ _ _ _ _ _) (fun y hy => ⟨46, TK 0 emv emv nil8, (by have hy' : y = wr.drew := hy; rw [hy']; exact HI.out.res.drew), rfl, (by have hy' : y = wr.drew := hy; rw [hy']; exact ⟨Mix.blk_setRow HI.out.res.drew, Kd.R_step (Kd.R_types (Kd.R_below HI.out.row (below_drewN (Below.refl _ _) 1)) HI.out.res.drew typ_attr) (fun k hk _ => setRow_other _ _ _ _ hk.2) |> (Kd.R_mono · (fun _ hk => hk.1)), (below_drewN HI.out.below 1).trans ((Mix.but_setRow _ _ _).below (Nat.le_refl _) HI.out.below.size)⟩)⟩) ?_
        iterate 2 (refine Mix.mix_still (by decide) (fun K hK => ?_); go_simp; refine hK _ ?_; clear hK K)
        refine Mix.mix_nil ?_
        intro w6 hw6
        have hw6' : Blk w6 w.heap.size (TK 1 (.string nm) emv (.slice A0 as_.length c0)) 46 ∧ k70.R 70 w6 w.heap.size (fun _ => True) (.slice A0 as_.length c0) as_ ∧ Below w.heap.size w w6 := hw6
        have HW6 := Lib.hid hw6'.2
        have e1 : w6.cell? ⟨w.heap.size, 0, none⟩ = some (.int .i64 1) := hw6'.1.cell 0
        have e2 : w6.cell? ⟨w.heap.size, 1, none⟩ = some (.string nm) := hw6'.1.cell 1
        have e3 : w6.cell? ⟨w.heap.size, 2, none⟩ = some emv := hw6'.1.cell 2
        have e4 : w6.cell? ⟨w.heap.size, 3, none⟩ = some (.slice A0 as_.length c0) := hw6'.1.cell 3
        clear hw6 hw6' ne ne0 hC0 hx0 d1 d2 d3 d4 hsl2 hmf
        show Exit.then _ _ _ _ w6
        go_wp2_with fail
        refine bodyPost_ret (v := .tuple #[.agg (TK 1 (.string nm) emv (.slice A0 as_.length c0)), .slice (some ⟨g, a4, none⟩) (m1 - 1) (m1 - 1), .bool true]) (by simp [results, Tryz.results86, go_sem, e1, e2, e3, e4]; first | done | rfl) rfl ⟨by rw [HN.out]; show TakeP g a n w ⟨1, st (lows ((l.drop 1).take kn)), ⟨#[]⟩, as_⟩ (o1 + 1) _ _; rw [← HNV.out]; exact ⟨[.int .i64 1, .string nm, .string ⟨#[]⟩, .slice A0 as_.length c0], a4, k46_mkM _ _ _ ⟨1, nm, ⟨#[]⟩, as_⟩ HW6.out.1, HA4.out, by have := HM1.out; rw [show m1 - 1 = n - (o1 + 1) by omega]; rfl⟩, HW6.out.2⟩
      · have HZ := Lib.hid (show ¬ (l.drop o1).head? = some 62 from fun h => hz ⟨by
          rcases Nat.eq_zero_or_pos m1 with h0 | h0
          · rw [List.drop_of_length_le (by rw [HLN.out]; have := HM1.out; omega)] at h
            simp at h
          · exact h0, h⟩)
        obtain ⟨A0, c0, hav⟩ := Kd.R_slice HI.out.row
        subst hav
        clear hz
        by_cases hm10 : m1 = 0
        · have v3 : ¬ (0 : Int) < (m1 : Int) := by omega
          have hnm : nmF (l.drop o1) = none := by rw [List.drop_of_length_le (by rw [HLN.out]; have := HM1.out; omega)]; rfl
          clear hm10
          have HNR := Lib.hid (show Calls Tryz.prog 53 #[.slice (some ⟨g, a3, none⟩) m1 m1] wr fun e w' => e = .returned (.tuple #[.string ⟨#[]⟩, .slice none 0 0, .bool false]) ∧ Below wr.heap.size wr w' from by
            have h := name_calls g a3 m1 m1 (l.drop o1) wr (HBR1.out _ HI.out.below) (by omega)
            unfold NmPost at h
            rw [hnm] at h
            exact h)
          have HN := Lib.hid (show opF l = none from by
            have hL := HLL.out
            rw [if_neg HZ.out, hnm] at hL
            rw [HOP.out, ← hL]
            rfl)
          clear hnm
          cases b1 with
          | true =>
            go_wp2_with (first | (go_at_call 106; refine HSC.out.mono ?_; rintro e w' ⟨rfl, rfl⟩) | (go_at_call 53; refine HNR.out.mono ?_; rintro e wn ⟨rfl, hb⟩; have HIn := Lib.hid ((HI.out.step hb).step ((Below.refl _ _).alloc (Nat.le_refl _) (.cells #[.string ⟨#[]⟩] 9))); clear hb) | ((with_reducible refine Mix.at_st (t := 46) ?_); refine Mix.wpList_store_blk (o := ⟨none, .store 46 _ _, _, _, _, _⟩) rfl 46 _ _ rfl w.heap.size (TK 0 emv emv nil8) rfl rfl 46 (TK 0 emv emv nil8) HIn.out.res (info_tok _ _ _ _) rfl (tk_all _ _ _ _ _ _) ?_; intro W3 hb3 hbu hsz3; have e1 : W3.cell? ⟨w.heap.size, 0, none⟩ = some (.int .i64 0) := hb3.cell 0; have e2 : W3.cell? ⟨w.heap.size, 1, none⟩ = some emv := hb3.cell 1; have e3 : W3.cell? ⟨w.heap.size, 2, none⟩ = some emv := hb3.cell 2; have e4 : W3.cell? ⟨w.heap.size, 3, none⟩ = some nil8 := hb3.cell 3; have HB3 := Lib.hid hb3; have HBU := Lib.hid hbu; have HSZ := Lib.hid hsz3; clear hb3 hbu hsz3))
            refine bodyPost_ret (v := .tuple #[.agg (TK 0 emv emv nil8), nil8, .bool false]) (by simp [results, Tryz.results86, go_sem, e1, e2, e3, e4]; first | done | exact ⟨rfl, rfl⟩) rfl ⟨by rw [HN.out]; exact rfl, HIn.out.below.trans (HBU.out.below (Nat.le_refl _) HIn.out.below.size)⟩
          | false =>
            go_wp2_with (first | (go_at_call 106; refine HSC.out.mono ?_; rintro e w' ⟨rfl, rfl⟩) | (go_at_call 53; refine HNR.out.mono ?_; rintro e wn ⟨rfl, hb⟩; have HIn := Lib.hid ((HI.out.step hb).step ((Below.refl _ _).alloc (Nat.le_refl _) (.cells #[.string ⟨#[]⟩] 9))); clear hb) | ((with_reducible refine Mix.at_st (t := 46) ?_); refine Mix.wpList_store_blk (o := ⟨none, .store 46 _ _, _, _, _, _⟩) rfl 46 _ _ rfl w.heap.size (TK 0 emv emv nil8) rfl rfl 46 (TK 0 emv emv nil8) HIn.out.res (info_tok _ _ _ _) rfl (tk_all _ _ _ _ _ _) ?_; intro W3 hb3 hbu hsz3; have e1 : W3.cell? ⟨w.heap.size, 0, none⟩ = some (.int .i64 0) := hb3.cell 0; have e2 : W3.cell? ⟨w.heap.size, 1, none⟩ = some emv := hb3.cell 1; have e3 : W3.cell? ⟨w.heap.size, 2, none⟩ = some emv := hb3.cell 2; have e4 : W3.cell? ⟨w.heap.size, 3, none⟩ = some nil8 := hb3.cell 3; have HB3 := Lib.hid hb3; have HBU := Lib.hid hbu; have HSZ := Lib.hid hsz3; clear hb3 hbu hsz3))
            refine bodyPost_ret (v := .tuple #[.agg (TK 0 emv emv nil8), nil8, .bool false]) (by simp [results, Tryz.results86, go_sem, e1, e2, e3, e4]; first | done | exact ⟨rfl, rfl⟩) rfl ⟨by rw [HN.out]; exact rfl, HIn.out.below.trans (HBU.out.below (Nat.le_refl _) HIn.out.below.size)⟩
        · have v3 : (0 : Int) < (m1 : Int) := by omega
          have hll : 0 < (l.drop o1).length := by rw [List.length_drop, HLN.out]; have := HM1.out; omega
          obtain ⟨d5, hd5⟩ : ∃ d5, d5 = (l.drop o1)[0]'hll := ⟨_, rfl⟩
          have c1 : wr.cell? ⟨g, a3, none⟩ = some (.int .u8 (d5.toNat : Int)) := by rw [hd5]; exact (HBR1.out _ HI.out.below).cell 0 hll
          have v4 : ((d5.toNat : Int) == 62) = false := by
            have : d5.toNat ≠ 62 := fun h => HZ.out (by rw [List.head?_eq_getElem?, List.getElem?_eq_getElem hll, ← hd5]; congr 1; apply UInt8.toNat_inj.1; exact h)
            simp; omega
          clear hd5 hll
          cases hnm : nmF (l.drop o1) with
          | none =>
            have HNR := Lib.hid (show Calls Tryz.prog 53 #[.slice (some ⟨g, a3, none⟩) m1 m1] wr fun e w' => e = .returned (.tuple #[.string ⟨#[]⟩, .slice none 0 0, .bool false]) ∧ Below wr.heap.size wr w' from by
              have h := name_calls g a3 m1 m1 (l.drop o1) wr (HBR1.out _ HI.out.below) (by omega)
              unfold NmPost at h
              rw [hnm] at h
              exact h)
            have HN := Lib.hid (show opF l = none from by
              have hL := HLL.out
              rw [if_neg HZ.out, hnm] at hL
              rw [HOP.out, ← hL]
              rfl)
            clear hnm
            cases b1 with
            | true =>
              go_wp2_with (first | (go_at_call 106; refine HSC.out.mono ?_; rintro e w' ⟨rfl, rfl⟩) | (go_at_call 53; refine HNR.out.mono ?_; rintro e wn ⟨rfl, hb⟩; have HIn := Lib.hid ((HI.out.step hb).step ((Below.refl _ _).alloc (Nat.le_refl _) (.cells #[.string ⟨#[]⟩] 9))); clear hb) | ((with_reducible refine Mix.at_st (t := 46) ?_); refine Mix.wpList_store_blk (o := ⟨none, .store 46 _ _, _, _, _, _⟩) rfl 46 _ _ rfl w.heap.size (TK 0 emv emv nil8) rfl rfl 46 (TK 0 emv emv nil8) HIn.out.res (info_tok _ _ _ _) rfl (tk_all _ _ _ _ _ _) ?_; intro W3 hb3 hbu hsz3; have e1 : W3.cell? ⟨w.heap.size, 0, none⟩ = some (.int .i64 0) := hb3.cell 0; have e2 : W3.cell? ⟨w.heap.size, 1, none⟩ = some emv := hb3.cell 1; have e3 : W3.cell? ⟨w.heap.size, 2, none⟩ = some emv := hb3.cell 2; have e4 : W3.cell? ⟨w.heap.size, 3, none⟩ = some nil8 := hb3.cell 3; have HB3 := Lib.hid hb3; have HBU := Lib.hid hbu; have HSZ := Lib.hid hsz3; clear hb3 hbu hsz3))
              refine bodyPost_ret (v := .tuple #[.agg (TK 0 emv emv nil8), nil8, .bool false]) (by simp [results, Tryz.results86, go_sem, e1, e2, e3, e4]; first | done | exact ⟨rfl, rfl⟩) rfl ⟨by rw [HN.out]; exact rfl, HIn.out.below.trans (HBU.out.below (Nat.le_refl _) HIn.out.below.size)⟩
            | false =>
              go_wp2_with (first | (go_at_call 106; refine HSC.out.mono ?_; rintro e w' ⟨rfl, rfl⟩) | (go_at_call 53; refine HNR.out.mono ?_; rintro e wn ⟨rfl, hb⟩; have HIn := Lib.hid ((HI.out.step hb).step ((Below.refl _ _).alloc (Nat.le_refl _) (.cells #[.string ⟨#[]⟩] 9))); clear hb) | ((with_reducible refine Mix.at_st (t := 46) ?_); refine Mix.wpList_store_blk (o := ⟨none, .store 46 _ _, _, _, _, _⟩) rfl 46 _ _ rfl w.heap.size (TK 0 emv emv nil8) rfl rfl 46 (TK 0 emv emv nil8) HIn.out.res (info_tok _ _ _ _) rfl (tk_all _ _ _ _ _ _) ?_; intro W3 hb3 hbu hsz3; have e1 : W3.cell? ⟨w.heap.size, 0, none⟩ = some (.int .i64 0) := hb3.cell 0; have e2 : W3.cell? ⟨w.heap.size, 1, none⟩ = some emv := hb3.cell 1; have e3 : W3.cell? ⟨w.heap.size, 2, none⟩ = some emv := hb3.cell 2; have e4 : W3.cell? ⟨w.heap.size, 3, none⟩ = some nil8 := hb3.cell 3; have HB3 := Lib.hid hb3; have HBU := Lib.hid hbu; have HSZ := Lib.hid hsz3; clear hb3 hbu hsz3))
              refine bodyPost_ret (v := .tuple #[.agg (TK 0 emv emv nil8), nil8, .bool false]) (by simp [results, Tryz.results86, go_sem, e1, e2, e3, e4]; first | done | exact ⟨rfl, rfl⟩) rfl ⟨by rw [HN.out]; exact rfl, HIn.out.below.trans (HBU.out.below (Nat.le_refl _) HIn.out.below.size)⟩
          | some k =>
            have hk := nmF_some hnm
            have hkm : k ≤ m1 := by have h := hk.2.2.2.1; rw [List.length_drop, HLN.out] at h; have := HM1.out; omega
            have hk0 : 0 < k := hk.2.1
            obtain ⟨key, hkey⟩ : ∃ key, key = st (lows ((l.drop o1).take k)) := ⟨_, rfl⟩
            obtain ⟨a5, ha5⟩ : ∃ a5, a5 = bof a3 m1 k := ⟨_, rfl⟩
            obtain ⟨m2, hm2⟩ : ∃ m2, m2 = m1 - k := ⟨_, rfl⟩
            obtain ⟨o2, ho2⟩ : ∃ o2, o2 = o1 + k := ⟨_, rfl⟩
            have HNR := Lib.hid (show Calls Tryz.prog 53 #[.slice (some ⟨g, a3, none⟩) m1 m1] wr fun e w' => e = .returned (.tuple #[.string key, .slice (some ⟨g, a5, none⟩) m2 m2, .bool true]) ∧ Below wr.heap.size wr w' from by
              have h := name_calls g a3 m1 m1 (l.drop o1) wr (HBR1.out _ HI.out.below) (by omega)
              unfold NmPost at h
              rw [hnm] at h
              dsimp only at h
              rw [← hkey, ← ha5, ← hm2] at h
              exact h)
            have HA5 := Lib.hid (show o2 < n → a5 = a + o2 from fun h => by have := HM1.out; rw [ha5, bof_lt (by omega), HA3.out (by omega)]; omega)
            have HM2 := Lib.hid (show m2 = n - o2 ∧ o2 ≤ n from by have := HM1.out; omega)
            have HBR2 := Lib.hid (show ∀ y, Below w.heap.size w y → Bt y g a5 m2 m2 (l.drop o2) from fun y hy => by
              have h2 := (HBR1.out y hy).drop (k := k) (a' := a5) (c' := m2) hkm (fun h => by rw [ha5]; exact bof_lt h) (by omega)
              rw [List.drop_drop, ← hm2, ← ho2] at h2
              exact h2)
            have HO2 := Lib.hid (show o < o2 from by have := HO1.out; omega)
            have hm2n : m2 ≤ n := by omega
            have hL := HLL.out
            rw [if_neg HZ.out, hnm] at hL
            dsimp only at hL
            rw [← hkey, ← ho2] at hL
            have HLK := Lib.hid hL
            have HALB := Lib.hid (show (as_.length + 1) * 32 ≤ 140737488355328 from by have := HAL.out; have := HO.out.2; omega)
            have HCFA := Lib.hid (show ∀ y b, k70.C y A0 as_.length as_ → y.cell? ⟨b, 0, none⟩ = some (.string key) → b < y.heap.size → Calls Tryz.prog 108 #[.slice A0 as_.length c0, .func (.func 109) #[] #[.pointer (some ⟨b, 0, none⟩)]] y fun e w' => e = .returned (.bool (as_.any fun x => eqS x.f0 key)) ∧ Below y.heap.size y w' from fun y b h1 h2 h3 => hasKey_calls A0 c0 as_ b key y h1 (by have := HAL.out; have := HO.out.2; omega) h2 h3)
            clear hk hkey ha5 hm2 ho2 hL hnm HLL
            by_cases hs0 : sp = 0
            · have HB1F := Lib.hid (show b1 = false from by rw [HBB.out, hs0]; rfl)
              have HN := Lib.hid (show opF l = none from by
                have hL := HLK.out
                rw [if_pos hs0] at hL
                rw [HOP.out, ← hL]
                rfl)
              obtain rfl : b1 = false := HB1F.out
              clear HB1F HBB hs0
              go_wp2_with (first | (go_at_call 106; refine HSC.out.mono ?_; rintro e w' ⟨rfl, rfl⟩) | (go_at_call 53; refine HNR.out.mono ?_; rintro e wn ⟨rfl, hb⟩; have HIn := Lib.hid ((HI.out.step hb).step ((Below.refl _ _).alloc (Nat.le_refl _) (.cells #[.string key] 9))); clear hb) | ((with_reducible refine Mix.at_st (t := 46) ?_); refine Mix.wpList_store_blk (o := ⟨none, .store 46 _ _, _, _, _, _⟩) rfl 46 _ _ rfl w.heap.size (TK 0 emv emv nil8) rfl rfl 46 (TK 0 emv emv nil8) HIn.out.res (info_tok _ _ _ _) rfl (tk_all _ _ _ _ _ _) ?_; intro W3 hb3 hbu hsz3; have e1 : W3.cell? ⟨w.heap.size, 0, none⟩ = some (.int .i64 0) := hb3.cell 0; have e2 : W3.cell? ⟨w.heap.size, 1, none⟩ = some emv := hb3.cell 1; have e3 : W3.cell? ⟨w.heap.size, 2, none⟩ = some emv := hb3.cell 2; have e4 : W3.cell? ⟨w.heap.size, 3, none⟩ = some nil8 := hb3.cell 3; have HB3 := Lib.hid hb3; have HBU := Lib.hid hbu; have HSZ := Lib.hid hsz3; clear hb3 hbu hsz3))
              refine bodyPost_ret (v := .tuple #[.agg (TK 0 emv emv nil8), nil8, .bool false]) (by simp [results, Tryz.results86, go_sem, e1, e2, e3, e4]; first | done | exact ⟨rfl, rfl⟩) rfl ⟨by rw [HN.out]; exact rfl, HIn.out.below.trans (HBU.out.below (Nat.le_refl _) HIn.out.below.size)⟩
            · have HB1T := Lib.hid (show b1 = true from by rw [HBB.out]; simp; omega)
              obtain rfl : b1 = true := HB1T.out
              clear HB1T HBB
              have hL := HLK.out
              rw [if_neg hs0] at hL
              have HLK2 := Lib.hid hL
              clear hL HLK hs0
              cases hq : qF (l.drop o2) with
              | some v =>
                have hqs := (qF_some hq).1
                rw [List.length_drop, HLN.out] at hqs
                obtain ⟨val, hval⟩ : ∃ val, val = st (tellF (st v) 0) := ⟨_, rfl⟩
                obtain ⟨a6, ha6⟩ : ∃ a6, a6 = bof a5 m2 (v.length + 3) := ⟨_, rfl⟩
                obtain ⟨m3, hm3⟩ : ∃ m3, m3 = m2 - (v.length + 3) := ⟨_, rfl⟩
                obtain ⟨o3, ho3⟩ : ∃ o3, o3 = o2 + (v.length + 3) := ⟨_, rfl⟩
                have HQ := Lib.hid (show ∀ y, Below w.heap.size w y → Calls Tryz.prog 107 #[.slice (some ⟨g, a5, none⟩) m2 m2] y fun e w' => e = .returned (.tuple #[.string val, .slice (some ⟨g, a6, none⟩) m3 m3, .bool true]) ∧ Below y.heap.size y w' from fun y hy => by
                  have h := quoted_calls g a5 m2 m2 (l.drop o2) y (HBR2.out y hy) (by omega)
                  unfold QuPost at h
                  rw [hq] at h
                  dsimp only at h
                  rw [← hval, ← ha6, ← hm3] at h
                  exact h)
                have HLQ := Lib.hid (show opL l f o3 (addA as_ key val) = R from by
                  have hL := HLK2.out
                  rw [hq] at hL
                  dsimp only at hL
                  rw [← hval, ← ho3] at hL
                  exact hL)
                have HM3 := Lib.hid (show m3 = n - o3 ∧ o3 ≤ n from by have := HM2.out; omega)
                have HO3 := Lib.hid (show o < o3 from by have := HO2.out; omega)
                have HA6 := Lib.hid (show o3 < n → a6 = a + o3 from fun h => by have := HM2.out; rw [ha6, bof_lt (by omega), HA5.out (by omega)]; omega)
                clear hq hval ha6 hm3 ho3 hqs HLK2
                have HCF0 := HCFA.out
                obtain ⟨bc, hbc⟩ : ∃ bc, (as_.any fun x => eqS x.f0 key) = bc := ⟨_, rfl⟩
                have HBC := Lib.hid hbc
                have HCF := Lib.hid (show ∀ y b, k70.C y A0 as_.length as_ → y.cell? ⟨b, 0, none⟩ = some (.string key) → b < y.heap.size → Calls Tryz.prog 108 #[.slice A0 as_.length c0, .func (.func 109) #[] #[.pointer (some ⟨b, 0, none⟩)]] y fun e w' => e = .returned (.bool bc) ∧ Below y.heap.size y w' from fun y b h1 h2 h3 => by
                  have h := HCF0 y b h1 h2 h3
                  rw [hbc] at h
                  exact h)
                clear hbc HCF0
                cases bc with
                | true =>
                  go_wp2_with (first | (go_at_call 106; refine HSC.out.mono ?_; rintro e w' ⟨rfl, rfl⟩) | (go_at_call 53; refine HNR.out.mono ?_; rintro e wn ⟨rfl, hb⟩; have HIn := Lib.hid ((HI.out.step hb).step ((Below.refl _ _).alloc (Nat.le_refl _) (.cells #[.string key] 9))); clear hb) | (go_at_call 107; refine (HQ.out _ HIn.out.below).mono ?_; rintro e w2 ⟨rfl, hb⟩; have HI2 := Lib.hid (HIn.out.step hb); have ck : w2.cell? ⟨wn.heap.size, 0, none⟩ = some (.string key) := (by rw [hb.cell (p := ⟨wn.heap.size, 0, none⟩) (by simp)]; exact (Blk.alloc wn _ _).cell 0); have hkl2 : wn.heap.size < w2.heap.size := (Nat.lt_of_lt_of_le (by simp) hb.size); have HCK := Lib.hid ck; have HKL2 := Lib.hid hkl2; have c3 : w2.cell? ⟨ht, 3, none⟩ = some (.slice A0 as_.length c0) := HI2.out.tok.cell 3; clear hb ck hkl2) | (go_at_call 108; refine (HCF.out _ _ (Kd.R_reads' HI2.out.row).2.2 HCK.out HKL2.out).mono ?_; rintro e w3 ⟨rfl, hb⟩; have HI3 := Lib.hid (HI2.out.step hb); have ck3 : w3.cell? ⟨wn.heap.size, 0, none⟩ = some (.string key) := (by rw [hb.cell (p := ⟨wn.heap.size, 0, none⟩) HKL2.out]; exact HCK.out); have c33 : w3.cell? ⟨ht, 3, none⟩ = some (.slice A0 as_.length c0) := HI3.out.tok.cell 3; clear hb c3))
                  go_roundw
                  case rel => exact ⟨f, o3, a6, m3, _, as_, rfl, by have := HM3.out; omega, Lib.hid HM3.out, HA6, HI3, Lib.hid (by have h := HLQ.out; unfold addA at h; rw [HBC.out] at h; exact h), Lib.hid (by have := HF.out; have := HM3.out; have := HO3.out; have := HO.out; omega), Lib.hid (by have := HAL.out; have := HO3.out;  omega)⟩
                  case measure => show slz _ < slz _; have := HM3.out; have := HO3.out; have := HO.out; simp only [slz]; omega
                | false =>
                  go_wp2_with (first | (go_at_call 106; refine HSC.out.mono ?_; rintro e w' ⟨rfl, rfl⟩) | (go_at_call 53; refine HNR.out.mono ?_; rintro e wn ⟨rfl, hb⟩; have HIn := Lib.hid ((HI.out.step hb).step ((Below.refl _ _).alloc (Nat.le_refl _) (.cells #[.string key] 9))); clear hb) | (go_at_call 107; refine (HQ.out _ HIn.out.below).mono ?_; rintro e w2 ⟨rfl, hb⟩; have HI2 := Lib.hid (HIn.out.step hb); have ck : w2.cell? ⟨wn.heap.size, 0, none⟩ = some (.string key) := (by rw [hb.cell (p := ⟨wn.heap.size, 0, none⟩) (by simp)]; exact (Blk.alloc wn _ _).cell 0); have hkl2 : wn.heap.size < w2.heap.size := (Nat.lt_of_lt_of_le (by simp) hb.size); have HCK := Lib.hid ck; have HKL2 := Lib.hid hkl2; have c3 : w2.cell? ⟨ht, 3, none⟩ = some (.slice A0 as_.length c0) := HI2.out.tok.cell 3; clear hb ck hkl2) | (go_at_call 108; refine (HCF.out _ _ (Kd.R_reads' HI2.out.row).2.2 HCK.out HKL2.out).mono ?_; rintro e w3 ⟨rfl, hb⟩; have HI3 := Lib.hid (HI2.out.step hb); have ck3 : w3.cell? ⟨wn.heap.size, 0, none⟩ = some (.string key) := (by rw [hb.cell (p := ⟨wn.heap.size, 0, none⟩) HKL2.out]; exact HCK.out); have c33 : w3.cell? ⟨ht, 3, none⟩ = some (.slice A0 as_.length c0) := HI3.out.tok.cell 3; clear hb c3) | (at_builtin; refine Kd.R_append k70 (w0 := w) w.heap.size rfl _ _ 44 70 (.agg #[.string ⟨#[]⟩, .string ⟨#[]⟩]) 32 rfl Tryz.underlying44 info_attr rfl (by decide) (by decide) (.slice A0 as_.length c0) as_ ⟨key, val⟩ [.string key, .string val] (fun _ => True) (fun _ => False) rfl rfl (k70_mkM _ _ _ ⟨key, val⟩) (fun _ h => h.elim) (fun _ _ => trivial) HI3.out.row HI3.out.below HI3.out.below.size HALB.out ?_; intro v1 w4 hr hb4 hg4 hat4; have HI4 := Lib.hid (opI_app HI3.out hr hb4 hg4); obtain ⟨A1, c1', hv1⟩ := Kd.R_slice hr; rw [List.length_append, List.length_singleton] at hv1; subst hv1; have c34 : w4.cell? ⟨ht, 3, none⟩ = some (.slice A0 as_.length c0) := HI4.out.1.cell 3; have f34 := HI4.out.1.free 3; clear hr hb4 hg4 hat4))
                  go_roundw
                  case rel => exact ⟨f, o3, a6, m3, _, as_ ++ [⟨key, val⟩], rfl, by have := HM3.out; omega, Lib.hid HM3.out, HA6, Lib.hid HI4.out.2, Lib.hid (by have h := HLQ.out; unfold addA at h; rw [HBC.out] at h; exact h), Lib.hid (by have := HF.out; have := HM3.out; have := HO3.out; have := HO.out; omega), Lib.hid (by have := HAL.out; have := HO3.out; rw [List.length_append, List.length_singleton]; omega)⟩
                  case measure => show slz _ < slz _; have := HM3.out; have := HO3.out; have := HO.out; simp only [slz]; omega
              | none =>
                have HQ := Lib.hid (show ∀ y, Below w.heap.size w y → Calls Tryz.prog 107 #[.slice (some ⟨g, a5, none⟩) m2 m2] y fun e w' => e = .returned (.tuple #[.string ⟨#[]⟩, .slice (some ⟨g, a5, none⟩) m2 m2, .bool false]) ∧ Below y.heap.size y w' from fun y hy => by
                  have h := quoted_calls g a5 m2 m2 (l.drop o2) y (HBR2.out y hy) (by omega)
                  unfold QuPost at h
                  rw [hq] at h
                  exact h)
                have hL := HLK2.out
                rw [hq] at hL
                dsimp only at hL
                have HLK3 := Lib.hid hL
                clear hq hL HLK2
                by_cases hm0 : m2 = 0
                · have w3 : ¬ (0 : Int) < (m2 : Int) := by omega
                  obtain ⟨val, hval⟩ : ∃ val, val = (⟨#[]⟩ : ByteArray) := ⟨_, rfl⟩
                  obtain ⟨a6, ha6⟩ : ∃ a6, a6 = a5 := ⟨_, rfl⟩
                  obtain ⟨m3, hm3⟩ : ∃ m3, m3 = m2 := ⟨_, rfl⟩
                  obtain ⟨o3, ho3⟩ : ∃ o3, o3 = o2 := ⟨_, rfl⟩
                  have HLQ := Lib.hid (show opL l f o3 (addA as_ key val) = R from by
                    have hL := HLK3.out
                    rw [if_neg (by rw [List.drop_of_length_le (by rw [HLN.out]; have := HM2.out; omega)]; simp)] at hL
                    rw [hval, ho3]
                    exact hL)
                  subst hval ha6 hm3 ho3
                  have HM3 := HM2
                  have HO3 := HO2
                  have HA6 := HA5
                  clear HLK3 hm0
                  have HCF0 := HCFA.out
                  obtain ⟨bc, hbc⟩ : ∃ bc, (as_.any fun x => eqS x.f0 key) = bc := ⟨_, rfl⟩
                  have HBC := Lib.hid hbc
                  have HCF := Lib.hid (show ∀ y b, k70.C y A0 as_.length as_ → y.cell? ⟨b, 0, none⟩ = some (.string key) → b < y.heap.size → Calls Tryz.prog 108 #[.slice A0 as_.length c0, .func (.func 109) #[] #[.pointer (some ⟨b, 0, none⟩)]] y fun e w' => e = .returned (.bool bc) ∧ Below y.heap.size y w' from fun y b h1 h2 h3 => by
                    have h := HCF0 y b h1 h2 h3
                    rw [hbc] at h
                    exact h)
                  clear hbc HCF0
                  cases bc with
                  | true =>
                    go_wp2_with (first | (go_at_call 106; refine HSC.out.mono ?_; rintro e w' ⟨rfl, rfl⟩) | (go_at_call 53; refine HNR.out.mono ?_; rintro e wn ⟨rfl, hb⟩; have HIn := Lib.hid ((HI.out.step hb).step ((Below.refl _ _).alloc (Nat.le_refl _) (.cells #[.string key] 9))); clear hb) | (go_at_call 107; refine (HQ.out _ HIn.out.below).mono ?_; rintro e w2 ⟨rfl, hb⟩; have HI2 := Lib.hid (HIn.out.step hb); have ck : w2.cell? ⟨wn.heap.size, 0, none⟩ = some (.string key) := (by rw [hb.cell (p := ⟨wn.heap.size, 0, none⟩) (by simp)]; exact (Blk.alloc wn _ _).cell 0); have hkl2 : wn.heap.size < w2.heap.size := (Nat.lt_of_lt_of_le (by simp) hb.size); have HCK := Lib.hid ck; have HKL2 := Lib.hid hkl2; have c3 : w2.cell? ⟨ht, 3, none⟩ = some (.slice A0 as_.length c0) := HI2.out.tok.cell 3; clear hb ck hkl2) | (go_at_call 108; refine (HCF.out _ _ (Kd.R_reads' HI2.out.row).2.2 HCK.out HKL2.out).mono ?_; rintro e w3 ⟨rfl, hb⟩; have HI3 := Lib.hid (HI2.out.step hb); have ck3 : w3.cell? ⟨wn.heap.size, 0, none⟩ = some (.string key) := (by rw [hb.cell (p := ⟨wn.heap.size, 0, none⟩) HKL2.out]; exact HCK.out); have c33 : w3.cell? ⟨ht, 3, none⟩ = some (.slice A0 as_.length c0) := HI3.out.tok.cell 3; clear hb c3))
                    go_roundw
                    case rel => exact ⟨f, o3, a6, m3, _, as_, rfl, by have := HM3.out; omega, Lib.hid HM3.out, HA6, HI3, Lib.hid (by have h := HLQ.out; unfold addA at h; rw [HBC.out] at h; exact h), Lib.hid (by have := HF.out; have := HM3.out; have := HO3.out; have := HO.out; omega), Lib.hid (by have := HAL.out; have := HO3.out;  omega)⟩
                    case measure => show slz _ < slz _; have := HM3.out; have := HO3.out; have := HO.out; simp only [slz]; omega
                  | false =>
                    go_wp2_with (first | (go_at_call 106; refine HSC.out.mono ?_; rintro e w' ⟨rfl, rfl⟩) | (go_at_call 53; refine HNR.out.mono ?_; rintro e wn ⟨rfl, hb⟩; have HIn := Lib.hid ((HI.out.step hb).step ((Below.refl _ _).alloc (Nat.le_refl _) (.cells #[.string key] 9))); clear hb) | (go_at_call 107; refine (HQ.out _ HIn.out.below).mono ?_; rintro e w2 ⟨rfl, hb⟩; have HI2 := Lib.hid (HIn.out.step hb); have ck : w2.cell? ⟨wn.heap.size, 0, none⟩ = some (.string key) := (by rw [hb.cell (p := ⟨wn.heap.size, 0, none⟩) (by simp)]; exact (Blk.alloc wn _ _).cell 0); have hkl2 : wn.heap.size < w2.heap.size := (Nat.lt_of_lt_of_le (by simp) hb.size); have HCK := Lib.hid ck; have HKL2 := Lib.hid hkl2; have c3 : w2.cell? ⟨ht, 3, none⟩ = some (.slice A0 as_.length c0) := HI2.out.tok.cell 3; clear hb ck hkl2) | (go_at_call 108; refine (HCF.out _ _ (Kd.R_reads' HI2.out.row).2.2 HCK.out HKL2.out).mono ?_; rintro e w3 ⟨rfl, hb⟩; have HI3 := Lib.hid (HI2.out.step hb); have ck3 : w3.cell? ⟨wn.heap.size, 0, none⟩ = some (.string key) := (by rw [hb.cell (p := ⟨wn.heap.size, 0, none⟩) HKL2.out]; exact HCK.out); have c33 : w3.cell? ⟨ht, 3, none⟩ = some (.slice A0 as_.length c0) := HI3.out.tok.cell 3; clear hb c3) | (at_builtin; refine Kd.R_append k70 (w0 := w) w.heap.size rfl _ _ 44 70 (.agg #[.string ⟨#[]⟩, .string ⟨#[]⟩]) 32 rfl Tryz.underlying44 info_attr rfl (by decide) (by decide) (.slice A0 as_.length c0) as_ ⟨key, ⟨#[]⟩⟩ [.string key, .string ⟨#[]⟩] (fun _ => True) (fun _ => False) rfl rfl (k70_mkM _ _ _ ⟨key, ⟨#[]⟩⟩) (fun _ h => h.elim) (fun _ _ => trivial) HI3.out.row HI3.out.below HI3.out.below.size HALB.out ?_; intro v1 w4 hr hb4 hg4 hat4; have HI4 := Lib.hid (opI_app HI3.out hr hb4 hg4); obtain ⟨A1, c1', hv1⟩ := Kd.R_slice hr; rw [List.length_append, List.length_singleton] at hv1; subst hv1; have c34 : w4.cell? ⟨ht, 3, none⟩ = some (.slice A0 as_.length c0) := HI4.out.1.cell 3; have f34 := HI4.out.1.free 3; clear hr hb4 hg4 hat4))
                    go_roundw
                    case rel => exact ⟨f, o3, a6, m3, _, as_ ++ [⟨key, ⟨#[]⟩⟩], rfl, by have := HM3.out; omega, Lib.hid HM3.out, HA6, Lib.hid HI4.out.2, Lib.hid (by have h := HLQ.out; unfold addA at h; rw [HBC.out] at h; exact h), Lib.hid (by have := HF.out; have := HM3.out; have := HO3.out; have := HO.out; omega), Lib.hid (by have := HAL.out; have := HO3.out; rw [List.length_append, List.length_singleton]; omega)⟩
                    case measure => show slz _ < slz _; have := HM3.out; have := HO3.out; have := HO.out; simp only [slz]; omega
                · have w3 : (0 : Int) < (m2 : Int) := by omega
                  have hll : 0 < (l.drop o2).length := by rw [List.length_drop, HLN.out]; have := HM2.out; omega
                  obtain ⟨d6, hd6⟩ : ∃ d6, d6 = (l.drop o2)[0]'hll := ⟨_, rfl⟩
                  have HD6 := Lib.hid (show (l.drop o2).head? = some d6 from by rw [hd6, List.head?_eq_getElem?, List.getElem?_eq_getElem hll])
                  have HC6 := Lib.hid (show ∀ y, Below w.heap.size w y → y.cell? ⟨g, a5, none⟩ = some (.int .u8 (d6.toNat : Int)) from fun y hy => by rw [hd6]; exact (HBR2.out y hy).cell 0 hll)
                  clear hd6 hll
                  by_cases h61 : d6 = 61
                  · subst h61
                    have HN := Lib.hid (show opF l = none from by
                      have hL := HLK3.out
                      rw [if_pos HD6.out] at hL
                      rw [HOP.out, ← hL]
                      rfl)
                    go_wp2_with (first | (go_at_call 106; refine HSC.out.mono ?_; rintro e w' ⟨rfl, rfl⟩) | (go_at_call 53; refine HNR.out.mono ?_; rintro e wn ⟨rfl, hb⟩; have HIn := Lib.hid ((HI.out.step hb).step ((Below.refl _ _).alloc (Nat.le_refl _) (.cells #[.string key] 9))); clear hb) | (go_at_call 107; refine (HQ.out _ HIn.out.below).mono ?_; rintro e w2 ⟨rfl, hb⟩; have HI2 := Lib.hid (HIn.out.step hb); have ck : w2.cell? ⟨wn.heap.size, 0, none⟩ = some (.string key) := (by rw [hb.cell (p := ⟨wn.heap.size, 0, none⟩) (by simp)]; exact (Blk.alloc wn _ _).cell 0); have hkl2 : wn.heap.size < w2.heap.size := (Nat.lt_of_lt_of_le (by simp) hb.size); have HCK := Lib.hid ck; have HKL2 := Lib.hid hkl2; have c3 : w2.cell? ⟨ht, 3, none⟩ = some (.slice A0 as_.length c0) := HI2.out.tok.cell 3; have c61 := HC6.out w2 HI2.out.below; clear hb ck hkl2) | ((with_reducible refine Mix.at_st (t := 46) ?_); refine Mix.wpList_store_blk (o := ⟨none, .store 46 _ _, _, _, _, _⟩) rfl 46 _ _ rfl w.heap.size (TK 0 emv emv nil8) rfl rfl 46 (TK 0 emv emv nil8) HI2.out.res (info_tok _ _ _ _) rfl (tk_all _ _ _ _ _ _) ?_; intro W3 hb3 hbu hsz3; have e1 : W3.cell? ⟨w.heap.size, 0, none⟩ = some (.int .i64 0) := hb3.cell 0; have e2 : W3.cell? ⟨w.heap.size, 1, none⟩ = some emv := hb3.cell 1; have e3 : W3.cell? ⟨w.heap.size, 2, none⟩ = some emv := hb3.cell 2; have e4 : W3.cell? ⟨w.heap.size, 3, none⟩ = some nil8 := hb3.cell 3; have HB3 := Lib.hid hb3; have HBU := Lib.hid hbu; have HSZ := Lib.hid hsz3; clear hb3 hbu hsz3))
                    refine bodyPost_ret (v := .tuple #[.agg (TK 0 emv emv nil8), nil8, .bool false]) (by simp [results, Tryz.results86, go_sem, e1, e2, e3, e4]; first | done | exact ⟨rfl, rfl⟩) rfl ⟨by rw [HN.out]; exact rfl, HI2.out.below.trans (HBU.out.below (Nat.le_refl _) HI2.out.below.size)⟩
                  · have v61 : ((d6.toNat : Int) == 61) = false := by
                      have : d6.toNat ≠ 61 := fun h => h61 (by apply UInt8.toNat_inj.1; exact h)
                      simp; omega
                    obtain ⟨val, hval⟩ : ∃ val, val = (⟨#[]⟩ : ByteArray) := ⟨_, rfl⟩
                    obtain ⟨a6, ha6⟩ : ∃ a6, a6 = a5 := ⟨_, rfl⟩
                    obtain ⟨m3, hm3⟩ : ∃ m3, m3 = m2 := ⟨_, rfl⟩
                    obtain ⟨o3, ho3⟩ : ∃ o3, o3 = o2 := ⟨_, rfl⟩
                    have HLQ := Lib.hid (show opL l f o3 (addA as_ key val) = R from by
                      have hL := HLK3.out
                      rw [if_neg (by rw [HD6.out]; intro h; injection h with h; exact h61 h)] at hL
                      rw [hval, ho3]
                      exact hL)
                    subst hval ha6 hm3 ho3
                    have HM3 := HM2
                    have HO3 := HO2
                    have HA6 := HA5
                    clear HLK3
                    have HCF0 := HCFA.out
                    obtain ⟨bc, hbc⟩ : ∃ bc, (as_.any fun x => eqS x.f0 key) = bc := ⟨_, rfl⟩
                    have HBC := Lib.hid hbc
                    have HCF := Lib.hid (show ∀ y b, k70.C y A0 as_.length as_ → y.cell? ⟨b, 0, none⟩ = some (.string key) → b < y.heap.size → Calls Tryz.prog 108 #[.slice A0 as_.length c0, .func (.func 109) #[] #[.pointer (some ⟨b, 0, none⟩)]] y fun e w' => e = .returned (.bool bc) ∧ Below y.heap.size y w' from fun y b h1 h2 h3 => by
                      have h := HCF0 y b h1 h2 h3
                      rw [hbc] at h
                      exact h)
                    clear hbc HCF0
                    cases bc with
                    | true =>
                      go_wp2_with (first | (go_at_call 106; refine HSC.out.mono ?_; rintro e w' ⟨rfl, rfl⟩) | (go_at_call 53; refine HNR.out.mono ?_; rintro e wn ⟨rfl, hb⟩; have HIn := Lib.hid ((HI.out.step hb).step ((Below.refl _ _).alloc (Nat.le_refl _) (.cells #[.string key] 9))); clear hb) | (go_at_call 107; refine (HQ.out _ HIn.out.below).mono ?_; rintro e w2 ⟨rfl, hb⟩; have HI2 := Lib.hid (HIn.out.step hb); have ck : w2.cell? ⟨wn.heap.size, 0, none⟩ = some (.string key) := (by rw [hb.cell (p := ⟨wn.heap.size, 0, none⟩) (by simp)]; exact (Blk.alloc wn _ _).cell 0); have hkl2 : wn.heap.size < w2.heap.size := (Nat.lt_of_lt_of_le (by simp) hb.size); have HCK := Lib.hid ck; have HKL2 := Lib.hid hkl2; have c3 : w2.cell? ⟨ht, 3, none⟩ = some (.slice A0 as_.length c0) := HI2.out.tok.cell 3; have c61 := HC6.out w2 HI2.out.below; clear hb ck hkl2) | (go_at_call 108; refine (HCF.out _ _ (Kd.R_reads' HI2.out.row).2.2 HCK.out HKL2.out).mono ?_; rintro e w3 ⟨rfl, hb⟩; have HI3 := Lib.hid (HI2.out.step hb); have ck3 : w3.cell? ⟨wn.heap.size, 0, none⟩ = some (.string key) := (by rw [hb.cell (p := ⟨wn.heap.size, 0, none⟩) HKL2.out]; exact HCK.out); have c33 : w3.cell? ⟨ht, 3, none⟩ = some (.slice A0 as_.length c0) := HI3.out.tok.cell 3; clear hb c3))
                      go_roundw
                      case rel => exact ⟨f, o3, a6, m3, _, as_, rfl, by have := HM3.out; omega, Lib.hid HM3.out, HA6, HI3, Lib.hid (by have h := HLQ.out; unfold addA at h; rw [HBC.out] at h; exact h), Lib.hid (by have := HF.out; have := HM3.out; have := HO3.out; have := HO.out; omega), Lib.hid (by have := HAL.out; have := HO3.out;  omega)⟩
                      case measure => show slz _ < slz _; have := HM3.out; have := HO3.out; have := HO.out; simp only [slz]; omega
                    | false =>
                      go_wp2_with (first | (go_at_call 106; refine HSC.out.mono ?_; rintro e w' ⟨rfl, rfl⟩) | (go_at_call 53; refine HNR.out.mono ?_; rintro e wn ⟨rfl, hb⟩; have HIn := Lib.hid ((HI.out.step hb).step ((Below.refl _ _).alloc (Nat.le_refl _) (.cells #[.string key] 9))); clear hb) | (go_at_call 107; refine (HQ.out _ HIn.out.below).mono ?_; rintro e w2 ⟨rfl, hb⟩; have HI2 := Lib.hid (HIn.out.step hb); have ck : w2.cell? ⟨wn.heap.size, 0, none⟩ = some (.string key) := (by rw [hb.cell (p := ⟨wn.heap.size, 0, none⟩) (by simp)]; exact (Blk.alloc wn _ _).cell 0); have hkl2 : wn.heap.size < w2.heap.size := (Nat.lt_of_lt_of_le (by simp) hb.size); have HCK := Lib.hid ck; have HKL2 := Lib.hid hkl2; have c3 : w2.cell? ⟨ht, 3, none⟩ = some (.slice A0 as_.length c0) := HI2.out.tok.cell 3; have c61 := HC6.out w2 HI2.out.below; clear hb ck hkl2) | (go_at_call 108; refine (HCF.out _ _ (Kd.R_reads' HI2.out.row).2.2 HCK.out HKL2.out).mono ?_; rintro e w3 ⟨rfl, hb⟩; have HI3 := Lib.hid (HI2.out.step hb); have ck3 : w3.cell? ⟨wn.heap.size, 0, none⟩ = some (.string key) := (by rw [hb.cell (p := ⟨wn.heap.size, 0, none⟩) HKL2.out]; exact HCK.out); have c33 : w3.cell? ⟨ht, 3, none⟩ = some (.slice A0 as_.length c0) := HI3.out.tok.cell 3; clear hb c3) | (at_builtin; refine Kd.R_append k70 (w0 := w) w.heap.size rfl _ _ 44 70 (.agg #[.string ⟨#[]⟩, .string ⟨#[]⟩]) 32 rfl Tryz.underlying44 info_attr rfl (by decide) (by decide) (.slice A0 as_.length c0) as_ ⟨key, ⟨#[]⟩⟩ [.string key, .string ⟨#[]⟩] (fun _ => True) (fun _ => False) rfl rfl (k70_mkM _ _ _ ⟨key, ⟨#[]⟩⟩) (fun _ h => h.elim) (fun _ _ => trivial) HI3.out.row HI3.out.below HI3.out.below.size HALB.out ?_; intro v1 w4 hr hb4 hg4 hat4; have HI4 := Lib.hid (opI_app HI3.out hr hb4 hg4); obtain ⟨A1, c1', hv1⟩ := Kd.R_slice hr; rw [List.length_append, List.length_singleton] at hv1; subst hv1; have c34 : w4.cell? ⟨ht, 3, none⟩ = some (.slice A0 as_.length c0) := HI4.out.1.cell 3; have f34 := HI4.out.1.free 3; clear hr hb4 hg4 hat4))
                      go_roundw
                      case rel => exact ⟨f, o3, a6, m3, _, as_ ++ [⟨key, ⟨#[]⟩⟩], rfl, by have := HM3.out; omega, Lib.hid HM3.out, HA6, Lib.hid HI4.out.2, Lib.hid (by have h := HLQ.out; unfold addA at h; rw [HBC.out] at h; exact h), Lib.hid (by have := HF.out; have := HM3.out; have := HO3.out; have := HO.out; omega), Lib.hid (by have := HAL.out; have := HO3.out; rw [List.length_append, List.length_singleton]; omega)⟩
                      case measure => show slz _ < slz _; have := HM3.out; have := HO3.out; have := HO.out; simp only [slz]; omega
end Go.Proofs.YtkjgnkmnngaioaaGreat.Q
namespace Go.Proofs.YtkjgnkmnngaioaaGreat.Q
open Go.RowKit Go.Proofs.YtkjgnkmnngaioaaGreat.Mem
set_option linter.unusedVariables false
set_option linter.unusedSimpArgs false
def os (a : Nat) : ByteArray := ([⟨#[38]⟩, ⟨#[60]⟩, ⟨#[62]⟩, ⟨#[34]⟩] : List ByteArray).getD a ⟨#[]⟩
def ns (a : Nat) : ByteArray := ([⟨#[38, 97, 109, 112, 59]⟩, ⟨#[38, 108, 116, 59]⟩, ⟨#[38, 103, 116, 59]⟩, ⟨#[38, 113, 117, 111, 116, 59]⟩] : List ByteArray).getD a ⟨#[]⟩
/-- The replacer's block: what each byte is replaced by, and the bytes that are. -/
def BSB (f : Nat → Value) (tr : Value) : Array Value := ((List.range 256).map f ++ [tr]).toArray
abbrev nlb : Value := .slice none 0 0
/-- A row of bytes that reads so. -/
def Rp (W : World) (v : Value) (n : ByteArray) : Prop := ∃ (g cap : Nat) (cur : Array Value) (fz : Nat × Nat), v = .slice (some ⟨g, 0, none⟩) n.size cap ∧ W.heap[g]? = some (.cells cur 5 fz) ∧ ∀ j (hj : j < n.size), cur[j]? = some (.int .u8 n[j].toNat)
theorem own_sl {w : World} {base : Nat} {e : TypeId} {v : Value} {n : Nat} {xs : List Value} (h : w.ownsRow base e 1 v n xs) : ∃ A c, v = .slice A n c := by
  rcases h.2 with ⟨rfl, rfl⟩ | ⟨g, cap, cur, rfl, -⟩
  · exact ⟨_, _, rfl⟩
  · exact ⟨_, _, rfl⟩
def oby (a : Nat) : Nat := ([38, 60, 62, 34] : List Nat).getD a 0
/-- What stands when `k` of `np` bytes are put in, the last ones first. -/
structure BsS (q base np k : Nat) (f : Nat → Value) (tr : Value) (W : World) : Prop where
  blk : Blk W q (BSB f tr) 179
  own : W.ownsRow base 9 1 tr k ((List.range k).map fun j => .string (os (np - 1 - j)))
  done : ∀ a, a < np → np - k ≤ a → Rp W (f (oby a)) (ns a)
  rest : ∀ c, c < 256 → (∀ a, a < np → np - k ≤ a → c ≠ oby a) → f c = nlb
  ge : base ≤ q
/-- The replacer of `np` bytes. -/
def Bs (q base np : Nat) (W : World) : Prop := ∃ f tr, BsS q base np np f tr W
end Go.Proofs.YtkjgnkmnngaioaaGreat.Q
namespace Go.Proofs.YtkjgnkmnngaioaaGreat.Q
open Go.RowKit Go.IntWalk Go.Proofs.YtkjgnkmnngaioaaGreat.Mem Go.Proofs.YtkjgnkmnngaioaaGreatW.PrintWords Go.Proofs.YtkjgnkmnngaioaaGreatW.PrintLast Go.Proofs.YtkjgnkmnngaioaaGreatW.PrintMore
set_option linter.unusedVariables false
set_option linter.unusedSimpArgs false
theorem conv_own8 {w : World} {base : Nat} {v : Value} {l : List UInt8} (h : w.ownsRow base 5 1 v l.length (byc l)) : (convert 72 9 v).run Tryz.prog w = .ok (.string (st l)) w := by
  rcases h.2 with ⟨rfl, hl⟩ | ⟨g, cap, cur, rfl, hb, hg, hn, hc, hs, ht⟩
  · have : l = [] := List.length_eq_zero_iff.1 hl
    subst this
    exact run_convert_bytes_nil w 72 5 Tryz.underlying72 Tryz.underlying5 0 0 _ Tryz.underlying9
  · refine run_convert_bytes_back w 72 9 5 ⟨g, 0, none⟩ cap l Tryz.underlying72 Tryz.underlying5 Tryz.underlying9 (fun j hj => ?_)
    refine h.cells (g := g) rfl j _ ?_
    unfold byc
    rw [List.getElem?_map, List.getElem?_eq_getElem hj]
    rfl
/-- The tokens so far, and the text so far. -/
structure EndI (h base : Nat) (ok : Nat → Prop) (ts : List S46) (tx : List UInt8) (lv tv : Value) (y : World) : Prop where
  lc : Blk y h #[lv] 23
  tc : Blk y (h + 1) #[tv] 72
  lr : Kd.S k46 46 y base ok lv ts
  tr : y.ownsRow base 5 1 tv tx.length (byc tx)
/-- The tokens, and the text that ends. -/
def endT (ts : List S46) (tx : List UInt8) : List S46 := if tx = [] then ts else ts ++ [⟨3, ⟨#[]⟩, st (tellF (st tx) 0), []⟩]
/-- Nothing but the cells, and the row of tokens, has changed. -/
structure Chg (h : Nat) (row : Option Nat) (w w' : World) : Prop where
  os : w'.os = w.os
  tape : w'.tape = w.tape
  output : w'.output = w.output
  size : w.heap.size ≤ w'.heap.size
  block : ∀ k, k < w.heap.size → k ≠ h → k ≠ h + 1 → some k ≠ row → w'.heap[k]? = w.heap[k]?
theorem info_token : (Tryz.prog.info? 46).map (fun i => (i.zero, i.size, i.bytes)) = some (some (.agg #[.int .i64 0, .string ⟨#[]⟩, .string ⟨#[]⟩, .slice none 0 0]), 4, 64) := by kernel_rfl
theorem typ_token {T : TypeId} (h1 : 46 ≠ T) (h2 : 70 ≠ T) : ∀ q, q ∈ 46 :: k46.E → q ≠ T := by
  intro q hq
  have h : q = 46 ∨ q = 70 := by
    simp [k46, k70, Kd.iso, Kd.pair, Kd.string, Kd.int, Kd.scalar, Kd.slice] at hq
    omega
  rcases h with rfl | rfl
  · exact h1
  · exact h2
set_option maxRecDepth 100000 in
set_option maxHeartbeats 8000000 in
theorem end_calls (h base : Nat) (ok : Nat → Prop) (ts : List S46) (tx : List UInt8) (lv tv : Value) (w : World) (hI : EndI h base ok ts tx lv tv w) (hok : ∀ k, w.heap.size ≤ k → ok k) (hb : base ≤ h) (hl : ts.length ≤ 600000) (hx : tx.length ≤ 600000) :
    Calls Tryz.prog 48 #[.pointer (some ⟨h + 1, 0, none⟩), .pointer (some ⟨h, 0, none⟩)] w fun e w' => e = .returned (.tuple #[]) ∧ ∃ lv', EndI h base ok (endT ts tx) [] lv' (.slice none 0 0) w' ∧ Chg h lv.ownBlock w w' ∧ (lv'.ownBlock = lv.ownBlock ∨ ∃ b, lv'.ownBlock = some b ∧ w.heap.size ≤ b) := by
  have HI := Lib.hid hI
  have HH := Lib.hid hI.lc.lt
  have HH1 := Lib.hid hI.tc.lt
  obtain ⟨A1, c1, hlv⟩ := Kd.S_slice hI.lr
  obtain ⟨A2, c2, htv⟩ := own_sl hI.tr
  have HOK := Lib.hid hok
  clear hok
  have HX := Lib.hid hx
  have HL := Lib.hid hl
  subst hlv htv
  have d0 : w.cell? ⟨h, 0, none⟩ = some (.slice A1 ts.length c1) := hI.lc.cell 0
  have d1 : w.cell? ⟨h + 1, 0, none⟩ = some (.slice A2 tx.length c2) := hI.tc.cell 0
  have f1 : w.frozen? ⟨h + 1, 0, none⟩ = false := hI.tc.free 0
  have hne : h + 1 ≠ h := by omega
  clear hI
  by_cases ht : tx = []
  · have HE := Lib.hid (show endT ts tx = ts from by unfold endT; rw [if_pos ht])
    have hz : tx.length = 0 := by rw [ht]; rfl
    rw [hz] at d1
    clear ht hz
    go_enter Tryz.func48, Tryz.ntmps48
    go_wp2_with fail
    first | go_end0 | refine bodyPost_ret (results_none rfl _ _ _) rfl ?_
    refine ⟨rfl, .slice A1 ts.length c1, ?_, ⟨rfl, rfl, rfl, by simp [World.setCell], fun k _ h1 h2 _ => Below.heap_setCell _ _ _ _ h2⟩, .inl rfl⟩
    rw [HE.out]
    exact ⟨HI.out.lc.setCell_other _ (by show h ≠ h + 1; omega), HI.out.tc.set 0 _, Kd.S_set HI.out.lr HI.out.tc (typ_token (by decide) (by decide)) 0 _, World.ownsRow_nil _ _ _ _⟩
  · have HE := Lib.hid (show endT ts tx = ts ++ [⟨3, ⟨#[]⟩, st (tellF (st tx) 0), []⟩] from by unfold endT; rw [if_neg ht])
    have hz : 0 < tx.length := List.length_pos_iff.2 ht
    have v1 : (0 : Int) < (tx.length : Int) := by omega
    have HCV := Lib.hid (show ∀ y : World, y.ownsRow base 5 1 (.slice A2 tx.length c2) tx.length (byc tx) → (convert 72 9 (.slice A2 tx.length c2)).run Tryz.prog y = .ok (.string (st tx)) y from fun y hy => conv_own8 hy)
    have HT := Lib.hid (show ∀ y, Calls Tryz.prog 19 #[.string (st tx)] y fun e w' => e = .returned (.string ⟨(tellF (st tx) 0).toArray⟩) ∧ Below y.heap.size y w' from fun y => tell_calls (st tx) y (by show tx.toArray.size ≤ 600000; rw [List.size_toArray]; exact HX.out))
    have hcv := HCV.out _ (World.ownsRow.drew HI.out.tr)
    clear ht hz
    go_enter Tryz.func48, Tryz.ntmps48
    go_upto_region 1 with (fail)
    go_region_law (first
      | (refine Kd.S_append_step k46 (w0 := w) base (by simp [Region.wanted]) _ _ 23 46 (.agg #[.int .i64 0, .string ⟨#[]⟩, .string ⟨#[]⟩, .slice none 0 0]) 64 rfl Tryz.underlying23 info_token rfl (by decide) (by decide) (.slice A1 ts.length c1) ts ⟨3, ⟨#[]⟩, st (tellF (st tx) 0), []⟩ [.int .i64 3, .string ⟨#[]⟩, .string (st (tellF (st tx) 0)), .slice none 0 0] ok (fun _ => False) rfl rfl (k46_mkM _ _ _ ⟨3, ⟨#[]⟩, st (tellF (st tx) 0), []⟩ (Kd.R_nil _ _ _ _ _)) (fun _ h => h.elim) (fun k hk => HOK.out k (Nat.le_trans HB0.out.size hk)) (Kd.S_mono HS1.out (fun _ hk => ⟨hk, fun h => h⟩)) HB1.out HBS1.out (by have := HL.out; omega) ?_; intro v1 w4 hr hb4 hg4 hat4; obtain ⟨A3, c3, hv1⟩ := Kd.S_slice hr; rw [List.length_append, List.length_singleton] at hv1; subst hv1; have HL4 := Lib.hid (show Blk w4 h #[.slice A1 ts.length c1] 23 from HLB.out.of_block (hg4.block h HLB.out.lt (Kd.S_ne HS1.out HLB.out (by decide)))); have HT4 := Lib.hid (show Blk w4 (h + 1) #[.slice A2 tx.length c2] 72 from HTB.out.of_block (hg4.block (h + 1) HTB.out.lt (Kd.S_ne HS1.out HTB.out (by decide)))); have e5 : w4.cell? ⟨h + 1, 0, none⟩ = some (.slice A2 tx.length c2) := HT4.out.cell 0; have f5 : w4.frozen? ⟨h + 1, 0, none⟩ = false := HT4.out.free 0; have HR4 := Lib.hid hr; have HG4 := Lib.hid hg4; have HAT4 := Lib.hid hat4; have e4 : w4.cell? ⟨h, 0, none⟩ = some (.slice A1 ts.length c1) := HL4.out.cell 0; have f4 : w4.frozen? ⟨h, 0, none⟩ = false := HL4.out.free 0; clear hr hb4 hg4 hat4)
      | (go_simp; go_at_call 19; refine (HT.out _).mono ?_; rintro e w1 ⟨rfl, hb1⟩; have HS1 := Lib.hid (Kd.S_below (Kd.S_drew HI.out.lr) hb1); have HB0 := Lib.hid (show Below w.heap.size w w1 from Below.trans (b := w.drew) ⟨rfl, rfl, rfl, Nat.le_refl _, fun _ _ => rfl⟩ hb1); have HB1 := Lib.hid (HB0.out.mono (show base ≤ w.heap.size by have := HH.out; omega)); have HBS1 := Lib.hid (show base ≤ w1.heap.size from Nat.le_trans (show base ≤ w.heap.size by have := HH.out; omega) HB0.out.size); have HLB := Lib.hid (HI.out.lc.below HB0.out HH.out); have HTB := Lib.hid (HI.out.tc.below HB0.out HH1.out); have d0' : w1.cell? ⟨h, 0, none⟩ = some (.slice A1 ts.length c1) := HLB.out.cell 0; have d0'' : ∀ o, (w1.alloc o).cell? ⟨h, 0, none⟩ = some (.slice A1 ts.length c1) := (fun o => (HLB.out.alloc_old o).cell 0); clear hb1))
    all_goals
      show Exit.then _ _ _ _ _
      go_wp2_with fail
      first | go_end0 | refine bodyPost_ret (results_none rfl _ _ _) rfl ?_
      refine ⟨rfl, .slice A3 (ts.length + 1) c3, ?_, ?_, ?_⟩
      · rw [HE.out]
        have hs := Kd.S_set HR4.out HL4.out (typ_token (by decide) (by decide)) 0 (.slice A3 (ts.length + 1) c3)
        have ht4 := HT4.out.setCell_other (a := ⟨h, 0, none⟩) (.slice A3 (ts.length + 1) c3) (by show h + 1 ≠ h; omega)
        exact ⟨(HL4.out.set 0 _).setCell_other _ (by show h ≠ h + 1; omega), ht4.set 0 _, Kd.S_set hs ht4 (typ_token (by decide) (by decide)) 0 _, World.ownsRow_nil _ _ _ _⟩
      · have h0 := HB0.out
        have h4 := HG4.out
        exact ⟨h4.os.trans h0.os, h4.tape.trans h0.tape, h4.output.trans h0.output, by have := h0.size; have := h4.size; simp [World.setCell]; omega, fun k hk h1 h2 h3 => (Below.heap_setCell _ _ _ _ h2).trans ((Below.heap_setCell _ _ _ _ h1).trans ((h4.block k (Nat.lt_of_lt_of_le hk h0.size) h3).trans (h0.block k hk)))⟩
      · rcases HAT4.out with h | ⟨b, h1, h2⟩
        · exact .inl h
        · exact .inr ⟨b, h1, Nat.le_trans HB0.out.size h2⟩
end Go.Proofs.YtkjgnkmnngaioaaGreat.Q
namespace Go.Proofs.YtkjgnkmnngaioaaGreat.Q
open Go.RowKit Go.IntWalk Go.Proofs.YtkjgnkmnngaioaaGreat.Mem Go.Proofs.YtkjgnkmnngaioaaGreatW.PrintWords Go.Proofs.YtkjgnkmnngaioaaGreatW.PrintLast Go.Proofs.YtkjgnkmnngaioaaGreatW.PrintMore
set_option linter.unusedVariables false
set_option linter.unusedSimpArgs false
/-- What is taken at a place: a closing, an opening, or nothing. -/
def tkF (l : List UInt8) : Option (S46 × Nat) :=
  match clF l with
  | some (k, u) => some (⟨2, st (lows ((l.drop 2).take k)), ⟨#[]⟩, []⟩, u)
  | none => match opF l with
    | some (k, as_, u) => some (⟨1, st (lows ((l.drop 1).take k)), ⟨#[]⟩, as_⟩, u)
    | none => none
/-- The tokens from a place on. -/
def rdL (l : List UInt8) : Nat → Nat → List S46 → List UInt8 → List S46
  | 0, _, ts, tx => endT ts tx
  | f + 1, o, ts, tx =>
    match l[o]? with
    | none => endT ts tx
    | some c => if c = 60 then (match tkF (l.drop o) with
        | some (t, u) => rdL l f (o + u) (endT ts tx ++ [t]) []
        | none => rdL l f (o + 1) ts (tx ++ [c]))
      else rdL l f (o + 1) ts (tx ++ [c])
def readF (l : List UInt8) : List S46 := rdL l (l.length + 1) 0 [] []
theorem clF_le {l : List UInt8} {k u : Nat} (h : clF l = some (k, u)) : u ≤ l.length ∧ 0 < u := by
  unfold clF at h
  split at h
  · cases h
  · split at h
    · cases h
    · split at h
      · cases h
      · split at h
        · rename_i h1
          injection h with h
          injection h with h2 h3
          rw [List.head?_eq_getElem?, List.getElem?_drop] at h1
          have h4 := (List.getElem?_eq_some_iff.1 h1).1
          omega
        · cases h
theorem opL_le {l : List UInt8} : ∀ {f o : Nat} {as_ : List S70} {r : List S70 × Nat}, opL l f o as_ = some r → r.2 ≤ l.length ∧ 0 < r.2
  | 0, _, _, _, h => by cases h
  | f + 1, o, as_, r, h => by
    rw [opL] at h
    split at h
    · rename_i h1
      injection h with h
      subst h
      rw [List.head?_eq_getElem?, List.getElem?_drop] at h1
      have h4 := (List.getElem?_eq_some_iff.1 h1).1
      dsimp only
      omega
    · split at h
      · cases h
      · split at h
        · cases h
        · split at h
          · exact opL_le h
          · split at h
            · cases h
            · exact opL_le h
theorem tkF_le {l : List UInt8} {t : S46} {u : Nat} (h : tkF l = some (t, u)) : u ≤ l.length ∧ 0 < u := by
  unfold tkF at h
  split at h
  · rename_i k u' hc
    injection h with h
    injection h with h1 h2
    subst h2
    exact clF_le hc
  · split at h
    · rename_i hc k as_ u' ho
      injection h with h
      injection h with h1 h2
      subst h2
      unfold opF at ho
      split at ho
      · cases ho
      · obtain ⟨r, hr, he⟩ := Option.map_eq_some_iff.1 ho
        have := opL_le hr
        obtain ⟨r1, r2⟩ := r
        injection he with he1 he2
        injection he2 with he2 he3
        subst he3
        exact this
    · cases h
theorem endT_len (ts : List S46) (tx : List UInt8) : (endT ts tx).length ≤ ts.length + 1 := by
  unfold endT
  split
  · omega
  · rw [List.length_append]; simp
section
variable {P : Program} {ops : Array Oper} {o : Oper} {a : Act} {y : World} {Kc : Act → World → Prop} {Q : Exit → Act → World → Prop} {E : Prop}
/-- append of one cell to a row of one's own, as_ one step of a region. -/
theorem own_app_step (hg : o.guard = none) (s x : Operand) (t e : TypeId) (hop : o.op = Op.call { callee := Callee.builtin Builtin.append, args := #[s, x], argTypes := #[t, t] })
    (i : TypeInfo) (z : Value) (bytes : Nat) (ht : P.underlying t = some (.slice e)) (hi : P.info? e = some i) (hz : i.zero = some z) (hsize : i.size = 1) (hby : i.bytes = bytes) (hzs : z.cells.size = 1)
    (base : Nat) (v : Value) (n : Nat) (xs : List Value) (hs : a.eval s = v) (b : Nat) (hx : a.eval x = .slice (some ⟨b, 0, none⟩) 1 1) (u : Value) (hu : y.cell? ⟨b, 0, none⟩ = some u) (h1 : u.oneCell' = true)
    (hown : y.ownsRow base e 1 v n xs) (h63 : n + 1 ≤ maxLen) (hbytes : (n + 1) * bytes ≤ 140737488355328) (hbase : base ≤ y.heap.size)
    (hK : ∀ v1 w1, w1.ownsRow base e 1 v1 (n + 1) (xs ++ [u]) → y.grownBy w1 v.ownBlock → (v1.ownBlock = v.ownBlock ∨ v1.ownBlock = some y.heap.size) → Kc (a.put o.dst v1) w1) :
    if Region.wanted o (yielded ops a.tmps) = true then Oper.wp P o a y Kc Q else E := by
  have hw : Region.wanted o (yielded ops a.tmps) = true := by simp [Region.wanted, hg]
  rw [if_pos hw]
  obtain ⟨v1, w1, hrun, hown1, hg1, -, hat⟩ := run_append_own_at (P := P) (w := y) base t o.type e i z 1 bytes ht hi hz hsize hby hzs (by decide) v n xs hown ⟨b, 0, none⟩ 1 1 [u] rfl (fun j u' hj => by
    cases j with
    | zero => injection hj with hj; subst hj; exact hu
    | succ j => simp at hj) (by simp [h1]) h63 hbytes hbase
  unfold Oper.wp
  simp [execOp, hop, resolve, invoke, builtin, hs, hx, hrun, Result.andThen]
  exact hK v1 w1 hown1 hg1 hat
end
theorem own_ne_blz {w : World} {base e sz n g : Nat} {v : Value} {xs : List Value} {cs : Array Value} {fz : Nat × Nat} (h : w.ownsRow base e sz v n xs) (hb : Blz w g cs fz) (hf : fz ≠ (0, 0)) : some g ≠ v.ownBlock := by
  intro he
  rcases h.2 with ⟨rfl, _⟩ | ⟨g', cap, cur, rfl, _, hh, _⟩
  · simp [Value.ownBlock] at he
  · have : g = g' := by simpa [Value.ownBlock] using he
    subst this
    unfold Blz at hb
    rw [hb] at hh
    injection hh with hh
    injection hh with _ _ hh
    exact hf hh
theorem S_ne_blz {w : World} {base g : Nat} {v : Value} {ts : List S46} {ok : Nat → Prop} {cs : Array Value} {fz : Nat × Nat} (h : Kd.S k46 46 w base ok v ts) (hb : Blz w g cs fz) (hf : fz ≠ (0, 0)) : some g ≠ v.ownBlock := by
  obtain ⟨inner, hi⟩ := Kd.S_own h
  exact own_ne_blz hi hb hf
theorem own_keepB {w z : World} {base e sz n : Nat} {v : Value} {xs : List Value} (h : w.ownsRow base e sz v n xs) (hb : Below w.heap.size w z) : z.ownsRow base e sz v n xs := by
  refine own_move h (fun k hk => hb.block k (own_lt h k hk))
/-- What stands while a text is read. -/
structure RdI (s : ByteArray) (cp : Nat) (w : World) (ts : List S46) (tx : List UInt8) (lv tv : Value) (y : World) : Prop where
  ei : EndI w.heap.size w.heap.size (fun _ => True) ts tx lv tv y
  by_ : Blz y (w.heap.size + 1 + 1) (bytesRow s cp) ((bytesRow s cp).size, (bytesRow s cp).size + 1)
  below : Below w.heap.size w y
theorem RdI.bt {s : ByteArray} {cp : Nat} {w y : World} {ts : List S46} {tx : List UInt8} {lv tv : Value} (h : RdI s cp w ts tx lv tv y) (hc : s.size ≤ cp) : Bt y (w.heap.size + 1 + 1) 0 s.size cp s.data.toList := bt_made (w := w) hc h.by_
theorem RdI.step {s : ByteArray} {cp : Nat} {w y z : World} {ts : List S46} {tx : List UInt8} {lv tv : Value} (h : RdI s cp w ts tx lv tv y) (hb : Below y.heap.size y z) : RdI s cp w ts tx lv tv z :=
  ⟨⟨h.ei.lc.below hb h.ei.lc.lt, h.ei.tc.below hb h.ei.tc.lt, Kd.S_below h.ei.lr hb, own_keepB h.ei.tr hb⟩, (hb.block _ h.by_.lt).trans h.by_, h.below.trans (hb.mono h.below.size)⟩
theorem Chg.below {h : Nat} {row : Option Nat} {w w' : World} (hc : Chg h row w w') (hr : ∀ k, row = some k → h ≤ k) (hs : h ≤ w.heap.size) : Below h w w' :=
  ⟨hc.os, hc.tape, hc.output, hc.size, fun k hk => hc.block k (by omega) (by omega) (by omega) (fun e => by have := hr k e.symm; omega)⟩
/-- Behind the end of a text. -/
theorem RdI.ended {s : ByteArray} {cp : Nat} {w y z : World} {ts : List S46} {tx : List UInt8} {lv tv lv' tv' : Value} (h : RdI s cp w ts tx lv tv y) (he : EndI w.heap.size w.heap.size (fun _ => True) (endT ts tx) [] lv' tv' z) (hc : Chg w.heap.size lv.ownBlock y z) : RdI s cp w (endT ts tx) [] lv' tv' z :=
  ⟨he, (hc.block _ h.by_.lt (by omega) (by omega) (S_ne_blz h.ei.lr h.by_ (by simp))).trans h.by_, h.below.trans (hc.below (fun k hk => Kd.S_base h.ei.lr k hk) h.below.size)⟩
theorem bel_trans {x y z : World} (h : Below x.heap.size x y) (hb : Below y.heap.size y z) : Below x.heap.size x z := h.trans (hb.mono h.size)
/-- What is taken, between two sizes. -/
theorem tk_M {z : World} {X Y h : Nat} {tok : S46} {cs : List Value} (hM : k46.M z Y (fun _ => True) tok cs) (h1 : h ≤ X) (h2 : X ≤ Y) : k46.M z h (fun k => X ≤ k ∧ k < z.heap.size) tok cs :=
  k46.M_lower (Nat.le_trans h1 h2) (k46.M_mono (fun k hk => ⟨Nat.le_trans h2 hk.2.1, hk.2.2.1⟩) (k46.M_bound hM))
theorem rdi_end {s : ByteArray} {cp : Nat} {w y z : World} {ts : List S46} {tx : List UInt8} {lv tv : Value} (h : RdI s cp w ts tx lv tv y) (hb : Below y.heap.size y z) (n : Nat) : EndI w.heap.size w.heap.size (fun k => ¬ (y.heap.size ≤ k ∧ k < n)) ts tx lv tv z :=
  ⟨(h.step hb).ei.lc, (h.step hb).ei.tc, Kd.S_mono (Kd.S_below (Kd.S_bound h.ei.lr) hb) (fun k hk => by have := hk.2.2.1; omega), (h.step hb).ei.tr⟩
/-- The token, behind the text's end, and all that is needed to put it behind the others. -/
structure AppI (w w5 : World) (X n : Nat) (ts : List S46) (tok : S46) (cs : List Value) (lv : Value) : Prop where
  hp : k46.M w5 w.heap.size (fun k => X ≤ k ∧ k < n) tok cs
  hokp : ∀ k, X ≤ k ∧ k < n → True ∧ some k ≠ lv.ownBlock
  ho : Kd.S k46 46 w5 w.heap.size (fun k => True ∧ ¬ (X ≤ k ∧ k < n)) lv ts
theorem app_i {s : ByteArray} {cp : Nat} {w y z Z w5 : World} {ts : List S46} {tx : List UInt8} {lv tv lv5 : Value} {tok : S46} {cs : List Value} (h : RdI s cp w ts tx lv tv y) (hM : k46.M z w.heap.size (fun k => y.heap.size ≤ k ∧ k < z.heap.size) tok cs) (hz : Below z.heap.size z Z)
    (he : EndI w.heap.size w.heap.size (fun k => ¬ (y.heap.size ≤ k ∧ k < z.heap.size)) (endT ts tx) [] lv5 (.slice none 0 0) w5) (hc : Chg w.heap.size lv.ownBlock Z w5) : AppI w w5 y.heap.size z.heap.size (endT ts tx) tok cs lv5 := by
  have hy1 : w.heap.size + 1 < y.heap.size := h.ei.tc.lt
  refine ⟨?_, fun k hk => ⟨trivial, fun e => ?_⟩, Kd.S_mono he.lr (fun k hk => ⟨trivial, hk⟩)⟩
  · refine k46.M_move (fun k hk => ?_) hM
    refine (hc.block k (Nat.lt_of_lt_of_le hk.2 hz.size) (by omega) (by omega) (fun e => ?_)).trans (hz.block k hk.2)
    have := Kd.S_lt h.ei.lr k e.symm
    omega
  · exact (Kd.S_R he.lr).1 k e.symm hk
theorem rdi_app {s : ByteArray} {cp : Nat} {w y Z w5 w6 : World} {ts : List S46} {tx : List UInt8} {lv tv lv5 v1 : Value} {ok : Nat → Prop} {tok : S46} (h : RdI s cp w ts tx lv tv y) (hz : Below y.heap.size y Z)
    (he : EndI w.heap.size w.heap.size ok (endT ts tx) [] lv5 (.slice none 0 0) w5) (hc : Chg w.heap.size lv.ownBlock Z w5) (hr : Kd.S k46 46 w6 w.heap.size (fun _ => True) v1 (endT ts tx ++ [tok])) (hb6 : Below w.heap.size w w6) (hg : w5.grownBy w6 lv5.ownBlock) :
    Blk w6 w.heap.size #[lv5] 23 ∧ RdI s cp w (endT ts tx ++ [tok]) [] v1 (.slice none 0 0) (w6.setCell ⟨w.heap.size, 0, none⟩ v1) := by
  have hz' := h.step hz
  have e5 : RdI s cp w (endT ts tx) [] lv5 (.slice none 0 0) w5 := hz'.ended ⟨he.lc, he.tc, Kd.S_mono he.lr (fun _ _ => trivial), he.tr⟩ hc
  have b1 : Blk w6 w.heap.size #[lv5] 23 := he.lc.of_block (hg.block _ he.lc.lt (Kd.S_ne he.lr he.lc (by decide)))
  have b2 : Blk w6 (w.heap.size + 1) #[.slice none 0 0] 72 := he.tc.of_block (hg.block _ he.tc.lt (Kd.S_ne he.lr he.tc (by decide)))
  have b3 : Blz w6 (w.heap.size + 1 + 1) (bytesRow s cp) ((bytesRow s cp).size, (bytesRow s cp).size + 1) := (hg.block _ e5.by_.lt (S_ne_blz he.lr e5.by_ (by simp))).trans e5.by_
  refine ⟨b1, ⟨b1.set 0 _, b2.setCell_other _ (by show w.heap.size + 1 ≠ w.heap.size; omega), Kd.S_set hr b1 (typ_token (by decide) (by decide)) 0 _, ?_⟩, (Below.heap_setCell _ _ _ _ (by show w.heap.size + 1 + 1 ≠ w.heap.size; omega)).trans b3, hb6.trans ⟨rfl, rfl, rfl, by simp [World.setCell], fun k hk => Below.heap_setCell _ _ _ _ (by show k ≠ w.heap.size; omega)⟩⟩
  exact World.ownsRow_nil _ _ _ _
theorem own_ne_blk {w : World} {base e sz n g : Nat} {v : Value} {xs : List Value} {cs : Array Value} {T : TypeId} (h : w.ownsRow base e sz v n xs) (hb : Blk w g cs T) (hT : T ≠ e) : some g ≠ v.ownBlock := by
  intro he
  obtain ⟨cells, hc⟩ := own_typed h g he.symm
  unfold Blk at hb
  rw [hb] at hc
  injection hc with hc
  injection hc with _ hc
  exact hT hc
theorem rdi_text {s : ByteArray} {cp : Nat} {w y y1 w4 : World} {ts : List S46} {tx : List UInt8} {lv tv v1 : Value} {d : UInt8} (h : RdI s cp w ts tx lv tv y) (hy : Below y.heap.size y y1) (ho : w4.ownsRow w.heap.size 5 1 v1 (tx.length + 1) (byc tx ++ [.int .u8 (d.toNat : Int)])) (hg : y1.grownBy w4 tv.ownBlock) :
    Blk w4 (w.heap.size + 1) #[tv] 72 ∧ RdI s cp w ts (tx ++ [d]) lv v1 (w4.setCell ⟨w.heap.size + 1, 0, none⟩ v1) := by
  have h1 := h.step hy
  have b1 : Blk w4 w.heap.size #[lv] 23 := h1.ei.lc.of_block (hg.block _ h1.ei.lc.lt (own_ne_blk h1.ei.tr h1.ei.lc (by decide)))
  have b2 : Blk w4 (w.heap.size + 1) #[tv] 72 := h1.ei.tc.of_block (hg.block _ h1.ei.tc.lt (own_ne_blk h1.ei.tr h1.ei.tc (by decide)))
  have b3 : Blz w4 (w.heap.size + 1 + 1) (bytesRow s cp) ((bytesRow s cp).size, (bytesRow s cp).size + 1) := (hg.block _ h1.by_.lt (own_ne_blz h1.ei.tr h1.by_ (by simp))).trans h1.by_
  have b4 : Below w.heap.size w w4 := h1.below.trans ⟨hg.os, hg.tape, hg.output, hg.size, fun k hk => hg.block k (Nat.lt_of_lt_of_le hk h1.below.size) (fun e => by have := own_base h1.ei.tr k e.symm; omega)⟩
  have b5 : Kd.S k46 46 w4 w.heap.size (fun _ => True) lv ts := Kd.S_over' h1.ei.lr (fun k hk => own_typed h1.ei.tr k hk) (typ_token (by decide) (by decide)) hg
  refine ⟨b2, ⟨b1.setCell_other _ (by show w.heap.size ≠ w.heap.size + 1; omega), b2.set 0 _, Kd.S_set b5 b2 (typ_token (by decide) (by decide)) 0 _, ?_⟩, (Below.heap_setCell _ _ _ _ (by show w.heap.size + 1 + 1 ≠ w.heap.size + 1; omega)).trans b3, b4.trans ⟨rfl, rfl, rfl, by simp [World.setCell], fun k hk => Below.heap_setCell _ _ _ _ (by show k ≠ w.heap.size + 1; omega)⟩⟩
  have e1 : (tx ++ [d]).length = tx.length + 1 := by simp
  have e2 : byc (tx ++ [d]) = byc tx ++ [.int .u8 (d.toNat : Int)] := by unfold byc; simp
  rw [e1, e2]
  exact own_move ho (fun k hk => Below.heap_setCell _ _ _ _ (fun e => own_ne_blk ho b2 (by decide) (by rw [hk, e])))
/-- A closing, as_ a token in cells. -/
theorem closing_take (g a n c : Nat) (l : List UInt8) (w : World) (hB : Bt w g a n c l) (hn : n ≤ 600000) :
    Calls Tryz.prog 85 #[.slice (some ⟨g, a, none⟩) n c] w fun e w' => (match clF l with
    | none => NonePost e
    | some (k, u) => TakeP g a n w ⟨2, st (lows ((l.drop 2).take k)), ⟨#[]⟩, []⟩ u e w') ∧ Below w.heap.size w w' := by
  refine (closing_calls g a n c l w hB hn).mono fun e w' h => ?_
  unfold ClPost at h
  refine ⟨?_, h.2⟩
  have h1 := h.1
  revert h1
  cases clF l with
  | none => exact fun h => h
  | some p =>
    obtain ⟨k, u⟩ := p
    intro h1
    obtain ⟨a', h2, h3⟩ := h1
    exact ⟨_, a', k46_mkM _ _ _ ⟨2, st (lows ((l.drop 2).take k)), ⟨#[]⟩, []⟩ (Kd.R_nil _ _ _ _ _), h2, h3⟩
/-- Nothing is taken, or a token is. -/
def TkPost (X g a n : Nat) (r : Option (S46 × Nat)) (e : Ending) (z : World) : Prop :=
  match r with
  | none => NonePost e
  | some (tok, u) => ∃ cs a', k46.M z X (fun _ => True) tok cs ∧ (u < n → a' = a + u) ∧ e = .returned (.tuple #[.agg cs.toArray, .slice (some ⟨g, a', none⟩) (n - u) (n - u), .bool true])
def clR (l : List UInt8) : Option (S46 × Nat) := (clF l).map fun (k, u) => (⟨2, st (lows ((l.drop 2).take k)), ⟨#[]⟩, []⟩, u)
def opR (l : List UInt8) : Option (S46 × Nat) := (opF l).map fun (k, as_, u) => (⟨1, st (lows ((l.drop 1).take k)), ⟨#[]⟩, as_⟩, u)
theorem tkF_eq (l : List UInt8) : tkF l = (clR l).or (opR l) := by
  unfold tkF clR opR
  cases clF l with
  | none => cases opF l <;> rfl
  | some p => rfl
theorem cl_tk (g a n c : Nat) (l : List UInt8) (w : World) (hB : Bt w g a n c l) (hn : n ≤ 600000) :
    Calls Tryz.prog 85 #[.slice (some ⟨g, a, none⟩) n c] w fun e w' => TkPost w.heap.size g a n (clR l) e w' ∧ Below w.heap.size w w' := by
  refine (closing_take g a n c l w hB hn).mono fun e w' h => ⟨?_, h.2⟩
  have h1 := h.1
  unfold clR
  revert h1
  cases clF l with
  | none => exact fun h => h
  | some p => exact fun h => h
theorem op_tk (g a n c : Nat) (l : List UInt8) (w : World) (hB : Bt w g a n c l) (hn : n ≤ 600000) (hn0 : 0 < n) :
    Calls Tryz.prog 86 #[.slice (some ⟨g, a, none⟩) n c] w fun e w' => TkPost w.heap.size g a n (opR l) e w' ∧ Below w.heap.size w w' := by
  refine (opening_calls g a n c l w hB hn hn0).mono fun e w' h => ?_
  unfold OpPost at h
  refine ⟨?_, h.2⟩
  have h1 := h.1
  unfold opR
  revert h1
  cases opF l with
  | none => exact fun h => h
  | some p => exact fun h => h
set_option maxRecDepth 100000 in
set_option maxHeartbeats 16000000 in
theorem read_long (s : ByteArray) (w : World) (hs : 4000 < s.size) (hs2 : s.size ≤ 140737488351232) :
    Calls Tryz.prog 13 #[.string s] w fun e w' => e = .returned (.tuple #[.slice none 0 0, .int .i64 3]) ∧ w = w' := by
  have v1 : (4000 : Int) < (s.size : Int) := by omega
  go_enter Tryz.func13, Tryz.ntmps13
  go_wp2_with fail
  go_step3
  go_wp2_with fail
  try rw [Exit.noGoto_ret]
  go_ret2
  exact ⟨rfl, rfl⟩
set_option maxRecDepth 100000 in
set_option maxHeartbeats 16000000 in
theorem read_calls (s : ByteArray) (w : World) (hs : s.size ≤ 4000) :
    Calls Tryz.prog 13 #[.string s] w fun e w' => ∃ v, e = .returned (.tuple #[v, .int .i64 0]) ∧ Kd.S k46 46 w' w.heap.size (fun _ => True) v (readF s.data.toList) ∧ Below w.heap.size w w' := by
  have hbs : ∀ W : World, (convert 9 72 (.string s)).run Tryz.prog W = _ := fun W => run_bytes_of_string (P := Tryz.prog) W 9 72 5 s Tryz.underlying9 Tryz.underlying72 Tryz.underlying5
  have hmf : ∀ (fn : Fn) (first cap : Array Value) (w : World), (Instr.makeFunc fn first cap).run Tryz.prog w = .ok (.func fn first cap) w := fun _ _ _ _ => rfl
  have v1 : decide ((4000 : Int) < (s.size : Int)) = false := by simp; omega
  have HS := Lib.hid hs
  clear hs
  go_enter Tryz.func13, Tryz.ntmps13
  go_wp2_with fail
  go_step3
  go_wp2_with fail
  go_step3
  go_wp2_with fail
  obtain ⟨cp, hcp⟩ : ∃ cp, cp = grownCap ((w.alloc (.cells #[.slice none 0 0] 23)).alloc (.cells #[.slice none 0 0] 72)) s.size 0 5 := ⟨_, rfl⟩
  rw [← hcp]
  have HGE := Lib.hid (show s.size ≤ cp by rw [hcp]; exact grownCap_ge _ _ _ _)
  clear hcp hbs
  have HI0 := Lib.hid (show RdI s cp w [] [] (.slice none 0 0) (.slice none 0 0) ((((w.alloc (.cells #[.slice none 0 0] 23)).alloc (.cells #[.slice none 0 0] 72)).alloc (.cells (bytesRow s cp) 5 ((bytesRow s cp).size, (bytesRow s cp).size + 1))).drew) from
    ⟨⟨((Blk.alloc w _ _).alloc_old _).alloc_old _, (Blk.alloc_at _ _ _ (by simp)).alloc_old _, Kd.S_nil _ _ _ _ _, World.ownsRow_nil _ _ _ _⟩, (by show Blz _ _ _ _; have h := heap_alloc_new ((w.alloc (.cells #[.slice none 0 0] 23)).alloc (.cells #[.slice none 0 0] 72)) (.cells (bytesRow s cp) 5 ((bytesRow s cp).size, (bytesRow s cp).size + 1)); have e : ((w.alloc (.cells #[.slice none 0 0] 23)).alloc (.cells #[.slice none 0 0] 72)).heap.size = w.heap.size + 1 + 1 := (by simp); rw [e] at h; exact h), below_drewN (below_alloc (below_alloc (below_alloc (Below.refl _ _) _) _) _) 1⟩)
  have HLL := Lib.hid (show s.data.toList.length = s.size by simp)
  obtain ⟨R, hR⟩ : ∃ R, rdL s.data.toList (s.data.toList.length + 1) 0 [] [] = R := ⟨_, rfl⟩
  have HRF := Lib.hid (show readF s.data.toList = R from hR)
  have HR0 := Lib.hid hR
  obtain ⟨i0, hi, hzz⟩ : ∃ i0, Tryz.prog.info? 5 = some i0 ∧ (i0.zero, i0.size, i0.bytes) = (some (.int .u8 0), 1, 1) := Option.map_eq_some_iff.1 (show (Tryz.prog.info? 5).map (fun i => (i.zero, i.size, i.bytes)) = some (some (.int .u8 0), 1, 1) by kernel_rfl)
  simp only [Prod.mk.injEq] at hzz
  obtain ⟨hz0, hz1, hz2⟩ := hzz
  have HIN := Lib.hid hi
  have HZ0 := Lib.hid hz0
  have HZS := Lib.hid hz1
  have HZB := Lib.hid hz2
  clear hi hz0 hz1 hz2 hR
  go_loopw [7] (fun bv wr => ∃ (f o a m c : Nat) (ts : List S46) (tx : List UInt8) (lv tv : Value), bv = .slice (some ⟨w.heap.size + 1 + 1, a, none⟩) m c ∧ m ≤ 4000 ∧ m ≤ c ∧ Hid (m = s.size - o ∧ o ≤ s.size) ∧ Hid (o < s.size → a = o) ∧ Hid (RdI s cp w ts tx lv tv wr) ∧ Hid (rdL s.data.toList f o ts tx = R) ∧ Hid (m < f) ∧ Hid (ts.length ≤ 2 * o) ∧ Hid (tx.length ≤ o)) (fun bv _ => slz bv)
  case atStart => exact ⟨s.data.toList.length + 1, 0, 0, s.size, cp, [], [], _, _, rfl, HS.out, HGE.out, Lib.hid (by omega), Lib.hid (fun _ => rfl), HI0, HR0, Lib.hid (by have := HLL.out; omega), Lib.hid (Nat.zero_le _), Lib.hid (Nat.zero_le _)⟩
  case round =>
    clear HI0
    obtain ⟨f, o, a, m, c, ts, tx, lv, tv, rfl, hm4, hmc, HM, HAO, HI, HL, HF, HLT, HLXO⟩ := hrel
    obtain ⟨f, rfl⟩ : ∃ f', f = f' + 1 := ⟨f - 1, by have := HF.out; omega⟩
    obtain ⟨A1, c1, hlv⟩ := Kd.S_slice HI.out.ei.lr
    obtain ⟨A2, c2, htv⟩ := own_sl HI.out.ei.tr
    subst hlv htv
    have HLT6 := Lib.hid (show ts.length ≤ 600000 from by have := HLT.out; have := HM.out; have := HS.out; omega)
    have HLX6 := Lib.hid (show tx.length ≤ 600000 from by have := HLXO.out; have := HM.out; have := HS.out; omega)
    have HLX := HLX6
    by_cases hz : m = 0
    · have HRR := Lib.hid (show endT ts tx = R from by
        have h := HL.out
        rw [rdL, List.getElem?_eq_none (by have := HLL.out; have := HM.out; omega)] at h
        exact h)
      have v3 : ¬ (0 : Int) < (m : Int) := by omega
      clear hz
      go_wp2_with (go_at_call 48; refine Calls.mono (end_calls w.heap.size w.heap.size (fun _ => True) ts tx (.slice A1 ts.length c1) (.slice A2 tx.length c2) _ HI.out.ei (fun _ _ => trivial) (Nat.le_refl _) HLT6.out HLX6.out) ?_; rintro e w5 ⟨rfl, lv5, hei, hch, hat⟩; have HE5 := Lib.hid hei; have HB5 := Lib.hid ((HI.out.ended hei hch).below); obtain ⟨A5, c5, hl5⟩ := Kd.S_slice hei.lr; subst hl5; have l5 : w5.cell? ⟨w.heap.size, 0, none⟩ = some (.slice A5 (endT ts tx).length c5) := hei.lc.cell 0; clear hei hch hat)
      try rw [Exit.noGoto_ret]
      go_ret2
      exact ⟨_, rfl, by rw [HRF.out, ← HRR.out]; exact HE5.out.lr, HB5.out⟩
    · have hm0 : 0 < m := by omega
      have v3 : (0 : Int) < (m : Int) := by omega
      have hol : o < s.data.toList.length := by have := HLL.out; have := HM.out; omega
      obtain ⟨d, hd⟩ : ∃ d, d = s.data.toList[o]'hol := ⟨_, rfl⟩
      have HD := Lib.hid hd
      have HGL := Lib.hid HI.out.by_.lt
      have HBT := Lib.hid (show ∀ y, Below wr.heap.size wr y → Bt y (w.heap.size + 1 + 1) a m c (s.data.toList.drop o) from fun y hy => by
        have h := ((HI.out.step hy).bt HGE.out).drop (k := o) (a' := a) (c' := c) HM.out.2 (fun h => by have := HM.out; rw [HAO.out (by omega), Nat.zero_add]) (by have := HM.out; omega)
        rw [← HM.out.1] at h
        exact h)
      have HDC := Lib.hid (show ∀ y, Below wr.heap.size wr y → y.cell? ⟨w.heap.size + 1 + 1, a, none⟩ = some (.int .u8 (d.toNat : Int)) from fun y hy => by
        have h : y.cell? ⟨w.heap.size + 1 + 1, a, none⟩ = some (.int .u8 (((s.data.toList.drop o)[0]'(by rw [List.length_drop]; omega)).toNat : Int)) := (HBT.out y hy).cell 0 (by rw [List.length_drop]; omega)
        rw [h, List.getElem_drop, hd]
        rfl)
      obtain ⟨a1, ha1⟩ : ∃ a1, a1 = bof a c 1 := ⟨_, rfl⟩
      have hsl : ∀ W : World, (Instr.slice 72 (.slice (some ⟨w.heap.size + 1 + 1, a, none⟩) m c) (some (.int .i64 1)) none none).run Tryz.prog W = .ok (.slice (some ⟨w.heap.size + 1 + 1, a1, none⟩) (m - 1) (c - 1)) W := fun W => by
        have h := slice_l W (w.heap.size + 1 + 1) a m c 1 (by omega) hmc
        rw [← ha1] at h
        exact h
      have HA1 := Lib.hid (show 1 < c → a1 = a + 1 from fun h => by rw [ha1]; exact bof_lt h)
      have HGO := Lib.hid (show s.data.toList[o]? = some d from by rw [hd]; exact List.getElem?_eq_getElem hol)
      clear ha1 hd hz
      have q0 := fun o1 o2 => HDC.out ((wr.alloc o1).alloc o2) (below_alloc (below_alloc (Below.refl _ _) _) _)
      by_cases h60 : d = 60
      · subst h60
        have HCA := Lib.hid (show ∀ y, Below wr.heap.size wr y → Calls Tryz.prog 85 #[.slice (some ⟨w.heap.size + 1 + 1, a, none⟩) m c] y fun e z => TkPost y.heap.size (w.heap.size + 1 + 1) a m (clR (s.data.toList.drop o)) e z ∧ Below y.heap.size y z from fun y hy => cl_tk _ a m c _ y (HBT.out y hy) (by omega))
        have HOA := Lib.hid (show ∀ y, Below wr.heap.size wr y → Calls Tryz.prog 86 #[.slice (some ⟨w.heap.size + 1 + 1, a, none⟩) m c] y fun e z => TkPost y.heap.size (w.heap.size + 1 + 1) a m (opR (s.data.toList.drop o)) e z ∧ Below y.heap.size y z from fun y hy => op_tk _ a m c _ y (HBT.out y hy) (by omega) hm0)
        have hL := HL.out
        rw [rdL, HGO.out] at hL
        dsimp only at hL
        rw [if_pos rfl, tkF_eq] at hL
        have HLA := Lib.hid hL
        clear hL HL
        cases hcl : clR (s.data.toList.drop o) with
        | some r =>
          obtain ⟨tok, u⟩ := r
          have HCL := Lib.hid (show ∀ y, Below wr.heap.size wr y → Calls Tryz.prog 85 #[.slice (some ⟨w.heap.size + 1 + 1, a, none⟩) m c] y fun e z => TkPost y.heap.size (w.heap.size + 1 + 1) a m (some (tok, u)) e z ∧ Below y.heap.size y z from fun y hy => by
            have h := HCA.out y hy
            rw [hcl] at h
            exact h)
          have HUM := Lib.hid (show u ≤ m ∧ 0 < u from by
            have h := tkF_le (l := s.data.toList.drop o) (t := tok) (u := u) (by rw [tkF_eq, hcl]; rfl)
            rw [List.length_drop] at h
            have := HLL.out; have := HM.out
            omega)
          have HLN := Lib.hid (show rdL s.data.toList f (o + u) (endT ts tx ++ [tok]) [] = R from by
            have h := HLA.out
            rw [hcl] at h
            exact h)
          obtain ⟨k0, n1, t2, as3⟩ := tok
          clear hcl HLA HCA HOA
          go_wp2_with (go_at_call 49; go_in)
          refine wp_loop_rounds 1 ?_
          rw [rounds_succ]
          go_wp2_with (first | (go_at_call 85; refine Calls.mono (HCL.out _ (by (repeat (first | exact HZ2.out | exact HZ1.out | exact Below.refl _ _ | apply below_alloc)))) ?_; rintro e z1 ⟨hp, hb⟩; obtain ⟨cs, a6, hM, ha6, rfl⟩ := hp; have HZ1 := Lib.hid (show Below wr.heap.size wr z1 from bel_trans (by (repeat (first | exact HZ2.out | exact HZ1.out | exact Below.refl _ _ | apply below_alloc))) hb); have HZW := Lib.hid HZ1.out.size; have HA6 := Lib.hid ha6; have HMT := Lib.hid (tk_M hM HI.out.below.size (Below.size (by (repeat (first | exact HZ2.out | exact HZ1.out | exact Below.refl _ _ | apply below_alloc))))); obtain ⟨v3, hcs, hrow⟩ := k46_openM hM; dsimp only at hcs hrow; obtain ⟨A3, c3, hv3⟩ := Kd.R_slice hrow; subst hv3 hcs; clear hM hb hrow ha6) | (go_at_call 48; refine Calls.mono (end_calls w.heap.size w.heap.size (fun k => ¬ (wr.heap.size ≤ k ∧ k < z1.heap.size)) ts tx (.slice A1 ts.length c1) (.slice A2 tx.length c2) _ (rdi_end HI.out (by (repeat (first | exact HZ2.out | exact HZ1.out | exact Below.refl _ _ | apply below_alloc))) _) (by intro k hk; simp at hk; omega) (Nat.le_refl _) HLT6.out HLX6.out) ?_; rintro e w5 ⟨rfl, lv5, hei, hch, hat⟩; have HE5 := Lib.hid hei; have HC5 := Lib.hid hch; have HA5 := Lib.hid (app_i HI.out HMT.out ((Below.refl _ _).alloc (Nat.le_refl _) _) hei hch); have HB5 := Lib.hid (((HI.out.step (by (repeat (first | exact HZ2.out | exact HZ1.out | exact Below.refl _ _ | apply below_alloc)))).ended ⟨hei.lc, hei.tc, Kd.S_mono hei.lr (fun _ _ => trivial), hei.tr⟩ hch).below); obtain ⟨A5, c5, hl5⟩ := Kd.S_slice hei.lr; subst hl5; have l5 : w5.cell? ⟨w.heap.size, 0, none⟩ = some (.slice A5 (endT ts tx).length c5) := hei.lc.cell 0; have hzt : Blk w5 z1.heap.size #[.int .i64 k0, .string n1, .string t2, .slice A3 as3.length c3] 46 := ((Blk.alloc z1 _ _).of_block (hch.block _ (by simp) (by have := HZW.out; have := HI.out.ei.tc.lt; omega) (by have := HZW.out; have := HI.out.ei.tc.lt; omega) (fun e => by have := Kd.S_lt HI.out.ei.lr _ e.symm; have := HZW.out; omega))); have t0 := hzt.cell 0; have t1 := hzt.cell 1; have t2_ := hzt.cell 2; have t3 := hzt.cell 3; simp only [List.getElem?_toArray, List.getElem?_cons_zero, List.getElem?_cons_succ] at t0 t1 t2_ t3; clear hei hch hat hzt) | (at_builtin; refine Kd.S_append k46 (w0 := w) w.heap.size rfl _ _ 23 46 (.agg #[.int .i64 0, .string ⟨#[]⟩, .string ⟨#[]⟩, .slice none 0 0]) 64 rfl Tryz.underlying23 info_token rfl (by decide) (by decide) (.slice A5 (endT ts tx).length c5) (endT ts tx) ⟨k0, n1, t2, as3⟩ [.int .i64 k0, .string n1, .string t2, .slice A3 as3.length c3] (fun _ => True) (fun k => wr.heap.size ≤ k ∧ k < z1.heap.size) rfl rfl HA5.out.hp HA5.out.hokp (fun _ _ => trivial) HA5.out.ho HB5.out HB5.out.size (by have := endT_len ts tx; have := HLT6.out; omega) ?_; intro v1 w6 hr hb6 hg6 hat6; have HAP := Lib.hid (rdi_app HI.out (by (repeat (first | exact HZ2.out | exact HZ1.out | exact Below.refl _ _ | apply below_alloc))) HE5.out HC5.out hr hb6 hg6); obtain ⟨A6, c6, hv6⟩ := Kd.S_slice hr; rw [List.length_append, List.length_singleton] at hv6; subst hv6; have l6 : w6.cell? ⟨w.heap.size, 0, none⟩ = some (.slice A5 (endT ts tx).length c5) := HAP.out.1.cell 0; have f6 : w6.frozen? ⟨w.heap.size, 0, none⟩ = false := HAP.out.1.free 0; clear hr hb6 hg6 hat6))
          go_roundw
          case rel => exact ⟨f, o + u, a6, m - u, m - u, endT ts tx ++ [⟨k0, n1, t2, as3⟩], [], _, _, rfl, by have := HUM.out; omega, Nat.le_refl _, Lib.hid (by have := HM.out; have := HUM.out; omega), Lib.hid (fun h => by have := HM.out; have := HUM.out; rw [HA6.out (by omega), HAO.out (by omega)]), Lib.hid HAP.out.2, HLN, Lib.hid (by have := HF.out; have := HUM.out; omega), Lib.hid (by rw [List.length_append, List.length_singleton]; have := endT_len ts tx; have := HLT.out; have := HUM.out; omega), Lib.hid (Nat.zero_le _)⟩
          case measure => show slz _ < slz _; have := HUM.out; simp only [slz]; omega
        | none =>
          have HCL := Lib.hid (show ∀ y, Below wr.heap.size wr y → Calls Tryz.prog 85 #[.slice (some ⟨w.heap.size + 1 + 1, a, none⟩) m c] y fun e z => TkPost y.heap.size (w.heap.size + 1 + 1) a m none e z ∧ Below y.heap.size y z from fun y hy => by
            have h := HCA.out y hy
            rw [hcl] at h
            exact h)
          cases hop : opR (s.data.toList.drop o) with
          | some r =>
            obtain ⟨tok, u⟩ := r
            have HOP := Lib.hid (show ∀ y, Below wr.heap.size wr y → Calls Tryz.prog 86 #[.slice (some ⟨w.heap.size + 1 + 1, a, none⟩) m c] y fun e z => TkPost y.heap.size (w.heap.size + 1 + 1) a m (some (tok, u)) e z ∧ Below y.heap.size y z from fun y hy => by
              have h := HOA.out y hy
              rw [hop] at h
              exact h)
            have HUM := Lib.hid (show u ≤ m ∧ 0 < u from by
              have h := tkF_le (l := s.data.toList.drop o) (t := tok) (u := u) (by rw [tkF_eq, hcl, hop]; rfl)
              rw [List.length_drop] at h
              have := HLL.out; have := HM.out
              omega)
            have HLN := Lib.hid (show rdL s.data.toList f (o + u) (endT ts tx ++ [tok]) [] = R from by
              have h := HLA.out
              rw [hcl, hop] at h
              exact h)
            obtain ⟨k0, n1, t2, as3⟩ := tok
            clear hcl hop HLA HCA HOA
            go_wp2_with (go_at_call 49; go_in)
            refine wp_loop_rounds 2 ?_
            rw [rounds_succ]
            go_wp2_with (go_at_call 85; refine Calls.mono (HCL.out _ (by (repeat (first | exact HZ2.out | exact HZ1.out | exact Below.refl _ _ | apply below_alloc)))) ?_; rintro e z1 ⟨hp, hb⟩; have hp' : e = .returned (.tuple #[.agg #[.int .i64 0, .string ⟨#[]⟩, .string ⟨#[]⟩, .slice none 0 0], .slice none 0 0, .bool false]) := hp; subst hp'; have HZ1 := Lib.hid (show Below wr.heap.size wr z1 from bel_trans (by (repeat (first | exact HZ2.out | exact HZ1.out | exact Below.refl _ _ | apply below_alloc))) hb); have HFB := Lib.hid (show Blk z1 wr.heap.size #[.func (.func 85) #[] #[], .func (.func 86) #[] #[]] 77 from ((Blk.alloc wr _ _).alloc_old _).below hb (by simp; omega)); have ff1 : ∀ o, (z1.alloc o).cell? ⟨wr.heap.size, 1, none⟩ = some (.func (.func 86) #[] #[]) := (fun o => (HFB.out.alloc_old o).cell 1); have q1 := fun o1 o2 => HDC.out ((z1.alloc o1).alloc o2) (below_alloc (below_alloc HZ1.out _) _); clear hb hp)
            rw [rounds_succ]
            go_wp2_with (first | (go_at_call 86; refine Calls.mono (HOP.out _ (by (repeat (first | exact HZ2.out | exact HZ1.out | exact Below.refl _ _ | apply below_alloc)))) ?_; rintro e z2 ⟨hp, hb⟩; obtain ⟨cs, a6, hM, ha6, rfl⟩ := hp; have HZ2 := Lib.hid (show Below wr.heap.size wr z2 from bel_trans (by (repeat (first | exact HZ2.out | exact HZ1.out | exact Below.refl _ _ | apply below_alloc))) hb); have HZW := Lib.hid HZ2.out.size; have HA6 := Lib.hid ha6; have HMT := Lib.hid (tk_M hM HI.out.below.size (Below.size (by (repeat (first | exact HZ2.out | exact HZ1.out | exact Below.refl _ _ | apply below_alloc))))); obtain ⟨v3, hcs, hrow⟩ := k46_openM hM; dsimp only at hcs hrow; obtain ⟨A3, c3, hv3⟩ := Kd.R_slice hrow; subst hv3 hcs; clear hM hb hrow ha6) | (go_at_call 48; refine Calls.mono (end_calls w.heap.size w.heap.size (fun k => ¬ (wr.heap.size ≤ k ∧ k < z2.heap.size)) ts tx (.slice A1 ts.length c1) (.slice A2 tx.length c2) _ (rdi_end HI.out (by (repeat (first | exact HZ2.out | exact HZ1.out | exact Below.refl _ _ | apply below_alloc))) _) (by intro k hk; simp at hk; omega) (Nat.le_refl _) HLT6.out HLX6.out) ?_; rintro e w5 ⟨rfl, lv5, hei, hch, hat⟩; have HE5 := Lib.hid hei; have HC5 := Lib.hid hch; have HA5 := Lib.hid (app_i HI.out HMT.out ((Below.refl _ _).alloc (Nat.le_refl _) _) hei hch); have HB5 := Lib.hid (((HI.out.step (by (repeat (first | exact HZ2.out | exact HZ1.out | exact Below.refl _ _ | apply below_alloc)))).ended ⟨hei.lc, hei.tc, Kd.S_mono hei.lr (fun _ _ => trivial), hei.tr⟩ hch).below); obtain ⟨A5, c5, hl5⟩ := Kd.S_slice hei.lr; subst hl5; have l5 : w5.cell? ⟨w.heap.size, 0, none⟩ = some (.slice A5 (endT ts tx).length c5) := hei.lc.cell 0; have hzt : Blk w5 z2.heap.size #[.int .i64 k0, .string n1, .string t2, .slice A3 as3.length c3] 46 := ((Blk.alloc z2 _ _).of_block (hch.block _ (by simp) (by have := HZW.out; have := HI.out.ei.tc.lt; omega) (by have := HZW.out; have := HI.out.ei.tc.lt; omega) (fun e => by have := Kd.S_lt HI.out.ei.lr _ e.symm; have := HZW.out; omega))); have t0 := hzt.cell 0; have t1 := hzt.cell 1; have t2_ := hzt.cell 2; have t3 := hzt.cell 3; simp only [List.getElem?_toArray, List.getElem?_cons_zero, List.getElem?_cons_succ] at t0 t1 t2_ t3; clear hei hch hat hzt) | (at_builtin; refine Kd.S_append k46 (w0 := w) w.heap.size rfl _ _ 23 46 (.agg #[.int .i64 0, .string ⟨#[]⟩, .string ⟨#[]⟩, .slice none 0 0]) 64 rfl Tryz.underlying23 info_token rfl (by decide) (by decide) (.slice A5 (endT ts tx).length c5) (endT ts tx) ⟨k0, n1, t2, as3⟩ [.int .i64 k0, .string n1, .string t2, .slice A3 as3.length c3] (fun _ => True) (fun k => wr.heap.size ≤ k ∧ k < z2.heap.size) rfl rfl HA5.out.hp HA5.out.hokp (fun _ _ => trivial) HA5.out.ho HB5.out HB5.out.size (by have := endT_len ts tx; have := HLT6.out; omega) ?_; intro v1 w6 hr hb6 hg6 hat6; have HAP := Lib.hid (rdi_app HI.out (by (repeat (first | exact HZ2.out | exact HZ1.out | exact Below.refl _ _ | apply below_alloc))) HE5.out HC5.out hr hb6 hg6); obtain ⟨A6, c6, hv6⟩ := Kd.S_slice hr; rw [List.length_append, List.length_singleton] at hv6; subst hv6; have l6 : w6.cell? ⟨w.heap.size, 0, none⟩ = some (.slice A5 (endT ts tx).length c5) := HAP.out.1.cell 0; have f6 : w6.frozen? ⟨w.heap.size, 0, none⟩ = false := HAP.out.1.free 0; clear hr hb6 hg6 hat6))
            go_roundw
            case rel => exact ⟨f, o + u, a6, m - u, m - u, endT ts tx ++ [⟨k0, n1, t2, as3⟩], [], _, _, rfl, by have := HUM.out; omega, Nat.le_refl _, Lib.hid (by have := HM.out; have := HUM.out; omega), Lib.hid (fun h => by have := HM.out; have := HUM.out; rw [HA6.out (by omega), HAO.out (by omega)]), Lib.hid HAP.out.2, HLN, Lib.hid (by have := HF.out; have := HUM.out; omega), Lib.hid (by rw [List.length_append, List.length_singleton]; have := endT_len ts tx; have := HLT.out; have := HUM.out; omega), Lib.hid (Nat.zero_le _)⟩
            case measure => show slz _ < slz _; have := HUM.out; simp only [slz]; omega
          | none =>
            have HOP := Lib.hid (show ∀ y, Below wr.heap.size wr y → Calls Tryz.prog 86 #[.slice (some ⟨w.heap.size + 1 + 1, a, none⟩) m c] y fun e z => TkPost y.heap.size (w.heap.size + 1 + 1) a m none e z ∧ Below y.heap.size y z from fun y hy => by
              have h := HOA.out y hy
              rw [hop] at h
              exact h)
            have HLN := Lib.hid (show rdL s.data.toList f (o + 1) ts (tx ++ [60]) = R from by
              have h := HLA.out
              rw [hcl, hop] at h
              exact h)
            obtain ⟨d, hd⟩ : ∃ d, d = (60 : UInt8) := ⟨_, rfl⟩
            have HD60 := Lib.hid hd
            rw [← hd] at HLN HD
            clear hcl hop HLA HCA HOA hd
            go_wp2_with (go_at_call 49; go_in)
            refine wp_loop_rounds 3 ?_
            rw [rounds_succ]
            go_wp2_with (go_at_call 85; refine Calls.mono (HCL.out _ (by (repeat (first | exact HZ2.out | exact HZ1.out | exact Below.refl _ _ | apply below_alloc)))) ?_; rintro e z1 ⟨hp, hb⟩; have hp' : e = .returned (.tuple #[.agg #[.int .i64 0, .string ⟨#[]⟩, .string ⟨#[]⟩, .slice none 0 0], .slice none 0 0, .bool false]) := hp; subst hp'; have HZ1 := Lib.hid (show Below wr.heap.size wr z1 from bel_trans (by (repeat (first | exact HZ2.out | exact HZ1.out | exact Below.refl _ _ | apply below_alloc))) hb); have HFB := Lib.hid (show Blk z1 wr.heap.size #[.func (.func 85) #[] #[], .func (.func 86) #[] #[]] 77 from ((Blk.alloc wr _ _).alloc_old _).below hb (by simp; omega)); have ff1 : ∀ o, (z1.alloc o).cell? ⟨wr.heap.size, 1, none⟩ = some (.func (.func 86) #[] #[]) := (fun o => (HFB.out.alloc_old o).cell 1); have q1 := fun o1 o2 => HDC.out ((z1.alloc o1).alloc o2) (below_alloc (below_alloc HZ1.out _) _); clear hb hp)
            rw [rounds_succ]
            go_wp2_with (go_at_call 86; refine Calls.mono (HOP.out _ (by (repeat (first | exact HZ2.out | exact HZ1.out | exact Below.refl _ _ | apply below_alloc)))) ?_; rintro e z2 ⟨hp, hb⟩; have hp' : e = .returned (.tuple #[.agg #[.int .i64 0, .string ⟨#[]⟩, .string ⟨#[]⟩, .slice none 0 0], .slice none 0 0, .bool false]) := hp; subst hp'; have HZ2 := Lib.hid (show Below wr.heap.size wr z2 from bel_trans (by (repeat (first | exact HZ2.out | exact HZ1.out | exact Below.refl _ _ | apply below_alloc))) hb); clear hb hp)
            rw [rounds_succ]
            go_upto_region 17 with (fail)
            have HI17 := Lib.hid (HI.out.step (z := (z2.alloc (.cells #[.int .i64 0, .string ⟨#[]⟩, .string ⟨#[]⟩, .slice none 0 0] 46))) (below_alloc HZ2.out _))
            obtain ⟨W17, hW17⟩ : ∃ W17, W17 = (z2.alloc (.cells #[.int .i64 0, .string ⟨#[]⟩, .string ⟨#[]⟩, .slice none 0 0] 46)) := ⟨_, rfl⟩
            rw [← hW17] at HI17 ⊢
            clear hW17
            have d0 : W17.cell? ⟨w.heap.size + 1, 0, none⟩ = some (.slice A2 tx.length c2) := HI17.out.ei.tc.cell 0
            have d0' : ∀ o, (W17.alloc o).cell? ⟨w.heap.size + 1, 0, none⟩ = some (.slice A2 tx.length c2) := fun o => (HI17.out.ei.tc.alloc_old o).cell 0
            have c0 : W17.cell? ⟨w.heap.size + 1 + 1, a, none⟩ = some (.int .u8 (d.toNat : Int)) := by rw [HAO.out (by have := HM.out; omega)]; have h := (HI17.out.bt HGE.out).cell o (by have := HLL.out; have := HM.out; omega); rw [Nat.zero_add] at h; rw [h, ← HD.out]
            have HOW := Lib.hid (show ((W17.alloc (.cells #[.int .u8 (d.toNat : Int)] 5)).drew).ownsRow w.heap.size 5 1 (.slice A2 tx.length c2) tx.length (byc tx) from World.ownsRow.drew (HI17.out.ei.tr.alloc _))
            have HUC := Lib.hid (show ((W17.alloc (.cells #[.int .u8 (d.toNat : Int)] 5)).drew).cell? ⟨W17.heap.size, 0, none⟩ = some (.int .u8 (d.toNat : Int)) from (Blk.alloc W17 #[.int .u8 (d.toNat : Int)] 5).cell 0)
            have HBS := Lib.hid (show w.heap.size ≤ ((W17.alloc (.cells #[.int .u8 (d.toNat : Int)] 5)).drew).heap.size from Nat.le_trans HI17.out.below.size (by show W17.heap.size ≤ (W17.heap.push _).size; simp))
            have HBY := Lib.hid (show Below W17.heap.size W17 ((W17.alloc (.cells #[.int .u8 (d.toNat : Int)] 5)).drew) from below_drewN ((Below.refl _ _).alloc (Nat.le_refl _) _) 1)
            go_region_law ((refine own_app_step (by rfl) _ _ 72 5 (by rfl) i0 (.int .u8 0) 1 Tryz.underlying72 HIN.out HZ0.out HZS.out HZB.out rfl w.heap.size (.slice A2 tx.length c2) tx.length (byc tx) (by rfl) W17.heap.size (by rfl) (.int .u8 (d.toNat : Int)) HUC.out rfl HOW.out (by have := HLX.out; unfold maxLen; omega) (by have := HLX.out; omega) HBS.out ?_; intro v1 w4 hown4 hg4 hat4; have HT4 := Lib.hid (rdi_text HI17.out HBY.out hown4 hg4); obtain ⟨A4, c4, hv4⟩ := own_sl hown4; subst hv4; have e4 : w4.cell? ⟨w.heap.size + 1, 0, none⟩ = some (.slice A2 tx.length c2) := HT4.out.1.cell 0; have f4 : w4.frozen? ⟨w.heap.size + 1, 0, none⟩ = false := HT4.out.1.free 0; clear hown4 hg4 hat4))
            all_goals
              show Exit.inBlock _ _ _ _ _
              go_roundw
              case rel => (repeat apply Exists.intro); exact ⟨⟨f, o + 1, a1, m - 1, c - 1, ts, tx ++ [d], _, _, rfl, by omega, by omega, Lib.hid (by have := HM.out; omega), Lib.hid (fun h => by have := HM.out; rw [HA1.out (by omega), HAO.out (by omega)]), Lib.hid HT4.out.2, HLN, Lib.hid (by have := HF.out; omega), Lib.hid (by have := HLT.out; omega), Lib.hid (by rw [List.length_append]; have := HLXO.out; simp; omega)⟩, rfl⟩
              case measure => show slz _ < slz _; (try simp only [slz]); show m - 1 < m; omega
      · have v61 : ((d.toNat : Int) != 60) = true := by
          have : d.toNat ≠ 60 := fun h => h60 (by apply UInt8.toNat_inj.1; exact h)
          simp; omega
        have HLN := Lib.hid (show rdL s.data.toList f (o + 1) ts (tx ++ [d]) = R from by
          have h := HL.out
          rw [rdL, HGO.out] at h
          dsimp only at h
          rw [if_neg h60] at h
          exact h)
        clear HL h60
        go_wp2_with (go_at_call 49; go_in)
        refine wp_loop_rounds 1 ?_
        rw [rounds_succ]
        go_upto_region 17 with (fail)
        have HI17 := Lib.hid (HI.out.step (z := ((wr.alloc (.cells #[.func (.func 85) #[] #[], .func (.func 86) #[] #[]] 77)).alloc (.cells #[.func (.func 85) #[] #[]] 77))) (below_alloc (below_alloc (Below.refl _ _) _) _))
        obtain ⟨W17, hW17⟩ : ∃ W17, W17 = ((wr.alloc (.cells #[.func (.func 85) #[] #[], .func (.func 86) #[] #[]] 77)).alloc (.cells #[.func (.func 85) #[] #[]] 77)) := ⟨_, rfl⟩
        rw [← hW17] at HI17 ⊢
        clear hW17
        have d0 : W17.cell? ⟨w.heap.size + 1, 0, none⟩ = some (.slice A2 tx.length c2) := HI17.out.ei.tc.cell 0
        have d0' : ∀ o, (W17.alloc o).cell? ⟨w.heap.size + 1, 0, none⟩ = some (.slice A2 tx.length c2) := fun o => (HI17.out.ei.tc.alloc_old o).cell 0
        have c0 : W17.cell? ⟨w.heap.size + 1 + 1, a, none⟩ = some (.int .u8 (d.toNat : Int)) := by rw [HAO.out (by have := HM.out; omega)]; have h := (HI17.out.bt HGE.out).cell o (by have := HLL.out; have := HM.out; omega); rw [Nat.zero_add] at h; rw [h, ← HD.out]
        have HOW := Lib.hid (show ((W17.alloc (.cells #[.int .u8 (d.toNat : Int)] 5)).drew).ownsRow w.heap.size 5 1 (.slice A2 tx.length c2) tx.length (byc tx) from World.ownsRow.drew (HI17.out.ei.tr.alloc _))
        have HUC := Lib.hid (show ((W17.alloc (.cells #[.int .u8 (d.toNat : Int)] 5)).drew).cell? ⟨W17.heap.size, 0, none⟩ = some (.int .u8 (d.toNat : Int)) from (Blk.alloc W17 #[.int .u8 (d.toNat : Int)] 5).cell 0)
        have HBS := Lib.hid (show w.heap.size ≤ ((W17.alloc (.cells #[.int .u8 (d.toNat : Int)] 5)).drew).heap.size from Nat.le_trans HI17.out.below.size (by show W17.heap.size ≤ (W17.heap.push _).size; simp))
        have HBY := Lib.hid (show Below W17.heap.size W17 ((W17.alloc (.cells #[.int .u8 (d.toNat : Int)] 5)).drew) from below_drewN ((Below.refl _ _).alloc (Nat.le_refl _) _) 1)
        go_region_law ((refine own_app_step (by rfl) _ _ 72 5 (by rfl) i0 (.int .u8 0) 1 Tryz.underlying72 HIN.out HZ0.out HZS.out HZB.out rfl w.heap.size (.slice A2 tx.length c2) tx.length (byc tx) (by rfl) W17.heap.size (by rfl) (.int .u8 (d.toNat : Int)) HUC.out rfl HOW.out (by have := HLX.out; unfold maxLen; omega) (by have := HLX.out; omega) HBS.out ?_; intro v1 w4 hown4 hg4 hat4; have HT4 := Lib.hid (rdi_text HI17.out HBY.out hown4 hg4); obtain ⟨A4, c4, hv4⟩ := own_sl hown4; subst hv4; have e4 : w4.cell? ⟨w.heap.size + 1, 0, none⟩ = some (.slice A2 tx.length c2) := HT4.out.1.cell 0; have f4 : w4.frozen? ⟨w.heap.size + 1, 0, none⟩ = false := HT4.out.1.free 0; clear hown4 hg4 hat4))
        all_goals
          show Exit.inBlock _ _ _ _ _
          go_roundw
          case rel => (repeat apply Exists.intro); exact ⟨⟨f, o + 1, a1, m - 1, c - 1, ts, tx ++ [d], _, _, rfl, by omega, by omega, Lib.hid (by have := HM.out; omega), Lib.hid (fun h => by have := HM.out; rw [HA1.out (by omega), HAO.out (by omega)]), Lib.hid HT4.out.2, HLN, Lib.hid (by have := HF.out; omega), Lib.hid (by have := HLT.out; omega), Lib.hid (by rw [List.length_append]; have := HLXO.out; simp; omega)⟩, rfl⟩
          case measure => show slz _ < slz _; (try simp only [slz]); show m - 1 < m; omega
end Go.Proofs.YtkjgnkmnngaioaaGreat.Q
