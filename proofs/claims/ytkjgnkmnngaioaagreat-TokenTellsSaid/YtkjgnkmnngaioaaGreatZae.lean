/- What the proof of tokenTells_holds needs, of the texts that this work has written and of the words that the kit's print lends. -/
import Derived.Test.YtkjgnkmnngaioaaGreatZad
import Derived.Test.YtkjgnkmnngaioaaGreatZaa
import Derived.Test.YtkjgnkmnngaioaaGreatZab
import Derived.Test.YtkjgnkmnngaioaaGreatZac
import Derived.Laws.EntriesVeiled
import Derived.StillTailTactics
import Derived.Lib.SliceRun
import Derived.IntWalk
import Derived.Deep.MidRow
import Derived.WalkSpells
import Derived.Laws.MakeOwn
import Derived.Laws.IdiomStrings
import Derived.Laws.AppendOwn
import Derived.Laws.CopyRow
import Derived.Laws.Tables
import Derived.Deep.RegionLaw
namespace Go.Proofs.YtkjgnkmnngaioaaGreat.Q
open Go.RowKit Go.Proofs.YtkjgnkmnngaioaaGreat.Mem Go.Proofs.YtkjgnkmnngaioaaGreatW.PrintWords Go.Proofs.YtkjgnkmnngaioaaGreatW.PrintLast Go.Proofs.YtkjgnkmnngaioaaGreatW.PrintMore
set_option linter.unusedVariables false
set_option linter.unusedSimpArgs false
/-- Are two texts the same? -/
def eqS (a b : ByteArray) : Bool := decide (a.toList = b.toList)
theorem ret_bool' {a b : Bool} (h : a = b) : Ending.returned (.bool a) = .returned (.bool b) := by rw [h]
theorem asks_calls (s x : ByteArray) (b : Nat) (src : ByteArray) (w : World) (hc : w.cell? ⟨b, 0, none⟩ = some (.string src)) (hb : b < w.heap.size) :
    Calls Tryz.prog 109 #[.agg #[.string s, .string x], .pointer (some ⟨b, 0, none⟩)] w fun e w' => e = .returned (.bool (eqS s src)) ∧ Below w.heap.size w w' := by
  have hn : b ≠ w.heap.size := by omega
  go_enter Tryz.func109, Tryz.ntmps109
  go_wp2
  go_ret
  exact ⟨ret_bool' (by unfold eqS; rw [Bool.eq_iff_iff]; simp), (Below.refl _ _).alloc (Nat.le_refl _) _⟩
/-- The first place whose attribute has that name, from a place on; -1: there is none. -/
def kidxFrom (src : ByteArray) : List S70 → Nat → Int
  | [], _ => -1
  | x :: l, k => if eqS x.f0 src = true then (k : Int) else kidxFrom src l (k + 1)
theorem kidxFrom_drop (src : ByteArray) (l : List S70) (k : Nat) (h : k < l.length) : kidxFrom src (l.drop k) k = if eqS l[k].f0 src = true then (k : Int) else kidxFrom src (l.drop (k + 1)) (k + 1) := by
  rw [List.drop_eq_getElem_cons h]; rfl
theorem kidxFrom_any (src : ByteArray) : ∀ (l : List S70) (k : Nat), decide (kidxFrom src l k ≥ 0) = l.any (fun x => eqS x.f0 src)
  | [], _ => rfl
  | x :: l, k => by
    unfold kidxFrom
    by_cases h : eqS x.f0 src = true
    · rw [if_pos h]; simp [h]
    · rw [if_neg h, kidxFrom_any src l (k + 1)]; simp [h]
set_option maxHeartbeats 1000000 in
theorem kindex_calls (A0 : Option Addr) (c0 : Nat) (l : List S70) (b : Nat) (src : ByteArray) (w : World) (hr0 : Kd.C k70 w A0 l.length l) (hl : l.length ≤ 9223372036854775806)
    (hc : w.cell? ⟨b, 0, none⟩ = some (.string src)) (hb : b < w.heap.size) :
    Calls Tryz.prog 80 #[.slice A0 l.length c0, .func (.func 109) #[] #[.pointer (some ⟨b, 0, none⟩)]] w fun e w' => e = .returned (.int .i64 (kidxFrom src l 0)) ∧ Below w.heap.size w w' := by
  have HR := Lib.hid hr0
  have HC := Lib.hid hc
  clear hr0 hc
  go_enter Tryz.func80, Tryz.ntmps80
  go_wp2_with fail
  go_loopw [8] (fun i wr => ∃ k : Nat, k ≤ l.length ∧ i = .int .i64 k ∧ Hid (kidxFrom src l 0 = kidxFrom src (l.drop k) k) ∧ Hid (Below w.heap.size w wr)) (fun i wr => l.length - (intOf i).toNat)
  case atStart => exact ⟨0, Nat.zero_le _, rfl, Lib.hid rfl, Lib.hid (Below.refl _ _)⟩
  case round =>
    obtain ⟨k, hk, rfl, HI, HB⟩ := hrel
    by_cases hlt : k < l.length
    · obtain ⟨ad, rfl, h0, h1⟩ := at_T70 (Kd.C_below HR.out HB.out) (k : Int) (by omega) (by omega)
      have hrd : Hid (rd_T70 l (k : Int) = l[k]) := Lib.hid (by simp [rd_T70, hlt])
      have HS := Lib.hid (kidxFrom_drop src l k hlt)
      simp only [Int.toNat_natCast] at h0 h1
      generalize hx : rd_T70 l (k : Int) = x at *
      have HX := Lib.hid hx
      clear hx
      have q0 : (wr.cell? ⟨b, 0, none⟩ = some (.string src)) := by rw [HB.out.cell (p := ⟨b, 0, none⟩) hb]; exact HC.out
      have q1 : b < wr.heap.size := Nat.lt_of_lt_of_le hb HB.out.size
      have Q0 := Lib.hid q0
      clear q0
      rcases (show eqS x.f0 src = false ∨ eqS x.f0 src = true by cases eqS x.f0 src <;> simp) with he | he
      · have HE := Lib.hid he
        clear he
        go_wp2_with fail
        refine (asks_calls x.f0 x.f1 b src _ Q0.out q1).mono ?_
        rintro e w' ⟨rfl, hb'⟩
        rw [HE.out]
        have HB' := Lib.hid (HB.out.trans (hb'.mono HB.out.size))
        clear hb'
        go_wp2_with fail
        go_roundw
        case rel => exact ⟨k + 1, by omega, by go_num, Lib.hid (by rw [HI.out, HS.out, ← hrd.out, if_neg (by rw [HE.out]; decide)]), HB'⟩
        case measure => simp [intOf]; omega
      · have HE := Lib.hid he
        clear he
        go_wp2_with fail
        refine (asks_calls x.f0 x.f1 b src _ Q0.out q1).mono ?_
        rintro e w' ⟨rfl, hb'⟩
        rw [HE.out]
        have HB' := Lib.hid (HB.out.trans (hb'.mono HB.out.size))
        clear hb'
        go_wp2_with fail
        go_ret
        exact ⟨by rw [HI.out, HS.out, ← hrd.out, if_pos HE.out]; rfl, HB'.out⟩
    · have hd : l.drop k = [] := by rw [List.drop_eq_nil_iff]; omega
      have HD := Lib.hid hd
      clear hd
      go_wp2_with fail
      go_ret
      exact ⟨by rw [HI.out, HD.out]; rfl, HB.out⟩
theorem hasKey_calls (A0 : Option Addr) (c0 : Nat) (l : List S70) (b : Nat) (src : ByteArray) (w : World) (hr0 : Kd.C k70 w A0 l.length l) (hl : l.length ≤ 9223372036854775806)
    (hc : w.cell? ⟨b, 0, none⟩ = some (.string src)) (hb : b < w.heap.size) :
    Calls Tryz.prog 108 #[.slice A0 l.length c0, .func (.func 109) #[] #[.pointer (some ⟨b, 0, none⟩)]] w fun e w' => e = .returned (.bool (l.any fun x => eqS x.f0 src)) ∧ Below w.heap.size w w' := by
  have HR := Lib.hid hr0
  have HC := Lib.hid hc
  clear hr0 hc
  go_enter Tryz.func108, Tryz.ntmps108
  go_wp2_with fail
  refine (kindex_calls A0 c0 l b src _ HR.out hl HC.out hb).mono ?_
  rintro e w' ⟨rfl, hb'⟩
  have HB' := Lib.hid hb'
  clear hb'
  go_wp2_with fail
  go_ret
  exact ⟨by rw [← kidxFrom_any src l 0]; rfl, HB'.out⟩
end Go.Proofs.YtkjgnkmnngaioaaGreat.Q
namespace Go.Proofs.YtkjgnkmnngaioaaGreat.Q
open Go.RowKit Go.IntWalk Go.Proofs.YtkjgnkmnngaioaaGreat.Mem Go.Proofs.YtkjgnkmnngaioaaGreatW.PrintWords Go.Proofs.YtkjgnkmnngaioaaGreatW.PrintLast Go.Proofs.YtkjgnkmnngaioaaGreatW.PrintMore
set_option linter.unusedVariables false
set_option linter.unusedSimpArgs false
/-- An attribute is put behind the others, if none has its name. -/
def addA (l : List S70) (key : ByteArray) (v : ByteArray) : List S70 := if (l.any fun x => eqS x.f0 key) = true then l else l ++ [⟨key, v⟩]
/-- The attributes from a place on, and how many bytes are taken. -/
def opL (l : List UInt8) : Nat → Nat → List S70 → Option (List S70 × Nat)
  | 0, _, _ => none
  | f + 1, o, at_ =>
    if (l.drop (o + spLen (l.drop o))).head? = some 62 then some (at_, o + spLen (l.drop o) + 1) else
    match nmF (l.drop (o + spLen (l.drop o))) with
    | none => none
    | some k => if spLen (l.drop o) = 0 then none else
      match qF (l.drop (o + spLen (l.drop o) + k)) with
      | some v => opL l f (o + spLen (l.drop o) + k + (v.length + 3)) (addA at_ (st (lows ((l.drop (o + spLen (l.drop o))).take k))) (st (tellF (st v) 0)))
      | none => if (l.drop (o + spLen (l.drop o) + k)).head? = some 61 then none else opL l f (o + spLen (l.drop o) + k) (addA at_ (st (lows ((l.drop (o + spLen (l.drop o))).take k))) (st []))
/-- An opening: how long its name is, its attributes, and how many bytes it takes. -/
def opF (l : List UInt8) : Option (Nat × List S70 × Nat) :=
  match nmF (l.drop 1) with
  | none => none
  | some k => (opL l (l.length + 1) (1 + k) []).map fun (as_, u) => (k, as_, u)
/-- How long a slice is. -/
def slz : Value → Nat
  | .slice _ m _ => m
  | _ => 0
/-- A token that is told in cells of the call's own. -/
def TakeP (g a n : Nat) (w : World) (tok : S46) (u : Nat) (e : Ending) (w' : World) : Prop :=
  ∃ cs a', k46.M w' w.heap.size (fun _ => True) tok cs ∧ (u < n → a' = a + u) ∧ e = .returned (.tuple #[.agg cs.toArray, .slice (some ⟨g, a', none⟩) (n - u) (n - u), .bool true])
def OpPost (g a n : Nat) (l : List UInt8) (w : World) (e : Ending) (w' : World) : Prop :=
  (match opF l with
    | none => NonePost e
    | some (k, as_, u) => TakeP g a n w ⟨1, st (lows ((l.drop 1).take k)), ⟨#[]⟩, as_⟩ u e w') ∧ Below w.heap.size w w'
/-- What stands while an opening is taken. -/
structure OpI (w : World) (ht : Nat) (nm : ByteArray) (av : Value) (as_ : List S70) (y : World) : Prop where
  below : Below w.heap.size w y
  res : Blk y w.heap.size (TK 0 emv emv nil8) 46
  tok : Blk y ht (TK 1 (.string nm) emv av) 46
  row : k70.R 70 y w.heap.size (fun _ => True) av as_
  lt : w.heap.size < ht
theorem OpI.step {w y z : World} {ht : Nat} {nm : ByteArray} {av : Value} {as_ : List S70} (h : OpI w ht nm av as_ y) (hb : Below y.heap.size y z) : OpI w ht nm av as_ z :=
  ⟨h.below.trans (hb.mono h.below.size), h.res.below hb h.res.lt, h.tok.below hb h.tok.lt, Kd.R_below h.row hb, h.lt⟩
/-- Ahead of the store, and behind it. -/
def OpC (w : World) (nm : ByteArray) (av : Value) (as_ : List S70) (w1 : World) : Nat → World → Prop
  | 0, y => y = w1
  | _, y => Blk y w.heap.size (TK 1 (.string nm) emv av) 46 ∧ k70.R 70 y w.heap.size (fun _ => True) av as_ ∧ Below w.heap.size w y
theorem info_attr : (Tryz.prog.info? 70).map (fun i => (i.zero, i.size, i.bytes)) = some (some (.agg #[.string ⟨#[]⟩, .string ⟨#[]⟩]), 2, 32) := by kernel_rfl
theorem typ_attr : ∀ q, q ∈ 70 :: k70.E → q ≠ 46 := by
  intro q hq
  have h : q = 70 := by
    simp [k70, Kd.iso, Kd.pair, Kd.string, Kd.scalar] at hq
    exact hq
  rw [h]; decide
theorem opI_app {w y z : World} {ht : Nat} {nm : ByteArray} {av v1 : Value} {as_ : List S70} {p : S70} (h : OpI w ht nm av as_ y) (hr : k70.R 70 z w.heap.size (fun _ => True) v1 (as_ ++ [p])) (hb : Below w.heap.size w z) (hg : y.grownBy z av.ownBlock) :
    Blk z ht (TK 1 (.string nm) emv av) 46 ∧ OpI w ht nm v1 (as_ ++ [p]) (z.setCell ⟨ht, 3, none⟩ v1) := by
  have h1 : Blk z ht (TK 1 (.string nm) emv av) 46 := h.tok.of_block (hg.block ht h.tok.lt (Kd.R_ne h.row h.tok (by decide)))
  have h2 : Blk z w.heap.size (TK 0 emv emv nil8) 46 := h.res.of_block (hg.block _ h.res.lt (Kd.R_ne h.row h.res (by decide)))
  have hlt := h.lt
  refine ⟨h1, hb.trans ⟨rfl, rfl, rfl, by simp [World.setCell], fun k hk => Below.heap_setCell _ _ _ _ (by show k ≠ ht; omega)⟩, h2.setCell_other _ (by show w.heap.size ≠ ht; omega), h1.set 3 v1, Kd.R_set hr h1 typ_attr 3 v1, h.lt⟩
set_option maxRecDepth 100000 in
set_option maxHeartbeats 16000000 in
theorem opening_calls (g a n c : Nat) (l : List UInt8) (w : World) (hB : Bt w g a n c l) (hn : n ≤ 600000) (hn0 : 0 < n) :
    Calls Tryz.prog 86 #[.slice (some ⟨g, a, none⟩) n c] w (OpPost g a n l w) := by
  have HB := Lib.hid hB
  have HLN := Lib.hid hB.len
  have HCP := Lib.hid hB.cap
  clear hB
  have hc1 : 1 ≤ c := by have := HCP.out; omega
  obtain ⟨a1, ha1⟩ : ∃ a1, a1 = bof a c 1 := ⟨_, rfl⟩
  have hsl : ∀ W : World, (Instr.slice 72 (.slice (some ⟨g, a, none⟩) n c) (some (.int .i64 1)) none none).run Tryz.prog W = .ok (.slice (some ⟨g, a1, none⟩) (n - 1) (c - 1)) W := fun W => by
    have h := slice_l W g a n c 1 (by omega) HCP.out
    rw [← ha1] at h
    exact h
  have HA1 := Lib.hid (show 1 < c → a1 = a + 1 from fun h => by rw [ha1]; exact bof_lt h)
  obtain ⟨W, hW⟩ : ∃ W, W = w.alloc (.cells (TK 0 emv emv nil8) 46) := ⟨_, rfl⟩
  have HBW := Lib.hid (show Below w.heap.size w W from by rw [hW]; exact (Below.refl _ _).alloc (Nat.le_refl _) _)
  have HB1 := Lib.hid (show Bt W g a1 (n - 1) (c - 1) (l.drop 1) from (HB.out.below HBW.out).drop (by omega) (fun h => HA1.out (by have := HCP.out; omega)) (by have := HCP.out; omega))
  have HBK := Lib.hid (show Blk W w.heap.size (TK 0 emv emv nil8) 46 from by rw [hW]; exact Blk.alloc _ _ _)
  have HNM := Lib.hid (name_calls g a1 (n - 1) (c - 1) (l.drop 1) W HB1.out (by omega))
  rw [hW] at HNM
  unfold NmPost at HNM
  clear ha1
  have hmf : ∀ (fn : Fn) (first cap : Array Value) (w : World), (Instr.makeFunc fn first cap).run Tryz.prog w = .ok (.func fn first cap) w := fun _ _ _ _ => rfl
  cases hnm : nmF (l.drop 1) with
  | none =>
    have HN := Lib.hid (show opF l = none from by unfold opF; rw [hnm])
    rw [hnm] at HNM
    dsimp only at HNM
    clear hnm
    go_enter Tryz.func86, Tryz.ntmps86
    go_wp2_with (first | (go_at_call 53; refine HNM.out.mono ?_; rintro e w1 ⟨rfl, hb⟩; have HB2 := Lib.hid (show Below w.heap.size w w1 from by have h1 := HBW.out; rw [hW] at h1; exact h1.trans (hb.mono h1.size)); have HK := Lib.hid (show Blk w1 w.heap.size (TK 0 emv emv nil8) 46 from HBK.out.below (by rw [hW]; exact hb) HBK.out.lt); clear hb) | ((with_reducible refine Mix.at_st (t := 46) ?_); refine Mix.wpList_store_blk (o := ⟨none, .store 46 _ _, _, _, _, _⟩) rfl 46 _ _ rfl w.heap.size (TK 0 emv emv nil8) rfl rfl 46 (TK 0 emv emv nil8) HK.out (info_tok _ _ _ _) rfl (tk_all _ _ _ _ _ _) ?_; intro W3 hb3 hbu hsz3; have e1 : W3.cell? ⟨w.heap.size, 0, none⟩ = some (.int .i64 0) := hb3.cell 0; have e2 : W3.cell? ⟨w.heap.size, 1, none⟩ = some emv := hb3.cell 1; have e3 : W3.cell? ⟨w.heap.size, 2, none⟩ = some emv := hb3.cell 2; have e4 : W3.cell? ⟨w.heap.size, 3, none⟩ = some nil8 := hb3.cell 3; have HB3 := Lib.hid hb3; have HBU := Lib.hid hbu; have HSZ := Lib.hid hsz3; clear hb3 hbu hsz3))
    refine bodyPost_ret (v := .tuple #[.agg (TK 0 emv emv nil8), nil8, .bool false]) (by simp [results, Tryz.results86, go_sem, e1, e2, e3, e4]; first | done | exact ⟨rfl, rfl⟩) rfl ⟨by rw [HN.out]; exact rfl, HB2.out.trans (HBU.out.below (Nat.le_refl _) HB2.out.size)⟩
  | some kn =>
    rw [hnm] at HNM
    dsimp only at HNM
    have hk := nmF_some hnm
    have hkl : kn ≤ n - 1 := by have := hk.2.2.2.1; rw [List.length_drop, HLN.out] at this; exact this
    have hk1 : 0 < kn := hk.2.1
    obtain ⟨R, hR⟩ : ∃ R, opL l (l.length + 1) (1 + kn) [] = R := ⟨_, rfl⟩
    have HOP := Lib.hid (show opF l = R.map fun (as_, u) => (kn, as_, u) from by unfold opF; rw [hnm, ← hR])
    have HR0 := Lib.hid hR
    obtain ⟨a2, ha2⟩ : ∃ a2, a2 = bof a1 (n - 1) kn := ⟨_, rfl⟩
    rw [← ha2] at HNM
    have HA2 := Lib.hid (show 1 + kn < n → a2 = a + (1 + kn) from fun h => by rw [ha2, bof_lt (by omega), HA1.out (by have := HCP.out; omega)]; omega)
    obtain ⟨nm, hnmv⟩ : ∃ nm, nm = st (lows ((l.drop 1).take kn)) := ⟨_, rfl⟩
    rw [← hnmv] at HNM
    have HNV := Lib.hid hnmv
    clear hnm hk ha2 hR hnmv
    have hn1 : n - 1 - kn = n - (1 + kn) := by omega
    rw [hn1] at HNM
    clear hn1
    go_enter Tryz.func86, Tryz.ntmps86
    go_wp2_with (go_at_call 53; refine HNM.out.mono ?_; rintro e w1 ⟨rfl, hb⟩; have HB2 := Lib.hid (show Below w.heap.size w w1 from by have h1 := HBW.out; rw [hW] at h1; exact h1.trans (hb.mono h1.size)); have HK := Lib.hid (show Blk w1 w.heap.size (TK 0 emv emv nil8) 46 from HBK.out.below (by rw [hW]; exact hb) HBK.out.lt); clear hb)
    obtain ⟨ht, hht⟩ : ∃ ht, ht = w1.heap.size := ⟨_, rfl⟩
    have HI0 := Lib.hid (show OpI w ht nm nil8 [] (w1.alloc (.cells (TK 1 (.string nm) emv nil8) 46)) from
      ⟨HB2.out.alloc HB2.out.size _, HK.out.alloc_old _, Blk.alloc_at _ _ _ hht, Kd.R_nil _ _ _ _ _, by rw [hht]; exact HK.out.lt⟩)
    have HHT := Lib.hid hht
    rw [← hht]
    clear hht
    clear hW HBW HB1 HBK HNM HK HB2 hsl HA1 hc1
    go_loopw [6] (fun rv wr => ∃ (f o ar m : Nat) (av : Value) (as_ : List S70), rv = .slice (some ⟨g, ar, none⟩) m m ∧ m ≤ n ∧ Hid (m = n - o ∧ o ≤ n) ∧ Hid (o < n → ar = a + o) ∧ Hid (OpI w ht nm av as_ wr) ∧ Hid (opL l f o as_ = R) ∧ Hid (m < f) ∧ Hid (as_.length ≤ o)) (fun rv _ => slz rv)
    case atStart => exact ⟨l.length + 1, 1 + kn, a2, n - (1 + kn), nil8, [], rfl, by omega, Lib.hid ⟨rfl, by omega⟩, HA2, HI0, HR0, Lib.hid (by have := HLN.out; omega), Lib.hid (Nat.zero_le _)⟩
    case round =>
      clear HI0 HR0 HA2
      obtain ⟨f, o, ar, m, av, as_, rfl, hmn, HO, HAR, HI, HL, HF, HAL⟩ := hrel
      obtain ⟨f, rfl⟩ : ∃ f', f = f' + 1 := ⟨f - 1, by have := HF.out; omega⟩
      have HBR := Lib.hid (show ∀ y, Below w.heap.size w y → Bt y g ar m m (l.drop o) from fun y hy => by
        have h := (HB.out.below hy).drop (k := o) (a' := ar) (c' := m) HO.out.2 HAR.out (by have := HO.out.1; omega)
        rw [← HO.out.1] at h
        exact h)
      obtain ⟨sp, hsp⟩ : ∃ sp, spLen (l.drop o) = sp := ⟨_, rfl⟩
      have hspl : sp ≤ m := by have h := spLen_le (l.drop o); rw [hsp, List.length_drop, HLN.out] at h; have := HO.out; omega
      have HSP := Lib.hid hsp
      obtain ⟨a3, ha3⟩ : ∃ a3, a3 = bof ar m sp := ⟨_, rfl⟩
      obtain ⟨m1, hm1⟩ : ∃ m1, m1 = m - sp := ⟨_, rfl⟩
      obtain ⟨b1, hb1⟩ : ∃ b1, b1 = decide (0 < sp) := ⟨_, rfl⟩
      have HSC := Lib.hid (show Calls Tryz.prog 106 #[.slice (some ⟨g, ar, none⟩) m m] wr fun e w' => e = .returned (.tuple #[.slice (some ⟨g, a3, none⟩) m1 m1, .bool b1]) ∧ wr = w' from by
        have h := space_calls g ar m m (l.drop o) wr (HBR.out _ HI.out.below) (by omega)
        unfold SpPost at h
        rw [hsp, ← ha3, ← hm1, ← hb1] at h
        exact h)
      obtain ⟨o1, ho1⟩ : ∃ o1, o1 = o + sp := ⟨_, rfl⟩
      have HO1 := Lib.hid ho1
      have HA3 := Lib.hid (show o1 < n → a3 = a + o1 from fun h => by have := HO.out; rw [ha3, bof_lt (by omega), HAR.out (by omega)]; omega)
      have HM1 := Lib.hid (show m1 = n - o1 ∧ o1 ≤ n from by have := HO.out; omega)
      have HBR1 := Lib.hid (show ∀ y, Below w.heap.size w y → Bt y g a3 m1 m1 (l.drop o1) from fun y hy => by
        have h2 := (HBR.out y hy).drop (k := sp) (a' := a3) (c' := m1) hspl (fun h => by rw [ha3]; exact bof_lt h) (by omega)
        rw [List.drop_drop, ← hm1, ← ho1] at h2
        exact h2)
      have HBB := Lib.hid hb1
      have hm1n : m1 ≤ n := by omega
      have hL := HL.out
      rw [opL, hsp, ← ho1] at hL
      have HLL := Lib.hid hL
      clear hsp ha3 hm1 hb1 ho1 hL HL
      by_cases hz : 0 < m1 ∧ (l.drop o1).head? = some 62
      · obtain ⟨hz1, hz2⟩ := hz
        have hll : 0 < (l.drop o1).length := by rw [List.length_drop, HLN.out]; have := HM1.out; omega
        have c1 : wr.cell? ⟨g, a3, none⟩ = some (.int .u8 62) := by
          have h := (HBR1.out _ HI.out.below).cell 0 hll
          rw [List.head?_eq_getElem?, List.getElem?_eq_getElem hll] at hz2
          injection hz2 with hz2
          rw [hz2] at h
          exact h
        have hL := HLL.out
        rw [if_pos hz2] at hL
        have HN := Lib.hid (show opF l = some (kn, as_, o1 + 1) from by rw [HOP.out, ← hL]; rfl)
        have v3 : (0 : Int) < (m1 : Int) := by omega
        obtain ⟨a4, ha4⟩ : ∃ a4, a4 = bof a3 m1 1 := ⟨_, rfl⟩
        have hsl2 : ∀ W : World, (Instr.slice 72 (.slice (some ⟨g, a3, none⟩) m1 m1) (some (.int .i64 1)) (some (.int .i64 (m1 : Int))) (some (.int .i64 (m1 : Int)))).run Tryz.prog W = .ok (.slice (some ⟨g, a4, none⟩) (m1 - 1) (m1 - 1)) W := fun W => by
          have h := slice_lhm W g a3 m1 m1 1 (by omega) (Nat.le_refl _)
          rw [← ha4] at h
          exact h
        have HA4 := Lib.hid (show o1 + 1 < n → a4 = a + (o1 + 1) from fun h => by
          have hm := HM1.out
          rw [ha4, bof_lt (by omega), HA3.out (by omega)]
          omega)
        clear ha4 hz2 hL hll
        go_upto_region 7 with (go_at_call 106; refine HSC.out.mono ?_; rintro e w' ⟨rfl, rfl⟩)
        have hC0 : OpC w nm av as_ wr.drew 0 wr.drew := rfl
        have ne : Nonempty (Mix.Wd (OpC w nm av as_ wr.drew) 0) := ⟨⟨wr.drew, 0, Nat.le_refl _, hC0⟩⟩
        have ne0 : Nonempty (Mix.Wx (OpC w nm av as_ wr.drew) 0 0) := ⟨⟨wr.drew, 0, Nat.le_refl _, Nat.le_refl _, hC0⟩⟩
        have hx0 : ∀ x : Mix.Wx (OpC w nm av as_ wr.drew) 0 0, Blk x.1 ht (TK 1 (.string nm) emv av) 46 := fun x => by
          obtain ⟨y, i, h1, h2, h3⟩ := x
          obtain rfl : i = 0 := by omega
          have h3' : y = wr.drew := h3
          subst h3'
          exact HI.out.tok.drew
        obtain ⟨A0, c0, hav⟩ := Kd.R_slice HI.out.row
        subst hav
        have d1 : ∀ x : Mix.Wx (OpC w nm (.slice A0 as_.length c0) as_ wr.drew) 0 0, x.1.cell? ⟨ht, 0, none⟩ = some (.int .i64 1) := fun x => (hx0 x).cell 0
        have d2 : ∀ x : Mix.Wx (OpC w nm (.slice A0 as_.length c0) as_ wr.drew) 0 0, x.1.cell? ⟨ht, 1, none⟩ = some (.string nm) := fun x => (hx0 x).cell 1
        have d3 : ∀ x : Mix.Wx (OpC w nm (.slice A0 as_.length c0) as_ wr.drew) 0 0, x.1.cell? ⟨ht, 2, none⟩ = some (.string ⟨#[]⟩) := fun x => (hx0 x).cell 2
        have d4 : ∀ x : Mix.Wx (OpC w nm (.slice A0 as_.length c0) as_ wr.drew) 0 0, x.1.cell? ⟨ht, 3, none⟩ = some (.slice A0 as_.length c0) := fun x => (hx0 x).cell 3
        refine Mix.wp_region_mix (C := OpC w nm (.slice A0 as_.length c0) as_ wr.drew) [7] (by kernel_rfl) (by kernel_rfl) hC0 ?_
        (refine Mix.mix_in 0 0 (by decide) (by kernel_rfl) (fun K hK => ?_); go_simp; refine hK _ ?_; clear hK K)
        iterate 6 (refine Mix.mix_still (by decide) (fun K hK => ?_); go_simp; refine hK _ ?_; clear hK K)
        refine Mix.mix_store (by decide) rfl 46 _ _ rfl w.heap.size (TK 1 (.string nm) emv (.slice A0 as_.length c0)) rfl rfl (info_tok _ _ _ _) (tk_all _ _ _ _ _ _) (fun y hy => ⟨46, TK 0 emv emv nil8, (by have hy' : y = wr.drew := hy; rw [hy']; exact HI.out.res.drew), rfl, (by have hy' : y = wr.drew := hy; rw [hy']; exact ⟨Mix.blk_setRow HI.out.res.drew, Kd.R_step (Kd.R_types (Kd.R_below HI.out.row (below_drewN (Below.refl _ _) 1)) HI.out.res.drew typ_attr) (fun k hk _ => setRow_other _ _ _ _ hk.2) |> (Kd.R_mono · (fun _ hk => hk.1)), (below_drewN HI.out.below 1).trans ((Mix.but_setRow _ _ _).below (Nat.le_refl _) HI.out.below.size)⟩)⟩) ?_
        iterate 2 (refine Mix.mix_still (by decide) (fun K hK => ?_); go_simp; refine hK _ ?_; clear hK K)
        refine Mix.mix_nil ?_
        intro w6 hw6
        have hw6' : Blk w6 w.heap.size (TK 1 (.string nm) emv (.slice A0 as_.length c0)) 46 ∧ k70.R 70 w6 w.heap.size (fun _ => True) (.slice A0 as_.length c0) as_ ∧ Below w.heap.size w w6 := hw6
        have HW6 := Lib.hid hw6'.2
        have e1 : w6.cell? ⟨w.heap.size, 0, none⟩ = some (.int .i64 1) := hw6'.1.cell 0
        have e2 : w6.cell? ⟨w.heap.size, 1, none⟩ = some (.string nm) := hw6'.1.cell 1
        have e3 : w6.cell? ⟨w.heap.size, 2, none⟩ = some emv := hw6'.1.cell 2
        have e4 : w6.cell? ⟨w.heap.size, 3, none⟩ = some (.slice A0 as_.length c0) := hw6'.1.cell 3
        clear hw6 hw6' ne ne0 hC0 hx0 d1 d2 d3 d4 hsl2 hmf
        show Exit.then _ _ _ _ w6
        go_wp2_with fail
        refine bodyPost_ret (v := .tuple #[.agg (TK 1 (.string nm) emv (.slice A0 as_.length c0)), .slice (some ⟨g, a4, none⟩) (m1 - 1) (m1 - 1), .bool true]) (by simp [results, Tryz.results86, go_sem, e1, e2, e3, e4]; first | done | rfl) rfl ⟨by rw [HN.out]; show TakeP g a n w ⟨1, st (lows ((l.drop 1).take kn)), ⟨#[]⟩, as_⟩ (o1 + 1) _ _; rw [← HNV.out]; exact ⟨[.int .i64 1, .string nm, .string ⟨#[]⟩, .slice A0 as_.length c0], a4, k46_mkM _ _ _ ⟨1, nm, ⟨#[]⟩, as_⟩ HW6.out.1, HA4.out, by have := HM1.out; rw [show m1 - 1 = n - (o1 + 1) by omega]; rfl⟩, HW6.out.2⟩
      · have HZ := Lib.hid (show ¬ (l.drop o1).head? = some 62 from fun h => hz ⟨by
          rcases Nat.eq_zero_or_pos m1 with h0 | h0
          · rw [List.drop_of_length_le (by rw [HLN.out]; have := HM1.out; omega)] at h
            simp at h
          · exact h0, h⟩)
        obtain ⟨A0, c0, hav⟩ := Kd.R_slice HI.out.row
        subst hav
        clear hz
        by_cases hm10 : m1 = 0
        · have v3 : ¬ (0 : Int) < (m1 : Int) := by omega
          have hnm : nmF (l.drop o1) = none := by rw [List.drop_of_length_le (by rw [HLN.out]; have := HM1.out; omega)]; rfl
          clear hm10
          have HNR := Lib.hid (show Calls Tryz.prog 53 #[.slice (some ⟨g, a3, none⟩) m1 m1] wr fun e w' => e = .returned (.tuple #[.string ⟨#[]⟩, .slice none 0 0, .bool false]) ∧ Below wr.heap.size wr w' from by
            have h := name_calls g a3 m1 m1 (l.drop o1) wr (HBR1.out _ HI.out.below) (by omega)
            unfold NmPost at h
            rw [hnm] at h
            exact h)
          have HN := Lib.hid (show opF l = none from by
            have hL := HLL.out
            rw [if_neg HZ.out, hnm] at hL
            rw [HOP.out, ← hL]
            rfl)
          clear hnm
          cases b1 with
          | true =>
            go_wp2_with (first | (go_at_call 106; refine HSC.out.mono ?_; rintro e w' ⟨rfl, rfl⟩) | (go_at_call 53; refine HNR.out.mono ?_; rintro e wn ⟨rfl, hb⟩; have HIn := Lib.hid ((HI.out.step hb).step ((Below.refl _ _).alloc (Nat.le_refl _) (.cells #[.string ⟨#[]⟩] 9))); clear hb) | ((with_reducible refine Mix.at_st (t := 46) ?_); refine Mix.wpList_store_blk (o := ⟨none, .store 46 _ _, _, _, _, _⟩) rfl 46 _ _ rfl w.heap.size (TK 0 emv emv nil8) rfl rfl 46 (TK 0 emv emv nil8) HIn.out.res (info_tok _ _ _ _) rfl (tk_all _ _ _ _ _ _) ?_; intro W3 hb3 hbu hsz3; have e1 : W3.cell? ⟨w.heap.size, 0, none⟩ = some (.int .i64 0) := hb3.cell 0; have e2 : W3.cell? ⟨w.heap.size, 1, none⟩ = some emv := hb3.cell 1; have e3 : W3.cell? ⟨w.heap.size, 2, none⟩ = some emv := hb3.cell 2; have e4 : W3.cell? ⟨w.heap.size, 3, none⟩ = some nil8 := hb3.cell 3; have HB3 := Lib.hid hb3; have HBU := Lib.hid hbu; have HSZ := Lib.hid hsz3; clear hb3 hbu hsz3))
            refine bodyPost_ret (v := .tuple #[.agg (TK 0 emv emv nil8), nil8, .bool false]) (by simp [results, Tryz.results86, go_sem, e1, e2, e3, e4]; first | done | exact ⟨rfl, rfl⟩) rfl ⟨by rw [HN.out]; exact rfl, HIn.out.below.trans (HBU.out.below (Nat.le_refl _) HIn.out.below.size)⟩
          | false =>
            go_wp2_with (first | (go_at_call 106; refine HSC.out.mono ?_; rintro e w' ⟨rfl, rfl⟩) | (go_at_call 53; refine HNR.out.mono ?_; rintro e wn ⟨rfl, hb⟩; have HIn := Lib.hid ((HI.out.step hb).step ((Below.refl _ _).alloc (Nat.le_refl _) (.cells #[.string ⟨#[]⟩] 9))); clear hb) | ((with_reducible refine Mix.at_st (t := 46) ?_); refine Mix.wpList_store_blk (o := ⟨none, .store 46 _ _, _, _, _, _⟩) rfl 46 _ _ rfl w.heap.size (TK 0 emv emv nil8) rfl rfl 46 (TK 0 emv emv nil8) HIn.out.res (info_tok _ _ _ _) rfl (tk_all _ _ _ _ _ _) ?_; intro W3 hb3 hbu hsz3; have e1 : W3.cell? ⟨w.heap.size, 0, none⟩ = some (.int .i64 0) := hb3.cell 0; have e2 : W3.cell? ⟨w.heap.size, 1, none⟩ = some emv := hb3.cell 1; have e3 : W3.cell? ⟨w.heap.size, 2, none⟩ = some emv := hb3.cell 2; have e4 : W3.cell? ⟨w.heap.size, 3, none⟩ = some nil8 := hb3.cell 3; have HB3 := Lib.hid hb3; have HBU := Lib.hid hbu; have HSZ := Lib.hid hsz3; clear hb3 hbu hsz3))
            refine bodyPost_ret (v := .tuple #[.agg (TK 0 emv emv nil8), nil8, .bool false]) (by simp [results, Tryz.results86, go_sem, e1, e2, e3, e4]; first | done | exact ⟨rfl, rfl⟩) rfl ⟨by rw [HN.out]; exact rfl, HIn.out.below.trans (HBU.out.below (Nat.le_refl _) HIn.out.below.size)⟩
        · have v3 : (0 : Int) < (m1 : Int) := by omega
          have hll : 0 < (l.drop o1).length := by rw [List.length_drop, HLN.out]; have := HM1.out; omega
          obtain ⟨d5, hd5⟩ : ∃ d5, d5 = (l.drop o1)[0]'hll := ⟨_, rfl⟩
          have c1 : wr.cell? ⟨g, a3, none⟩ = some (.int .u8 (d5.toNat : Int)) := by rw [hd5]; exact (HBR1.out _ HI.out.below).cell 0 hll
          have v4 : ((d5.toNat : Int) == 62) = false := by
            have : d5.toNat ≠ 62 := fun h => HZ.out (by rw [List.head?_eq_getElem?, List.getElem?_eq_getElem hll, ← hd5]; congr 1; apply UInt8.toNat_inj.1; exact h)
            simp; omega
          clear hd5 hll
          cases hnm : nmF (l.drop o1) with
          | none =>
            have HNR := Lib.hid (show Calls Tryz.prog 53 #[.slice (some ⟨g, a3, none⟩) m1 m1] wr fun e w' => e = .returned (.tuple #[.string ⟨#[]⟩, .slice none 0 0, .bool false]) ∧ Below wr.heap.size wr w' from by
              have h := name_calls g a3 m1 m1 (l.drop o1) wr (HBR1.out _ HI.out.below) (by omega)
              unfold NmPost at h
              rw [hnm] at h
              exact h)
            have HN := Lib.hid (show opF l = none from by
              have hL := HLL.out
              rw [if_neg HZ.out, hnm] at hL
              rw [HOP.out, ← hL]
              rfl)
            clear hnm
            cases b1 with
            | true =>
              go_wp2_with (first | (go_at_call 106; refine HSC.out.mono ?_; rintro e w' ⟨rfl, rfl⟩) | (go_at_call 53; refine HNR.out.mono ?_; rintro e wn ⟨rfl, hb⟩; have HIn := Lib.hid ((HI.out.step hb).step ((Below.refl _ _).alloc (Nat.le_refl _) (.cells #[.string ⟨#[]⟩] 9))); clear hb) | ((with_reducible refine Mix.at_st (t := 46) ?_); refine Mix.wpList_store_blk (o := ⟨none, .store 46 _ _, _, _, _, _⟩) rfl 46 _ _ rfl w.heap.size (TK 0 emv emv nil8) rfl rfl 46 (TK 0 emv emv nil8) HIn.out.res (info_tok _ _ _ _) rfl (tk_all _ _ _ _ _ _) ?_; intro W3 hb3 hbu hsz3; have e1 : W3.cell? ⟨w.heap.size, 0, none⟩ = some (.int .i64 0) := hb3.cell 0; have e2 : W3.cell? ⟨w.heap.size, 1, none⟩ = some emv := hb3.cell 1; have e3 : W3.cell? ⟨w.heap.size, 2, none⟩ = some emv := hb3.cell 2; have e4 : W3.cell? ⟨w.heap.size, 3, none⟩ = some nil8 := hb3.cell 3; have HB3 := Lib.hid hb3; have HBU := Lib.hid hbu; have HSZ := Lib.hid hsz3; clear hb3 hbu hsz3))
              refine bodyPost_ret (v := .tuple #[.agg (TK 0 emv emv nil8), nil8, .bool false]) (by simp [results, Tryz.results86, go_sem, e1, e2, e3, e4]; first | done | exact ⟨rfl, rfl⟩) rfl ⟨by rw [HN.out]; exact rfl, HIn.out.below.trans (HBU.out.below (Nat.le_refl _) HIn.out.below.size)⟩
            | false =>
              go_wp2_with (first | (go_at_call 106; refine HSC.out.mono ?_; rintro e w' ⟨rfl, rfl⟩) | (go_at_call 53; refine HNR.out.mono ?_; rintro e wn ⟨rfl, hb⟩; have HIn := Lib.hid ((HI.out.step hb).step ((Below.refl _ _).alloc (Nat.le_refl _) (.cells #[.string ⟨#[]⟩] 9))); clear hb) | ((with_reducible refine Mix.at_st (t := 46) ?_); refine Mix.wpList_store_blk (o := ⟨none, .store 46 _ _, _, _, _, _⟩) rfl 46 _ _ rfl w.heap.size (TK 0 emv emv nil8) rfl rfl 46 (TK 0 emv emv nil8) HIn.out.res (info_tok _ _ _ _) rfl (tk_all _ _ _ _ _ _) ?_; intro W3 hb3 hbu hsz3; have e1 : W3.cell? ⟨w.heap.size, 0, none⟩ = some (.int .i64 0) := hb3.cell 0; have e2 : W3.cell? ⟨w.heap.size, 1, none⟩ = some emv := hb3.cell 1; have e3 : W3.cell? ⟨w.heap.size, 2, none⟩ = some emv := hb3.cell 2; have e4 : W3.cell? ⟨w.heap.size, 3, none⟩ = some nil8 := hb3.cell 3; have HB3 := Lib.hid hb3; have HBU := Lib.hid hbu; have HSZ := Lib.hid hsz3; clear hb3 hbu hsz3))
              refine bodyPost_ret (v := .tuple #[.agg (TK 0 emv emv nil8), nil8, .bool false]) (by simp [results, Tryz.results86, go_sem, e1, e2, e3, e4]; first | done | exact ⟨rfl, rfl⟩) rfl ⟨by rw [HN.out]; exact rfl, HIn.out.below.trans (HBU.out.below (Nat.le_refl _) HIn.out.below.size)⟩
          | some k =>
            have hk := nmF_some hnm
            have hkm : k ≤ m1 := by have h := hk.2.2.2.1; rw [List.length_drop, HLN.out] at h; have := HM1.out; omega
            have hk0 : 0 < k := hk.2.1
            obtain ⟨key, hkey⟩ : ∃ key, key = st (lows ((l.drop o1).take k)) := ⟨_, rfl⟩
            obtain ⟨a5, ha5⟩ : ∃ a5, a5 = bof a3 m1 k := ⟨_, rfl⟩
            obtain ⟨m2, hm2⟩ : ∃ m2, m2 = m1 - k := ⟨_, rfl⟩
            obtain ⟨o2, ho2⟩ : ∃ o2, o2 = o1 + k := ⟨_, rfl⟩
            have HNR := Lib.hid (show Calls Tryz.prog 53 #[.slice (some ⟨g, a3, none⟩) m1 m1] wr fun e w' => e = .returned (.tuple #[.string key, .slice (some ⟨g, a5, none⟩) m2 m2, .bool true]) ∧ Below wr.heap.size wr w' from by
              have h := name_calls g a3 m1 m1 (l.drop o1) wr (HBR1.out _ HI.out.below) (by omega)
              unfold NmPost at h
              rw [hnm] at h
              dsimp only at h
              rw [← hkey, ← ha5, ← hm2] at h
              exact h)
            have HA5 := Lib.hid (show o2 < n → a5 = a + o2 from fun h => by have := HM1.out; rw [ha5, bof_lt (by omega), HA3.out (by omega)]; omega)
            have HM2 := Lib.hid (show m2 = n - o2 ∧ o2 ≤ n from by have := HM1.out; omega)
            have HBR2 := Lib.hid (show ∀ y, Below w.heap.size w y → Bt y g a5 m2 m2 (l.drop o2) from fun y hy => by
              have h2 := (HBR1.out y hy).drop (k := k) (a' := a5) (c' := m2) hkm (fun h => by rw [ha5]; exact bof_lt h) (by omega)
              rw [List.drop_drop, ← hm2, ← ho2] at h2
              exact h2)
            have HO2 := Lib.hid (show o < o2 from by have := HO1.out; omega)
            have hm2n : m2 ≤ n := by omega
            have hL := HLL.out
            rw [if_neg HZ.out, hnm] at hL
            dsimp only at hL
            rw [← hkey, ← ho2] at hL
            have HLK := Lib.hid hL
            have HALB := Lib.hid (show (as_.length + 1) * 32 ≤ 140737488355328 from by have := HAL.out; have := HO.out.2; omega)
            have HCFA := Lib.hid (show ∀ y b, k70.C y A0 as_.length as_ → y.cell? ⟨b, 0, none⟩ = some (.string key) → b < y.heap.size → Calls Tryz.prog 108 #[.slice A0 as_.length c0, .func (.func 109) #[] #[.pointer (some ⟨b, 0, none⟩)]] y fun e w' => e = .returned (.bool (as_.any fun x => eqS x.f0 key)) ∧ Below y.heap.size y w' from fun y b h1 h2 h3 => hasKey_calls A0 c0 as_ b key y h1 (by have := HAL.out; have := HO.out.2; omega) h2 h3)
            clear hk hkey ha5 hm2 ho2 hL hnm HLL
            by_cases hs0 : sp = 0
            · have HB1F := Lib.hid (show b1 = false from by rw [HBB.out, hs0]; rfl)
              have HN := Lib.hid (show opF l = none from by
                have hL := HLK.out
                rw [if_pos hs0] at hL
                rw [HOP.out, ← hL]
                rfl)
              obtain rfl : b1 = false := HB1F.out
              clear HB1F HBB hs0
              go_wp2_with (first | (go_at_call 106; refine HSC.out.mono ?_; rintro e w' ⟨rfl, rfl⟩) | (go_at_call 53; refine HNR.out.mono ?_; rintro e wn ⟨rfl, hb⟩; have HIn := Lib.hid ((HI.out.step hb).step ((Below.refl _ _).alloc (Nat.le_refl _) (.cells #[.string key] 9))); clear hb) | ((with_reducible refine Mix.at_st (t := 46) ?_); refine Mix.wpList_store_blk (o := ⟨none, .store 46 _ _, _, _, _, _⟩) rfl 46 _ _ rfl w.heap.size (TK 0 emv emv nil8) rfl rfl 46 (TK 0 emv emv nil8) HIn.out.res (info_tok _ _ _ _) rfl (tk_all _ _ _ _ _ _) ?_; intro W3 hb3 hbu hsz3; have e1 : W3.cell? ⟨w.heap.size, 0, none⟩ = some (.int .i64 0) := hb3.cell 0; have e2 : W3.cell? ⟨w.heap.size, 1, none⟩ = some emv := hb3.cell 1; have e3 : W3.cell? ⟨w.heap.size, 2, none⟩ = some emv := hb3.cell 2; have e4 : W3.cell? ⟨w.heap.size, 3, none⟩ = some nil8 := hb3.cell 3; have HB3 := Lib.hid hb3; have HBU := Lib.hid hbu; have HSZ := Lib.hid hsz3; clear hb3 hbu hsz3))
              refine bodyPost_ret (v := .tuple #[.agg (TK 0 emv emv nil8), nil8, .bool false]) (by simp [results, Tryz.results86, go_sem, e1, e2, e3, e4]; first | done | exact ⟨rfl, rfl⟩) rfl ⟨by rw [HN.out]; exact rfl, HIn.out.below.trans (HBU.out.below (Nat.le_refl _) HIn.out.below.size)⟩
            · have HB1T := Lib.hid (show b1 = true from by rw [HBB.out]; simp; omega)
              obtain rfl : b1 = true := HB1T.out
              clear HB1T HBB
              have hL := HLK.out
              rw [if_neg hs0] at hL
              have HLK2 := Lib.hid hL
              clear hL HLK hs0
              cases hq : qF (l.drop o2) with
              | some v =>
                have hqs := (qF_some hq).1
                rw [List.length_drop, HLN.out] at hqs
                obtain ⟨val, hval⟩ : ∃ val, val = st (tellF (st v) 0) := ⟨_, rfl⟩
                obtain ⟨a6, ha6⟩ : ∃ a6, a6 = bof a5 m2 (v.length + 3) := ⟨_, rfl⟩
                obtain ⟨m3, hm3⟩ : ∃ m3, m3 = m2 - (v.length + 3) := ⟨_, rfl⟩
                obtain ⟨o3, ho3⟩ : ∃ o3, o3 = o2 + (v.length + 3) := ⟨_, rfl⟩
                have HQ := Lib.hid (show ∀ y, Below w.heap.size w y → Calls Tryz.prog 107 #[.slice (some ⟨g, a5, none⟩) m2 m2] y fun e w' => e = .returned (.tuple #[.string val, .slice (some ⟨g, a6, none⟩) m3 m3, .bool true]) ∧ Below y.heap.size y w' from fun y hy => by
                  have h := quoted_calls g a5 m2 m2 (l.drop o2) y (HBR2.out y hy) (by omega)
                  unfold QuPost at h
                  rw [hq] at h
                  dsimp only at h
                  rw [← hval, ← ha6, ← hm3] at h
                  exact h)
                have HLQ := Lib.hid (show opL l f o3 (addA as_ key val) = R from by
                  have hL := HLK2.out
                  rw [hq] at hL
                  dsimp only at hL
                  rw [← hval, ← ho3] at hL
                  exact hL)
                have HM3 := Lib.hid (show m3 = n - o3 ∧ o3 ≤ n from by have := HM2.out; omega)
                have HO3 := Lib.hid (show o < o3 from by have := HO2.out; omega)
                have HA6 := Lib.hid (show o3 < n → a6 = a + o3 from fun h => by have := HM2.out; rw [ha6, bof_lt (by omega), HA5.out (by omega)]; omega)
                clear hq hval ha6 hm3 ho3 hqs HLK2
                have HCF0 := HCFA.out
                obtain ⟨bc, hbc⟩ : ∃ bc, (as_.any fun x => eqS x.f0 key) = bc := ⟨_, rfl⟩
                have HBC := Lib.hid hbc
                have HCF := Lib.hid (show ∀ y b, k70.C y A0 as_.length as_ → y.cell? ⟨b, 0, none⟩ = some (.string key) → b < y.heap.size → Calls Tryz.prog 108 #[.slice A0 as_.length c0, .func (.func 109) #[] #[.pointer (some ⟨b, 0, none⟩)]] y fun e w' => e = .returned (.bool bc) ∧ Below y.heap.size y w' from fun y b h1 h2 h3 => by
                  have h := HCF0 y b h1 h2 h3
                  rw [hbc] at h
                  exact h)
                clear hbc HCF0
                cases bc with
                | true =>
                  go_wp2_with (first | (go_at_call 106; refine HSC.out.mono ?_; rintro e w' ⟨rfl, rfl⟩) | (go_at_call 53; refine HNR.out.mono ?_; rintro e wn ⟨rfl, hb⟩; have HIn := Lib.hid ((HI.out.step hb).step ((Below.refl _ _).alloc (Nat.le_refl _) (.cells #[.string key] 9))); clear hb) | (go_at_call 107; refine (HQ.out _ HIn.out.below).mono ?_; rintro e w2 ⟨rfl, hb⟩; have HI2 := Lib.hid (HIn.out.step hb); have ck : w2.cell? ⟨wn.heap.size, 0, none⟩ = some (.string key) := (by rw [hb.cell (p := ⟨wn.heap.size, 0, none⟩) (by simp)]; exact (Blk.alloc wn _ _).cell 0); have hkl2 : wn.heap.size < w2.heap.size := (Nat.lt_of_lt_of_le (by simp) hb.size); have HCK := Lib.hid ck; have HKL2 := Lib.hid hkl2; have c3 : w2.cell? ⟨ht, 3, none⟩ = some (.slice A0 as_.length c0) := HI2.out.tok.cell 3; clear hb ck hkl2) | (go_at_call 108; refine (HCF.out _ _ (Kd.R_reads' HI2.out.row).2.2 HCK.out HKL2.out).mono ?_; rintro e w3 ⟨rfl, hb⟩; have HI3 := Lib.hid (HI2.out.step hb); have ck3 : w3.cell? ⟨wn.heap.size, 0, none⟩ = some (.string key) := (by rw [hb.cell (p := ⟨wn.heap.size, 0, none⟩) HKL2.out]; exact HCK.out); have c33 : w3.cell? ⟨ht, 3, none⟩ = some (.slice A0 as_.length c0) := HI3.out.tok.cell 3; clear hb c3))
                  go_roundw
                  case rel => exact ⟨f, o3, a6, m3, _, as_, rfl, by have := HM3.out; omega, Lib.hid HM3.out, HA6, HI3, Lib.hid (by have h := HLQ.out; unfold addA at h; rw [HBC.out] at h; exact h), Lib.hid (by have := HF.out; have := HM3.out; have := HO3.out; have := HO.out; omega), Lib.hid (by have := HAL.out; have := HO3.out;  omega)⟩
                  case measure => show slz _ < slz _; have := HM3.out; have := HO3.out; have := HO.out; simp only [slz]; omega
                | false =>
                  go_wp2_with (first | (go_at_call 106; refine HSC.out.mono ?_; rintro e w' ⟨rfl, rfl⟩) | (go_at_call 53; refine HNR.out.mono ?_; rintro e wn ⟨rfl, hb⟩; have HIn := Lib.hid ((HI.out.step hb).step ((Below.refl _ _).alloc (Nat.le_refl _) (.cells #[.string key] 9))); clear hb) | (go_at_call 107; refine (HQ.out _ HIn.out.below).mono ?_; rintro e w2 ⟨rfl, hb⟩; have HI2 := Lib.hid (HIn.out.step hb); have ck : w2.cell? ⟨wn.heap.size, 0, none⟩ = some (.string key) := (by rw [hb.cell (p := ⟨wn.heap.size, 0, none⟩) (by simp)]; exact (Blk.alloc wn _ _).cell 0); have hkl2 : wn.heap.size < w2.heap.size := (Nat.lt_of_lt_of_le (by simp) hb.size); have HCK := Lib.hid ck; have HKL2 := Lib.hid hkl2; have c3 : w2.cell? ⟨ht, 3, none⟩ = some (.slice A0 as_.length c0) := HI2.out.tok.cell 3; clear hb ck hkl2) | (go_at_call 108; refine (HCF.out _ _ (Kd.R_reads' HI2.out.row).2.2 HCK.out HKL2.out).mono ?_; rintro e w3 ⟨rfl, hb⟩; have HI3 := Lib.hid (HI2.out.step hb); have ck3 : w3.cell? ⟨wn.heap.size, 0, none⟩ = some (.string key) := (by rw [hb.cell (p := ⟨wn.heap.size, 0, none⟩) HKL2.out]; exact HCK.out); have c33 : w3.cell? ⟨ht, 3, none⟩ = some (.slice A0 as_.length c0) := HI3.out.tok.cell 3; clear hb c3) | (at_builtin; refine Kd.R_append k70 (w0 := w) w.heap.size rfl _ _ 44 70 (.agg #[.string ⟨#[]⟩, .string ⟨#[]⟩]) 32 rfl Tryz.underlying44 info_attr rfl (by decide) (by decide) (.slice A0 as_.length c0) as_ ⟨key, val⟩ [.string key, .string val] (fun _ => True) (fun _ => False) rfl rfl (k70_mkM _ _ _ ⟨key, val⟩) (fun _ h => h.elim) (fun _ _ => trivial) HI3.out.row HI3.out.below HI3.out.below.size HALB.out ?_; intro v1 w4 hr hb4 hg4 hat4; have HI4 := Lib.hid (opI_app HI3.out hr hb4 hg4); obtain ⟨A1, c1', hv1⟩ := Kd.R_slice hr; rw [List.length_append, List.length_singleton] at hv1; subst hv1; have c34 : w4.cell? ⟨ht, 3, none⟩ = some (.slice A0 as_.length c0) := HI4.out.1.cell 3; have f34 := HI4.out.1.free 3; clear hr hb4 hg4 hat4))
                  go_roundw
                  case rel => exact ⟨f, o3, a6, m3, _, as_ ++ [⟨key, val⟩], rfl, by have := HM3.out; omega, Lib.hid HM3.out, HA6, Lib.hid HI4.out.2, Lib.hid (by have h := HLQ.out; unfold addA at h; rw [HBC.out] at h; exact h), Lib.hid (by have := HF.out; have := HM3.out; have := HO3.out; have := HO.out; omega), Lib.hid (by have := HAL.out; have := HO3.out; rw [List.length_append, List.length_singleton]; omega)⟩
                  case measure => show slz _ < slz _; have := HM3.out; have := HO3.out; have := HO.out; simp only [slz]; omega
              | none =>
                have HQ := Lib.hid (show ∀ y, Below w.heap.size w y → Calls Tryz.prog 107 #[.slice (some ⟨g, a5, none⟩) m2 m2] y fun e w' => e = .returned (.tuple #[.string ⟨#[]⟩, .slice (some ⟨g, a5, none⟩) m2 m2, .bool false]) ∧ Below y.heap.size y w' from fun y hy => by
                  have h := quoted_calls g a5 m2 m2 (l.drop o2) y (HBR2.out y hy) (by omega)
                  unfold QuPost at h
                  rw [hq] at h
                  exact h)
                have hL := HLK2.out
                rw [hq] at hL
                dsimp only at hL
                have HLK3 := Lib.hid hL
                clear hq hL HLK2
                by_cases hm0 : m2 = 0
                · have w3 : ¬ (0 : Int) < (m2 : Int) := by omega
                  obtain ⟨val, hval⟩ : ∃ val, val = (⟨#[]⟩ : ByteArray) := ⟨_, rfl⟩
                  obtain ⟨a6, ha6⟩ : ∃ a6, a6 = a5 := ⟨_, rfl⟩
                  obtain ⟨m3, hm3⟩ : ∃ m3, m3 = m2 := ⟨_, rfl⟩
                  obtain ⟨o3, ho3⟩ : ∃ o3, o3 = o2 := ⟨_, rfl⟩
                  have HLQ := Lib.hid (show opL l f o3 (addA as_ key val) = R from by
                    have hL := HLK3.out
                    rw [if_neg (by rw [List.drop_of_length_le (by rw [HLN.out]; have := HM2.out; omega)]; simp)] at hL
                    rw [hval, ho3]
                    exact hL)
                  subst hval ha6 hm3 ho3
                  have HM3 := HM2
                  have HO3 := HO2
                  have HA6 := HA5
                  clear HLK3 hm0
                  have HCF0 := HCFA.out
                  obtain ⟨bc, hbc⟩ : ∃ bc, (as_.any fun x => eqS x.f0 key) = bc := ⟨_, rfl⟩
                  have HBC := Lib.hid hbc
                  have HCF := Lib.hid (show ∀ y b, k70.C y A0 as_.length as_ → y.cell? ⟨b, 0, none⟩ = some (.string key) → b < y.heap.size → Calls Tryz.prog 108 #[.slice A0 as_.length c0, .func (.func 109) #[] #[.pointer (some ⟨b, 0, none⟩)]] y fun e w' => e = .returned (.bool bc) ∧ Below y.heap.size y w' from fun y b h1 h2 h3 => by
                    have h := HCF0 y b h1 h2 h3
                    rw [hbc] at h
                    exact h)
                  clear hbc HCF0
                  cases bc with
                  | true =>
                    go_wp2_with (first | (go_at_call 106; refine HSC.out.mono ?_; rintro e w' ⟨rfl, rfl⟩) | (go_at_call 53; refine HNR.out.mono ?_; rintro e wn ⟨rfl, hb⟩; have HIn := Lib.hid ((HI.out.step hb).step ((Below.refl _ _).alloc (Nat.le_refl _) (.cells #[.string key] 9))); clear hb) | (go_at_call 107; refine (HQ.out _ HIn.out.below).mono ?_; rintro e w2 ⟨rfl, hb⟩; have HI2 := Lib.hid (HIn.out.step hb); have ck : w2.cell? ⟨wn.heap.size, 0, none⟩ = some (.string key) := (by rw [hb.cell (p := ⟨wn.heap.size, 0, none⟩) (by simp)]; exact (Blk.alloc wn _ _).cell 0); have hkl2 : wn.heap.size < w2.heap.size := (Nat.lt_of_lt_of_le (by simp) hb.size); have HCK := Lib.hid ck; have HKL2 := Lib.hid hkl2; have c3 : w2.cell? ⟨ht, 3, none⟩ = some (.slice A0 as_.length c0) := HI2.out.tok.cell 3; clear hb ck hkl2) | (go_at_call 108; refine (HCF.out _ _ (Kd.R_reads' HI2.out.row).2.2 HCK.out HKL2.out).mono ?_; rintro e w3 ⟨rfl, hb⟩; have HI3 := Lib.hid (HI2.out.step hb); have ck3 : w3.cell? ⟨wn.heap.size, 0, none⟩ = some (.string key) := (by rw [hb.cell (p := ⟨wn.heap.size, 0, none⟩) HKL2.out]; exact HCK.out); have c33 : w3.cell? ⟨ht, 3, none⟩ = some (.slice A0 as_.length c0) := HI3.out.tok.cell 3; clear hb c3))
                    go_roundw
                    case rel => exact ⟨f, o3, a6, m3, _, as_, rfl, by have := HM3.out; omega, Lib.hid HM3.out, HA6, HI3, Lib.hid (by have h := HLQ.out; unfold addA at h; rw [HBC.out] at h; exact h), Lib.hid (by have := HF.out; have := HM3.out; have := HO3.out; have := HO.out; omega), Lib.hid (by have := HAL.out; have := HO3.out;  omega)⟩
                    case measure => show slz _ < slz _; have := HM3.out; have := HO3.out; have := HO.out; simp only [slz]; omega
                  | false =>
                    go_wp2_with (first | (go_at_call 106; refine HSC.out.mono ?_; rintro e w' ⟨rfl, rfl⟩) | (go_at_call 53; refine HNR.out.mono ?_; rintro e wn ⟨rfl, hb⟩; have HIn := Lib.hid ((HI.out.step hb).step ((Below.refl _ _).alloc (Nat.le_refl _) (.cells #[.string key] 9))); clear hb) | (go_at_call 107; refine (HQ.out _ HIn.out.below).mono ?_; rintro e w2 ⟨rfl, hb⟩; have HI2 := Lib.hid (HIn.out.step hb); have ck : w2.cell? ⟨wn.heap.size, 0, none⟩ = some (.string key) := (by rw [hb.cell (p := ⟨wn.heap.size, 0, none⟩) (by simp)]; exact (Blk.alloc wn _ _).cell 0); have hkl2 : wn.heap.size < w2.heap.size := (Nat.lt_of_lt_of_le (by simp) hb.size); have HCK := Lib.hid ck; have HKL2 := Lib.hid hkl2; have c3 : w2.cell? ⟨ht, 3, none⟩ = some (.slice A0 as_.length c0) := HI2.out.tok.cell 3; clear hb ck hkl2) | (go_at_call 108; refine (HCF.out _ _ (Kd.R_reads' HI2.out.row).2.2 HCK.out HKL2.out).mono ?_; rintro e w3 ⟨rfl, hb⟩; have HI3 := Lib.hid (HI2.out.step hb); have ck3 : w3.cell? ⟨wn.heap.size, 0, none⟩ = some (.string key) := (by rw [hb.cell (p := ⟨wn.heap.size, 0, none⟩) HKL2.out]; exact HCK.out); have c33 : w3.cell? ⟨ht, 3, none⟩ = some (.slice A0 as_.length c0) := HI3.out.tok.cell 3; clear hb c3) | (at_builtin; refine Kd.R_append k70 (w0 := w) w.heap.size rfl _ _ 44 70 (.agg #[.string ⟨#[]⟩, .string ⟨#[]⟩]) 32 rfl Tryz.underlying44 info_attr rfl (by decide) (by decide) (.slice A0 as_.length c0) as_ ⟨key, ⟨#[]⟩⟩ [.string key, .string ⟨#[]⟩] (fun _ => True) (fun _ => False) rfl rfl (k70_mkM _ _ _ ⟨key, ⟨#[]⟩⟩) (fun _ h => h.elim) (fun _ _ => trivial) HI3.out.row HI3.out.below HI3.out.below.size HALB.out ?_; intro v1 w4 hr hb4 hg4 hat4; have HI4 := Lib.hid (opI_app HI3.out hr hb4 hg4); obtain ⟨A1, c1', hv1⟩ := Kd.R_slice hr; rw [List.length_append, List.length_singleton] at hv1; subst hv1; have c34 : w4.cell? ⟨ht, 3, none⟩ = some (.slice A0 as_.length c0) := HI4.out.1.cell 3; have f34 := HI4.out.1.free 3; clear hr hb4 hg4 hat4))
                    go_roundw
                    case rel => exact ⟨f, o3, a6, m3, _, as_ ++ [⟨key, ⟨#[]⟩⟩], rfl, by have := HM3.out; omega, Lib.hid HM3.out, HA6, Lib.hid HI4.out.2, Lib.hid (by have h := HLQ.out; unfold addA at h; rw [HBC.out] at h; exact h), Lib.hid (by have := HF.out; have := HM3.out; have := HO3.out; have := HO.out; omega), Lib.hid (by have := HAL.out; have := HO3.out; rw [List.length_append, List.length_singleton]; omega)⟩
                    case measure => show slz _ < slz _; have := HM3.out; have := HO3.out; have := HO.out; simp only [slz]; omega
                · have w3 : (0 : Int) < (m2 : Int) := by omega
                  have hll : 0 < (l.drop o2).length := by rw [List.length_drop, HLN.out]; have := HM2.out; omega
                  obtain ⟨d6, hd6⟩ : ∃ d6, d6 = (l.drop o2)[0]'hll := ⟨_, rfl⟩
                  have HD6 := Lib.hid (show (l.drop o2).head? = some d6 from by rw [hd6, List.head?_eq_getElem?, List.getElem?_eq_getElem hll])
                  have HC6 := Lib.hid (show ∀ y, Below w.heap.size w y → y.cell? ⟨g, a5, none⟩ = some (.int .u8 (d6.toNat : Int)) from fun y hy => by rw [hd6]; exact (HBR2.out y hy).cell 0 hll)
                  clear hd6 hll
                  by_cases h61 : d6 = 61
                  · subst h61
                    have HN := Lib.hid (show opF l = none from by
                      have hL := HLK3.out
                      rw [if_pos HD6.out] at hL
                      rw [HOP.out, ← hL]
                      rfl)
                    go_wp2_with (first | (go_at_call 106; refine HSC.out.mono ?_; rintro e w' ⟨rfl, rfl⟩) | (go_at_call 53; refine HNR.out.mono ?_; rintro e wn ⟨rfl, hb⟩; have HIn := Lib.hid ((HI.out.step hb).step ((Below.refl _ _).alloc (Nat.le_refl _) (.cells #[.string key] 9))); clear hb) | (go_at_call 107; refine (HQ.out _ HIn.out.below).mono ?_; rintro e w2 ⟨rfl, hb⟩; have HI2 := Lib.hid (HIn.out.step hb); have ck : w2.cell? ⟨wn.heap.size, 0, none⟩ = some (.string key) := (by rw [hb.cell (p := ⟨wn.heap.size, 0, none⟩) (by simp)]; exact (Blk.alloc wn _ _).cell 0); have hkl2 : wn.heap.size < w2.heap.size := (Nat.lt_of_lt_of_le (by simp) hb.size); have HCK := Lib.hid ck; have HKL2 := Lib.hid hkl2; have c3 : w2.cell? ⟨ht, 3, none⟩ = some (.slice A0 as_.length c0) := HI2.out.tok.cell 3; have c61 := HC6.out w2 HI2.out.below; clear hb ck hkl2) | ((with_reducible refine Mix.at_st (t := 46) ?_); refine Mix.wpList_store_blk (o := ⟨none, .store 46 _ _, _, _, _, _⟩) rfl 46 _ _ rfl w.heap.size (TK 0 emv emv nil8) rfl rfl 46 (TK 0 emv emv nil8) HI2.out.res (info_tok _ _ _ _) rfl (tk_all _ _ _ _ _ _) ?_; intro W3 hb3 hbu hsz3; have e1 : W3.cell? ⟨w.heap.size, 0, none⟩ = some (.int .i64 0) := hb3.cell 0; have e2 : W3.cell? ⟨w.heap.size, 1, none⟩ = some emv := hb3.cell 1; have e3 : W3.cell? ⟨w.heap.size, 2, none⟩ = some emv := hb3.cell 2; have e4 : W3.cell? ⟨w.heap.size, 3, none⟩ = some nil8 := hb3.cell 3; have HB3 := Lib.hid hb3; have HBU := Lib.hid hbu; have HSZ := Lib.hid hsz3; clear hb3 hbu hsz3))
                    refine bodyPost_ret (v := .tuple #[.agg (TK 0 emv emv nil8), nil8, .bool false]) (by simp [results, Tryz.results86, go_sem, e1, e2, e3, e4]; first | done | exact ⟨rfl, rfl⟩) rfl ⟨by rw [HN.out]; exact rfl, HI2.out.below.trans (HBU.out.below (Nat.le_refl _) HI2.out.below.size)⟩
                  · have v61 : ((d6.toNat : Int) == 61) = false := by
                      have : d6.toNat ≠ 61 := fun h => h61 (by apply UInt8.toNat_inj.1; exact h)
                      simp; omega
                    obtain ⟨val, hval⟩ : ∃ val, val = (⟨#[]⟩ : ByteArray) := ⟨_, rfl⟩
                    obtain ⟨a6, ha6⟩ : ∃ a6, a6 = a5 := ⟨_, rfl⟩
                    obtain ⟨m3, hm3⟩ : ∃ m3, m3 = m2 := ⟨_, rfl⟩
                    obtain ⟨o3, ho3⟩ : ∃ o3, o3 = o2 := ⟨_, rfl⟩
                    have HLQ := Lib.hid (show opL l f o3 (addA as_ key val) = R from by
                      have hL := HLK3.out
                      rw [if_neg (by rw [HD6.out]; intro h; injection h with h; exact h61 h)] at hL
                      rw [hval, ho3]
                      exact hL)
                    subst hval ha6 hm3 ho3
                    have HM3 := HM2
                    have HO3 := HO2
                    have HA6 := HA5
                    clear HLK3
                    have HCF0 := HCFA.out
                    obtain ⟨bc, hbc⟩ : ∃ bc, (as_.any fun x => eqS x.f0 key) = bc := ⟨_, rfl⟩
                    have HBC := Lib.hid hbc
                    have HCF := Lib.hid (show ∀ y b, k70.C y A0 as_.length as_ → y.cell? ⟨b, 0, none⟩ = some (.string key) → b < y.heap.size → Calls Tryz.prog 108 #[.slice A0 as_.length c0, .func (.func 109) #[] #[.pointer (some ⟨b, 0, none⟩)]] y fun e w' => e = .returned (.bool bc) ∧ Below y.heap.size y w' from fun y b h1 h2 h3 => by
                      have h := HCF0 y b h1 h2 h3
                      rw [hbc] at h
                      exact h)
                    clear hbc HCF0
                    cases bc with
                    | true =>
                      go_wp2_with (first | (go_at_call 106; refine HSC.out.mono ?_; rintro e w' ⟨rfl, rfl⟩) | (go_at_call 53; refine HNR.out.mono ?_; rintro e wn ⟨rfl, hb⟩; have HIn := Lib.hid ((HI.out.step hb).step ((Below.refl _ _).alloc (Nat.le_refl _) (.cells #[.string key] 9))); clear hb) | (go_at_call 107; refine (HQ.out _ HIn.out.below).mono ?_; rintro e w2 ⟨rfl, hb⟩; have HI2 := Lib.hid (HIn.out.step hb); have ck : w2.cell? ⟨wn.heap.size, 0, none⟩ = some (.string key) := (by rw [hb.cell (p := ⟨wn.heap.size, 0, none⟩) (by simp)]; exact (Blk.alloc wn _ _).cell 0); have hkl2 : wn.heap.size < w2.heap.size := (Nat.lt_of_lt_of_le (by simp) hb.size); have HCK := Lib.hid ck; have HKL2 := Lib.hid hkl2; have c3 : w2.cell? ⟨ht, 3, none⟩ = some (.slice A0 as_.length c0) := HI2.out.tok.cell 3; have c61 := HC6.out w2 HI2.out.below; clear hb ck hkl2) | (go_at_call 108; refine (HCF.out _ _ (Kd.R_reads' HI2.out.row).2.2 HCK.out HKL2.out).mono ?_; rintro e w3 ⟨rfl, hb⟩; have HI3 := Lib.hid (HI2.out.step hb); have ck3 : w3.cell? ⟨wn.heap.size, 0, none⟩ = some (.string key) := (by rw [hb.cell (p := ⟨wn.heap.size, 0, none⟩) HKL2.out]; exact HCK.out); have c33 : w3.cell? ⟨ht, 3, none⟩ = some (.slice A0 as_.length c0) := HI3.out.tok.cell 3; clear hb c3))
                      go_roundw
                      case rel => exact ⟨f, o3, a6, m3, _, as_, rfl, by have := HM3.out; omega, Lib.hid HM3.out, HA6, HI3, Lib.hid (by have h := HLQ.out; unfold addA at h; rw [HBC.out] at h; exact h), Lib.hid (by have := HF.out; have := HM3.out; have := HO3.out; have := HO.out; omega), Lib.hid (by have := HAL.out; have := HO3.out;  omega)⟩
                      case measure => show slz _ < slz _; have := HM3.out; have := HO3.out; have := HO.out; simp only [slz]; omega
                    | false =>
                      go_wp2_with (first | (go_at_call 106; refine HSC.out.mono ?_; rintro e w' ⟨rfl, rfl⟩) | (go_at_call 53; refine HNR.out.mono ?_; rintro e wn ⟨rfl, hb⟩; have HIn := Lib.hid ((HI.out.step hb).step ((Below.refl _ _).alloc (Nat.le_refl _) (.cells #[.string key] 9))); clear hb) | (go_at_call 107; refine (HQ.out _ HIn.out.below).mono ?_; rintro e w2 ⟨rfl, hb⟩; have HI2 := Lib.hid (HIn.out.step hb); have ck : w2.cell? ⟨wn.heap.size, 0, none⟩ = some (.string key) := (by rw [hb.cell (p := ⟨wn.heap.size, 0, none⟩) (by simp)]; exact (Blk.alloc wn _ _).cell 0); have hkl2 : wn.heap.size < w2.heap.size := (Nat.lt_of_lt_of_le (by simp) hb.size); have HCK := Lib.hid ck; have HKL2 := Lib.hid hkl2; have c3 : w2.cell? ⟨ht, 3, none⟩ = some (.slice A0 as_.length c0) := HI2.out.tok.cell 3; have c61 := HC6.out w2 HI2.out.below; clear hb ck hkl2) | (go_at_call 108; refine (HCF.out _ _ (Kd.R_reads' HI2.out.row).2.2 HCK.out HKL2.out).mono ?_; rintro e w3 ⟨rfl, hb⟩; have HI3 := Lib.hid (HI2.out.step hb); have ck3 : w3.cell? ⟨wn.heap.size, 0, none⟩ = some (.string key) := (by rw [hb.cell (p := ⟨wn.heap.size, 0, none⟩) HKL2.out]; exact HCK.out); have c33 : w3.cell? ⟨ht, 3, none⟩ = some (.slice A0 as_.length c0) := HI3.out.tok.cell 3; clear hb c3) | (at_builtin; refine Kd.R_append k70 (w0 := w) w.heap.size rfl _ _ 44 70 (.agg #[.string ⟨#[]⟩, .string ⟨#[]⟩]) 32 rfl Tryz.underlying44 info_attr rfl (by decide) (by decide) (.slice A0 as_.length c0) as_ ⟨key, ⟨#[]⟩⟩ [.string key, .string ⟨#[]⟩] (fun _ => True) (fun _ => False) rfl rfl (k70_mkM _ _ _ ⟨key, ⟨#[]⟩⟩) (fun _ h => h.elim) (fun _ _ => trivial) HI3.out.row HI3.out.below HI3.out.below.size HALB.out ?_; intro v1 w4 hr hb4 hg4 hat4; have HI4 := Lib.hid (opI_app HI3.out hr hb4 hg4); obtain ⟨A1, c1', hv1⟩ := Kd.R_slice hr; rw [List.length_append, List.length_singleton] at hv1; subst hv1; have c34 : w4.cell? ⟨ht, 3, none⟩ = some (.slice A0 as_.length c0) := HI4.out.1.cell 3; have f34 := HI4.out.1.free 3; clear hr hb4 hg4 hat4))
                      go_roundw
                      case rel => exact ⟨f, o3, a6, m3, _, as_ ++ [⟨key, ⟨#[]⟩⟩], rfl, by have := HM3.out; omega, Lib.hid HM3.out, HA6, Lib.hid HI4.out.2, Lib.hid (by have h := HLQ.out; unfold addA at h; rw [HBC.out] at h; exact h), Lib.hid (by have := HF.out; have := HM3.out; have := HO3.out; have := HO.out; omega), Lib.hid (by have := HAL.out; have := HO3.out; rw [List.length_append, List.length_singleton]; omega)⟩
                      case measure => show slz _ < slz _; have := HM3.out; have := HO3.out; have := HO.out; simp only [slz]; omega
end Go.Proofs.YtkjgnkmnngaioaaGreat.Q
namespace Go.Proofs.YtkjgnkmnngaioaaGreat.Q
open Go.RowKit Go.Proofs.YtkjgnkmnngaioaaGreat.Mem
set_option linter.unusedVariables false
set_option linter.unusedSimpArgs false
def os (a : Nat) : ByteArray := ([⟨#[38]⟩, ⟨#[60]⟩, ⟨#[62]⟩, ⟨#[34]⟩] : List ByteArray).getD a ⟨#[]⟩
def ns (a : Nat) : ByteArray := ([⟨#[38, 97, 109, 112, 59]⟩, ⟨#[38, 108, 116, 59]⟩, ⟨#[38, 103, 116, 59]⟩, ⟨#[38, 113, 117, 111, 116, 59]⟩] : List ByteArray).getD a ⟨#[]⟩
theorem os_size {a : Nat} (h : a < 4) : (os a).size = 1 := by
  have : a = 0 ∨ a = 1 ∨ a = 2 ∨ a = 3 := by omega
  rcases this with rfl | rfl | rfl | rfl <;> rfl
theorem ns_size {a : Nat} (h : a < 4) : 4 ≤ (ns a).size ∧ (ns a).size ≤ 6 := by
  have : a = 0 ∨ a = 1 ∨ a = 2 ∨ a = 3 := by omega
  rcases this with rfl | rfl | rfl | rfl <;> decide
/-- The replacer's block: what each byte is replaced by, and the bytes that are. -/
def BSB (f : Nat → Value) (tr : Value) : Array Value := ((List.range 256).map f ++ [tr]).toArray
abbrev nlb : Value := .slice none 0 0
theorem bsb_zero : Tryz.zeroCells179 = BSB (fun _ => nlb) nlb := by kernel_rfl
theorem bsb_at {f : Nat → Value} {tr : Value} {c : Nat} (h : c < 256) : (BSB f tr)[c]? = some (f c) := by
  unfold BSB
  rw [List.getElem?_toArray, List.getElem?_append_left (by simpa using h), List.getElem?_map, List.getElem?_range h]
  rfl
theorem bsb_tr {f : Nat → Value} {tr : Value} : (BSB f tr)[256]? = some tr := by
  unfold BSB
  rw [List.getElem?_toArray, List.getElem?_append_right (by simp)]
  simp
theorem bsb_set_tr {f : Nat → Value} {tr tr' : Value} : (BSB f tr).setIfInBounds 256 tr' = BSB f tr' := by
  unfold BSB
  rw [List.setIfInBounds_toArray, List.set_append_right _ _ (by simp)]
  simp
theorem bsb_set {f : Nat → Value} {tr v : Value} {c : Nat} (h : c < 256) : (BSB f tr).setIfInBounds c v = BSB (fun i => if i = c then v else f i) tr := by
  unfold BSB
  rw [List.setIfInBounds_toArray, List.set_append_left _ _ (by simpa using h)]
  congr 2
  apply List.ext_getElem?
  intro i
  rw [List.getElem?_set, List.getElem?_map, List.getElem?_map, List.length_map, List.length_range]
  by_cases hi : i < 256
  · rw [List.getElem?_range hi]
    by_cases hc : c = i
    · subst hc; rw [if_pos rfl, if_pos h]; simp
    · rw [if_neg hc]; simp [Ne.symm hc]
  · rw [List.getElem?_eq_none (by rw [List.length_range]; omega), if_neg (by omega)]; rfl
theorem store_whole (W : World) (q n : Nat) (v : Value) (cur : Array Value) (T : TypeId) (hv : v.oneCell' = true) (hc : ∀ u ∈ cur.toList, u.oneCell' = true) (hB : Blk W q cur T) :
    ∃ W', (storeCells ⟨q, 0, none⟩ (cur.toList.set n v)).run Tryz.prog W = .ok () W' ∧ Blk W' q (cur.setIfInBounds n v) T ∧ But q W W' ∧ W'.heap.size = W.heap.size := by
  have h1 : ∀ u ∈ cur.toList.set n v, u.oneCell' = true := fun u hu => by
    rcases List.mem_or_eq_of_mem_set hu with h | h
    · exact hc u h
    · rw [h]; exact hv
  have hs := run_storeCells_at (P := Tryz.prog) q 0 T (cur.toList.set n v) 0 cur W hB (by rw [List.length_set, Array.length_toList]; omega) h1
  refine ⟨_, hs, ?_, ⟨rfl, rfl, rfl, by simp [World.setRow], fun k _ hk => setRow_other _ _ _ _ hk⟩, by simp [World.setRow]⟩
  have := setRow_heap W q cur (List.take (0 + 0) cur.toList ++ cur.toList.set n v ++ List.drop (0 + 0 + (cur.toList.set n v).length) cur.toList).toArray T (0, 0) hB
  have e : (List.take (0 + 0) cur.toList ++ cur.toList.set n v ++ List.drop (0 + 0 + (cur.toList.set n v).length) cur.toList).toArray = cur.setIfInBounds n v := by
    rw [List.drop_of_length_le (by rw [List.length_set]; omega), List.append_nil]
    apply Array.ext'
    simp
  rw [e] at this
  rw [e]
  exact this
theorem bsb_one : ∀ u ∈ (BSB (fun _ => nlb) nlb).toList, u.oneCell' = true := fun u h => by
  unfold BSB at h
  rw [List.mem_append, List.mem_map, List.mem_singleton] at h
  rcases h with ⟨_, _, h⟩ | h
  · rw [← h]; rfl
  · rw [h]; rfl
theorem bsb_store (W : World) (q : Nat) (v : Value) (hv : v.oneCell' = true) (hB : Blk W q (BSB (fun _ => nlb) nlb) 179) :
    ∃ W', (storeCells ⟨q, 0, none⟩ ((BSB (fun _ => nlb) nlb).toList.set 256 v)).run Tryz.prog W = .ok () W' ∧ Blk W' q (BSB (fun _ => nlb) v) 179 ∧ But q W W' ∧ W'.heap.size = W.heap.size := by
  have := store_whole W q 256 v _ _ hv bsb_one hB
  rw [bsb_set_tr] at this
  exact this
/-- A row of bytes that reads so. -/
def Rp (W : World) (v : Value) (n : ByteArray) : Prop := ∃ (g cap : Nat) (cur : Array Value) (fz : Nat × Nat), v = .slice (some ⟨g, 0, none⟩) n.size cap ∧ W.heap[g]? = some (.cells cur 5 fz) ∧ ∀ j (hj : j < n.size), cur[j]? = some (.int .u8 n[j].toNat)
theorem Rp.keep {W W' : World} {v : Value} {n : ByteArray} (h : Rp W v n) (hk : ∀ (g : Nat) (cur : Array Value) (fz : Nat × Nat), W.heap[g]? = some (.cells cur 5 fz) → W'.heap[g]? = W.heap[g]?) : Rp W' v n := by
  obtain ⟨g, cap, cur, fz, h1, h2, h3⟩ := h
  exact ⟨g, cap, cur, fz, h1, (hk g cur fz h2).trans h2, h3⟩
theorem own_keep {W W' : World} {base n : Nat} {v : Value} {xs : List Value} (h : W.ownsRow base 9 1 v n xs) (hk : ∀ (g : Nat) (cur : Array Value), W.heap[g]? = some (.cells cur 9 (0, 0)) → W'.heap[g]? = W.heap[g]?) : W'.ownsRow base 9 1 v n xs := by
  refine ⟨h.1, ?_⟩
  rcases h.2 with h | ⟨g, cap, cur, h1, h2, h3, h4⟩
  · exact .inl h
  · exact .inr ⟨g, cap, cur, h1, h2, (hk g cur h3).trans h3, h4⟩
theorem own_sl {w : World} {base : Nat} {e : TypeId} {v : Value} {n : Nat} {xs : List Value} (h : w.ownsRow base e 1 v n xs) : ∃ A c, v = .slice A n c := by
  rcases h.2 with ⟨rfl, rfl⟩ | ⟨g, cap, cur, rfl, -⟩
  · exact ⟨_, _, rfl⟩
  · exact ⟨_, _, rfl⟩
def oby (a : Nat) : Nat := ([38, 60, 62, 34] : List Nat).getD a 0
theorem ob_os {a : Nat} (h : a < 4) : ∃ h' : 0 < (os a).size, (os a)[0].toNat = oby a := by
  have : a = 0 ∨ a = 1 ∨ a = 2 ∨ a = 3 := by omega
  rcases this with rfl | rfl | rfl | rfl <;> exact ⟨by decide, rfl⟩
theorem own_nt {w : World} {base n q : Nat} {v : Value} {xs : List Value} {cs : Array Value} {T : TypeId} {fz : Nat × Nat} (h : w.ownsRow base 9 1 v n xs) (hb : w.heap[q]? = some (.cells cs T fz)) (hT : T ≠ 9) : some q ≠ v.ownBlock := by
  rcases h.2 with ⟨rfl, -⟩ | ⟨g, cap, cur, rfl, -, hg, -⟩
  · exact fun e => by cases e
  · intro e
    cases e
    have hb' : w.heap[g]? = some (.cells cs T fz) := hb
    rw [hb'] at hg
    cases hg
    exact hT rfl
theorem os_one {a : Nat} (h : a < 4) : ∀ h' : 0 < (os a).size, (⟨[(os a)[0]'h'].toArray⟩ : ByteArray) = os a := by
  have : a = 0 ∨ a = 1 ∨ a = 2 ∨ a = 3 := by omega
  rcases this with rfl | rfl | rfl | rfl <;> exact fun _ => rfl
theorem ob_lt {a : Nat} (h : a < 4) : oby a < 256 := by
  have : a = 0 ∨ a = 1 ∨ a = 2 ∨ a = 3 := by omega
  rcases this with rfl | rfl | rfl | rfl <;> decide
theorem ob_inj {a b : Nat} (h : a < 4) (h' : b < 4) (e : oby a = oby b) : a = b := by
  have : a = 0 ∨ a = 1 ∨ a = 2 ∨ a = 3 := by omega
  have : b = 0 ∨ b = 1 ∨ b = 2 ∨ b = 3 := by omega
  rcases ‹a = 0 ∨ _› with rfl | rfl | rfl | rfl <;> rcases ‹b = 0 ∨ _› with rfl | rfl | rfl | rfl <;> first | rfl | (exact absurd e (by decide))
/-- What stands when `k` of `np` bytes are put in, the last ones first. -/
structure BsS (q base np k : Nat) (f : Nat → Value) (tr : Value) (W : World) : Prop where
  blk : Blk W q (BSB f tr) 179
  own : W.ownsRow base 9 1 tr k ((List.range k).map fun j => .string (os (np - 1 - j)))
  done : ∀ a, a < np → np - k ≤ a → Rp W (f (oby a)) (ns a)
  rest : ∀ c, c < 256 → (∀ a, a < np → np - k ≤ a → c ≠ oby a) → f c = nlb
  ge : base ≤ q
/-- The replacer of `np` bytes. -/
def Bs (q base np : Nat) (W : World) : Prop := ∃ f tr, BsS q base np np f tr W
theorem bs_step {q base np k a1 c cap : Nat} {f : Nat → Value} {tr v1 : Value} {W w1 : World} {fz : Nat × Nat} (ha : a1 + k + 1 = np) (hnp : np ≤ 4) (hc : c = oby a1) (HS : BsS q base np k f tr W)
    (hB : Blk w1 q (BSB f tr) 179) (hu : ∀ (g : Nat) (cur : Array Value) (fz : Nat × Nat), W.heap[g]? = some (.cells cur 5 fz) → w1.heap[g]? = W.heap[g]?)
    (ho : w1.ownsRow base 9 1 v1 (k + 1) (((List.range k).map fun j => .string (os (np - 1 - j))) ++ [.string (os a1)])) :
    BsS q base np (k + 1) (fun i => if i = c then .slice (some ⟨w1.heap.size, 0, none⟩) (ns a1).size cap else f i) v1
      ((((w1.setCell ⟨q, 256, none⟩ v1).drew.alloc (.cells (bytesRow (ns a1) cap) 5 fz)).setCell ⟨q, c, none⟩ (.slice (some ⟨w1.heap.size, 0, none⟩) (ns a1).size cap))) := by
  subst hc
  have hq : q < w1.heap.size := hB.lt
  have hsz : (w1.setCell ⟨q, 256, none⟩ v1).heap.size = w1.heap.size := by simp [World.setCell]
  have hk : ∀ g, g < w1.heap.size → g ≠ q → ((((w1.setCell ⟨q, 256, none⟩ v1).drew.alloc (.cells (bytesRow (ns a1) cap) 5 fz)).setCell ⟨q, oby a1, none⟩ (.slice (some ⟨w1.heap.size, 0, none⟩) (ns a1).size cap))).heap[g]? = w1.heap[g]? := fun g hg hn => by
    rw [Below.heap_setCell _ _ _ _ hn, Below.heap_alloc _ _ _ (by show g < (w1.setCell ⟨q, 256, none⟩ v1).heap.size; rw [hsz]; exact hg)]
    exact Below.heap_setCell _ _ _ _ hn
  have hlt : ∀ g (o : Obj), w1.heap[g]? = some o → g < w1.heap.size := fun g o h => by
    rcases Nat.lt_or_ge g w1.heap.size with h1 | h1
    · exact h1
    · rw [Array.getElem?_eq_none h1] at h; cases h
  have hb := hB
  unfold Blk at hb
  refine ⟨?_, own_keep (xs := (List.range (k + 1)).map fun j => .string (os (np - 1 - j))) ?_ (fun g cur h => hk g (hlt g _ h) (fun e => by subst e; rw [hb] at h; cases h)), fun a h1 h2 => ?_, fun i h1 h2 => ?_, HS.ge⟩
  · have h1 := hB.set 256 v1
    rw [bsb_set_tr] at h1
    have h2 := ((h1.drew).alloc_old (.cells (bytesRow (ns a1) cap) 5 fz)).set (oby a1) (.slice (some ⟨w1.heap.size, 0, none⟩) (ns a1).size cap)
    rw [bsb_set (ob_lt (by omega))] at h2
    exact h2
  · have e : (List.range (k + 1)).map (fun j => Value.string (os (np - 1 - j))) = ((List.range k).map fun j => Value.string (os (np - 1 - j))) ++ [Value.string (os a1)] := by
      rw [List.range_succ, List.map_append]
      show _ ++ [Value.string (os (np - 1 - k))] = _
      rw [show np - 1 - k = a1 from by omega]
    rw [e]; exact ho
  · by_cases e : a = a1
    · subst e
      show Rp _ (if oby a = oby a then _ else _) _
      rw [if_pos rfl]
      refine ⟨w1.heap.size, cap, bytesRow (ns a) cap, fz, rfl, ?_, fun j hj => bytesRow_at _ _ _ hj⟩
      rw [Below.heap_setCell _ _ _ _ (by show w1.heap.size ≠ q; omega)]
      show ((w1.setCell ⟨q, 256, none⟩ v1).heap.push _)[w1.heap.size]? = _
      rw [Array.getElem?_push, if_pos hsz.symm]
    · show Rp _ (if oby a = oby a1 then _ else _) _
      rw [if_neg (fun h => e (ob_inj (by omega) (by omega) h))]
      refine ((HS.done a h1 (by omega)).keep hu).keep fun g cur fz h => hk g (hlt g _ h) (fun e => by subst e; rw [hb] at h; cases h)
  · show (if i = oby a1 then _ else _) = _
    rw [if_neg (h2 a1 (by omega) (by omega))]
    exact HS.rest i h1 fun a h3 h4 => h2 a h3 (by omega)
theorem bs_cell {q c a1 : Nat} {x1 : World} {f : Nat → Value} {tr v : Value} (hB : Blk x1 q (BSB f tr) 179) (hc : c = oby a1) (h : a1 < 4) (hof : f (oby a1) = nlb) (C : Array Value) (fz : Nat × Nat) :
    ((x1.setCell ⟨q, 256, none⟩ v).alloc (.cells C 5 fz)).cell? ⟨q, c, none⟩ = some nlb ∧ ((x1.setCell ⟨q, 256, none⟩ v).alloc (.cells C 5 fz)).frozen? ⟨q, c, none⟩ = false := by
  have hb : Blk ((x1.setCell ⟨q, 256, none⟩ v).alloc (.cells C 5 fz)) q _ _ := (Below.heap_alloc _ _ _ (hB.set 256 v).lt).trans (hB.set 256 v)
  refine ⟨?_, hb.free _⟩
  rw [hb.cell, bsb_set_tr, hc, bsb_at (ob_lt h), hof]
theorem bs_app {q base np k : Nat} {f : Nat → Value} {tr : Value} {w x1 : World} {o1 o2 : Obj} (HS : BsS q base np k f tr w) (hg : ((w.alloc o1).alloc o2).grownBy x1 tr.ownBlock) :
    Blk x1 q (BSB f tr) 179 ∧ ∀ (g : Nat) (cur : Array Value) (fz : Nat × Nat), w.heap[g]? = some (.cells cur 5 fz) → x1.heap[g]? = w.heap[g]? := by
  refine ⟨((HS.blk.alloc_old _).alloc_old _).of_block (hg.block q ((HS.blk.alloc_old _).alloc_old _).lt (own_nt HS.own HS.blk (by decide))), fun g cur fz hh => ?_⟩
  have hl : g < w.heap.size := by
    rcases Nat.lt_or_ge g w.heap.size with h5 | h5
    · exact h5
    · rw [Array.getElem?_eq_none h5] at hh; cases hh
  rw [hg.block g (by simp; omega) (own_nt HS.own hh (by decide)), Below.heap_alloc _ _ _ (by simp; omega), Below.heap_alloc _ _ _ hl]
theorem bs_below {q base np k c : Nat} {f : Nat → Value} {tr v v' : Value} {w x1 : World} {o1 o2 o : Obj} (HS : BsS q base np k f tr w) (hg : ((w.alloc o1).alloc o2).grownBy x1 tr.ownBlock) (hb : base ≤ w.heap.size) :
    Below base w (((x1.setCell ⟨q, 256, none⟩ v).drew.alloc o).setCell ⟨q, c, none⟩ v') := by
  have hs1 : w.heap.size + 2 ≤ x1.heap.size := by have := hg.size; simp at this; omega
  have hsz : (x1.setCell ⟨q, 256, none⟩ v).heap.size = x1.heap.size := by simp [World.setCell]
  refine ⟨hg.os, hg.tape, hg.output, ?_, fun g h => ?_⟩
  · have : (((x1.setCell ⟨q, 256, none⟩ v).drew.alloc o).setCell ⟨q, c, none⟩ v').heap.size = x1.heap.size + 1 := by simp [World.setCell]
    omega
  · have hn : g ≠ q := by have := HS.ge; omega
    have ho : some g ≠ tr.ownBlock := by
      rcases HS.own.2 with ⟨rfl, -⟩ | ⟨g', cap, cur, rfl, h1, -⟩
      · exact fun e => by cases e
      · intro e
        cases e
        have h1' : base ≤ _ := h1
        have h' := h
        exact absurd (Nat.lt_of_lt_of_le h' h1') (Nat.lt_irrefl _)
    rw [Below.heap_setCell _ _ _ _ hn, Below.heap_alloc _ _ _ (by show g < (x1.setCell ⟨q, 256, none⟩ v).heap.size; omega)]
    show (x1.setCell ⟨q, 256, none⟩ v).heap[g]? = _
    rw [Below.heap_setCell _ _ _ _ hn, hg.block g (by simp; omega) ho, Below.heap_alloc _ _ _ (by simp; omega), Below.heap_alloc _ _ _ (by omega)]
set_option maxRecDepth 100000 in
set_option maxHeartbeats 1600000 in
theorem bs_build (b ob c m np : Nat) (w : World) (hm : m = 2 * np) (hnp : np = 3 ∨ np = 4) (h4 : w.cell? ⟨b, 4, none⟩ = some (.slice (some ⟨ob, 0, none⟩) m c)) (hK : ∀ a, a < np → w.cell? ⟨ob, 2 * a, none⟩ = some (.string (os a)) ∧ w.cell? ⟨ob, 2 * a + 1, none⟩ = some (.string (ns a))) :
    Calls Tryz.prog 112 #[.pointer (some ⟨b, 0, none⟩)] w fun e w' => ∃ q, e = .returned (.iface 180 (.pointer (some ⟨q, 0, none⟩))) ∧ Bs q w.heap.size np w' ∧ Below w.heap.size w w' := by
  have HK := Lib.hid hK
  have HM := Lib.hid hm
  have hnp1 : 3 ≤ np ∧ np ≤ 4 := by omega
  have m0 : ((m : Int) == 2) = false := by simp; omega
  have hq : ∀ (w : World) (a : Option Addr) (n c n' c' : Nat), (binOp .eql 72 (.slice a n c) (.slice none n' c')).run Tryz.prog w = .ok (.bool a.isNone) w := fun w a n c n' c' => Lib.run_eql_slice_nil w _ _ a n c n' c' Tryz.underlying72
  clear hK hm hnp
  go_enter Tryz.func112, Tryz.ntmps112
  go_wp2_with fail
  go_loopw [4, 5] (fun bv iv wr => ∃ a ia : Nat, Hid (ia = 2 * a) ∧ ia ≤ m ∧ bv = .bool (decide (a = 0)) ∧ iv = .int .i64 (ia : Int) ∧ Hid (wr = w)) (fun _ iv _ => m - (intOf iv).toNat)
  case atStart => exact ⟨0, 0, Lib.hid rfl, by omega, rfl, rfl, by first | exact Lib.hid rfl | exact Lib.hid trivial⟩
  case round =>
    obtain ⟨a, ia, HIA, hia, rfl, rfl, HWR⟩ := hrel
    obtain rfl : w = wr := HWR.out.symm
    clear HWR
    by_cases hi : ia < m
    · have h4' : a < np := by have := HIA.out; have := HM.out; omega
      have hk0 : w.cell? ⟨ob, ia, none⟩ = some (.string (os a)) := by rw [HIA.out]; exact (HK.out a h4').1
      have hk1 : w.cell? ⟨ob, ia + 1, none⟩ = some (.string (ns a)) := by rw [HIA.out]; exact (HK.out a h4').2
      have z0 : (((os a).size : Int) != 1) = false := by rw [os_size (by omega)]; rfl
      have z1 : (((ns a).size : Int) != 1) = true := by have := ns_size (a := a) (by omega); simp; omega
      have u1 : (ia : Int) < (m : Int) := by omega
      have u2 : (0 : Int) ≤ (ia : Int) := by omega
      have u3 : (ia : Int) + 1 < (m : Int) := by have := HIA.out; have := HM.out; omega
      have u4 : (m : Int) ≤ 8 := by have := HM.out; omega
      generalize os a = o at *
      generalize ns a = n at *
      go_wp2_with fail
      go_roundw
      case rel => exact ⟨a + 1, ia + 2, Lib.hid (by have := HIA.out; omega), by have := HIA.out; have := HM.out; omega, by simp, by go_num, by first | exact Lib.hid rfl | exact Lib.hid trivial⟩
      case measure => simp [intOf]; omega
    · have u1 : ¬ (ia : Int) < (m : Int) := by omega
      have ha : decide (a = 0) = false := by have := HIA.out; have := HM.out; simp; omega
      rw [ha]
      have HDA := Lib.hid ha
      clear ha
      obtain ⟨i0, hi0, hzz⟩ : ∃ i0, Tryz.prog.info? 9 = some i0 ∧ (i0.zero, i0.size, i0.bytes) = (some (.string ⟨#[]⟩), 1, 16) := Option.map_eq_some_iff.1 (show (Tryz.prog.info? 9).map (fun i => (i.zero, i.size, i.bytes)) = some (some (.string ⟨#[]⟩), 1, 16) by kernel_rfl)
      simp only [Prod.mk.injEq] at hzz
      obtain ⟨hz0, hz1, hz2⟩ := hzz
      obtain ⟨w1, hrun, hown, hgr⟩ := run_make_own (P := Tryz.prog) w w.heap.size 87 9 i0 (.string ⟨#[]⟩) 1 Tryz.underlying87 hi0 hz0 hz1 .i64 .i64 np (by rw [hz2]; omega) (by unfold maxLen; omega) (Nat.le_refl _)
      have hdv : wrap64 ((m : Int) / 2) = (np : Int) := by have := HM.out; rw [IntWalk.wrap64_in _ (by omega)]; omega
      rw [← hdv] at hrun
      have HOWN := Lib.hid hown
      have HGR := Lib.hid hgr
      have HDV := Lib.hid hdv
      have HI0 := Lib.hid hi0
      have HZI0 := Lib.hid hz0
      have HZI1 := Lib.hid hz1
      have HZI2 := Lib.hid hz2
      clear hi0 hz0 hz1 hz2 hown hgr hdv
      have hal := Blk.alloc w1 Tryz.zeroCells179 179
      rw [bsb_zero] at hal
      obtain ⟨W2, hst, hB2, hZ2, hS2⟩ := bsb_store _ _ (.slice (some ⟨w.heap.size, 0, none⟩) 0 np) rfl hal
      rw [← bsb_zero] at hst
      have HB2 := Lib.hid hB2
      have HZ2 := Lib.hid hZ2
      have HS2 := Lib.hid hS2
      clear hal hB2 hZ2 hS2
      go_upto_region 27 with (fail)
      clear hst hrun
      have HS0 := Lib.hid (show BsS w1.heap.size w.heap.size np 0 (fun _ => nlb) (.slice (some ⟨w.heap.size, 0, none⟩) 0 np) W2 from by
        refine ⟨HB2.out, ?_, fun a h1 h2 => by omega, fun _ _ _ => rfl, HGR.out.size⟩
        have h1 := HOWN.out.alloc (.cells (BSB (fun _ => nlb) nlb) 179)
        refine ⟨h1.1, ?_⟩
        rcases h1.2 with h | ⟨g, cap, cur, e1, e2, e3, e4⟩
        · exact .inl h
        · refine .inr ⟨g, cap, cur, e1, e2, ?_, e4⟩
          rw [HZ2.out.block g (by rcases Nat.lt_or_ge g _ with h5 | h5; exact h5; rw [Array.getElem?_eq_none h5] at e3; cases e3) (fun e => by
            have := HB2.out
            have h6 : (w1.alloc (.cells (BSB (fun _ => nlb) nlb) 179)).heap[w1.heap.size]? = some (.cells (BSB (fun _ => nlb) nlb) 179 (0, 0)) := Blk.alloc w1 _ _
            subst e
            rw [h6] at e3
            cases e3)]
          exact e3)
      have HW0 := Lib.hid (show Below w.heap.size w W2 from
        ((show Below w.heap.size w w1 from ⟨HGR.out.os, HGR.out.tape, HGR.out.output, HGR.out.size, fun k hk => HGR.out.block k hk (by simp)⟩).alloc HGR.out.size _).trans (HZ2.out.below HGR.out.size (by have := HGR.out.size; simp; omega)))
      obtain ⟨q, hq'⟩ : ∃ q, q = w1.heap.size := ⟨_, rfl⟩
      rw [← hq'] at HS0 ⊢
      clear HB2 HZ2 HS2 HGR HOWN hq'
      go_wp2_with fail
      go_loopw [12] (fun iv wz => ∃ (k : Nat) (x : Int) (f : Nat → Value) (tr : Value), Hid (x = 2 * ((np : Int) - 1 - k)) ∧ k ≤ np ∧ -2 ≤ x ∧ x ≤ 6 ∧ iv = .int .i64 x ∧ Hid (BsS q w.heap.size np k f tr wz) ∧ Hid (Below w.heap.size w wz)) (fun iv _ => (intOf iv + 2).toNat)
      case atStart =>
        first
          | exact ⟨0, wrap64 ((m : Int) - 2), _, _, Lib.hid (by have := HM.out; rw [IntWalk.wrap64_in _ (by omega)]; omega), by omega, by have := HM.out; rw [IntWalk.wrap64_in _ (by omega)]; omega, by have := HM.out; rw [IntWalk.wrap64_in _ (by omega)]; omega, rfl, HS0, HW0⟩
          | exact ⟨0, (m : Int) - 2, _, _, Lib.hid (by have := HM.out; omega), by omega, by have := HM.out; omega, by have := HM.out; omega, rfl, HS0, HW0⟩
      case round =>
        clear HS0 HW0
        obtain ⟨k, x, f, tr, HX, hk, hx1, hx2, rfl, HS, HW⟩ := hrel
        by_cases hx : 0 ≤ x
        · obtain ⟨a1, ha1⟩ : ∃ a1, a1 + k + 1 = np := ⟨np - 1 - k, by have := HX.out; omega⟩
          obtain ⟨y, hy⟩ : ∃ y, y = 2 * a1 := ⟨_, rfl⟩
          obtain rfl : x = (y : Int) := by have := HX.out; omega
          have HA1 := Lib.hid ha1
          have HY := Lib.hid hy
          have hob : ob < w.heap.size := by
            have := (HK.out 0 (by omega)).1
            unfold World.cell? at this
            rcases Nat.lt_or_ge ob w.heap.size with h | h
            · exact h
            · rw [show w.heap[ob]? = none from Array.getElem?_eq_none h] at this; cases this
          have k0 : wr.cell? ⟨ob, y, none⟩ = some (.string (os a1)) := by
            have := (HK.out a1 (by omega)).1
            rw [← hy] at this
            unfold World.cell? at this ⊢
            rw [HW.out.block ob hob]; exact this
          have k1 : wr.cell? ⟨ob, y + 1, none⟩ = some (.string (ns a1)) := by
            have := (HK.out a1 (by omega)).2
            rw [← hy] at this
            unfold World.cell? at this ⊢
            rw [HW.out.block ob hob]; exact this
          have hm8 : (m : Int) ≤ 8 := by have := HM.out; omega
          have v1 : (y : Int) < (m : Int) := by have := HM.out; omega
          have v2 : (0 : Int) ≤ (y : Int) := by omega
          have v3 : (y : Int) + 1 < (m : Int) := by have := HM.out; omega
          have v4 : (os a1).size = 1 := os_size (by omega)
          obtain ⟨p0, e0⟩ := ob_os (a := a1) (by omega)
          have hof : f (oby a1) = nlb := HS.out.rest _ (ob_lt (by omega)) (fun a h1 h2 e => by have := ob_inj (by omega) (by omega) e; omega)
          have l0 : wr.cell? ⟨q, ((os a1)[0]'p0).toNat, none⟩ = some (.slice none 0 0) := by
            rw [HS.out.blk.cell, e0, bsb_at (ob_lt (by omega)), hof]
          have l1 : wr.cell? ⟨q, 256, none⟩ = some tr := by rw [HS.out.blk.cell]; exact bsb_tr
          have hcv : (convert 72 9 (.slice (some ⟨wr.heap.size, 0, none⟩) 1 1)).run Tryz.prog (wr.alloc (.cells #[.int .u8 (((os a1)[0]'p0).toNat : Int)] 5)) = .ok (.string (os a1)) (wr.alloc (.cells #[.int .u8 (((os a1)[0]'p0).toNat : Int)] 5)) := by
            have := run_convert_bytes_back (P := Tryz.prog) (wr.alloc (.cells #[.int .u8 (((os a1)[0]'p0).toNat : Int)] 5)) 72 9 5 ⟨wr.heap.size, 0, none⟩ 1 [(os a1)[0]'p0] Tryz.underlying72 Tryz.underlying5 Tryz.underlying9 (fun j hj => by
              obtain rfl : j = 0 := by simpa using hj
              exact (Blk.alloc wr _ _).cell 0)
            rw [os_one (by omega)] at this
            exact this
          have hbs : ∀ W : World, (convert 9 72 (.string (ns a1))).run Tryz.prog W = _ := fun W => run_bytes_of_string (P := Tryz.prog) W 9 72 5 (ns a1) Tryz.underlying9 Tryz.underlying72 Tryz.underlying5
          have HE0 := Lib.hid e0
          have HOF := Lib.hid hof
          have v5 : ((((os a1)[0]'p0).toNat : Nat) : Int) < 256 := by have := ob_lt (a := a1) (by omega); rw [e0]; omega
          obtain ⟨A0, c0', htr⟩ := own_sl HS.out.own
          subst htr
          clear ha1 hy hob hm8 hof e0
          go_wp2_with (at_builtin; refine wpList_append_own _ rfl _ _ 87 rfl w.heap.size 9 i0 (.string ⟨#[]⟩) 1 16 Tryz.underlying87 HI0.out HZI0.out HZI1.out HZI2.out rfl (by decide) (.slice A0 k c0') k _ rfl ((HS.out.own.alloc _).alloc _) ⟨wr.heap.size + 1, 0, none⟩ 1 1 [.string (os a1)] rfl rfl (by intro j u hj; cases j with | zero => (rw [← hj]; exact (Blk.alloc_at _ _ _ (by simp)).cell 0) | succ j => (exfalso; simp at hj)) (by intro u hu; rw [List.mem_singleton] at hu; rw [hu]; rfl) (by have := hnp1; unfold maxLen; omega) (by have := hnp1; omega) (by have := HW.out.size; simp; omega) ?_; intro v1' x1 ho1 hg1 h1'; obtain ⟨A1, c1', rfl⟩ := own_sl ho1; have HO1 := Lib.hid ho1; have HG1 := Lib.hid hg1; have HB1 := Lib.hid (bs_app HS.out hg1).1; have HU := Lib.hid (bs_app HS.out hg1).2; have d0 : x1.cell? ⟨q, 256, none⟩ = some (.slice A0 k c0') := (by rw [HB1.out.cell]; exact bsb_tr); have d1 := HB1.out.free 256; have d2 := fun C fz => (bs_cell (v := .slice A1 (k + 1) c1') HB1.out HE0.out (by have := hnp1; have := HA1.out; omega) HOF.out C fz).1; have d3 := fun C fz => (bs_cell (v := .slice A1 (k + 1) c1') HB1.out HE0.out (by have := hnp1; have := HA1.out; omega) HOF.out C fz).2; clear ho1 hg1 h1')
          go_roundw
          case rel =>
            exact ⟨k + 1, (y : Int) - 2, _, _, Lib.hid (by have := HX.out; omega), by have := HA1.out; omega, by omega, by omega, rfl, Lib.hid (bs_step HA1.out (by have := hnp1; omega) HE0.out HS.out HB1.out HU.out HO1.out), Lib.hid (HW.out.trans (bs_below HS.out HG1.out HW.out.size))⟩
          case measure => simp [intOf]; omega
        · have u2 : ¬ 0 ≤ x := hx
          go_wp2_with fail
          have hkn : k = np := by have := HX.out; omega
          have HSE := HS.out
          rw [hkn] at HSE
          refine bodyPost_ret (v := .iface 180 (.pointer (some ⟨q, 0, none⟩))) (by simp [results, Tryz.results112, go_sem]) rfl ⟨q, rfl, ⟨f, tr, HSE⟩, HW.out⟩
end Go.Proofs.YtkjgnkmnngaioaaGreat.Q
namespace Go.Proofs.YtkjgnkmnngaioaaGreat.Q
open Go.RowKit Go.IntWalk Go.Proofs.YtkjgnkmnngaioaaGreat.Mem Go.Proofs.YtkjgnkmnngaioaaGreatW.PrintWords Go.Proofs.YtkjgnkmnngaioaaGreatW.PrintLast Go.Proofs.YtkjgnkmnngaioaaGreatW.PrintMore
set_option linter.unusedVariables false
set_option linter.unusedSimpArgs false
theorem conv_own8 {w : World} {base : Nat} {v : Value} {l : List UInt8} (h : w.ownsRow base 5 1 v l.length (byc l)) : (convert 72 9 v).run Tryz.prog w = .ok (.string (st l)) w := by
  rcases h.2 with ⟨rfl, hl⟩ | ⟨g, cap, cur, rfl, hb, hg, hn, hc, hs, ht⟩
  · have : l = [] := List.length_eq_zero_iff.1 hl
    subst this
    exact run_convert_bytes_nil w 72 5 Tryz.underlying72 Tryz.underlying5 0 0 _ Tryz.underlying9
  · refine run_convert_bytes_back w 72 9 5 ⟨g, 0, none⟩ cap l Tryz.underlying72 Tryz.underlying5 Tryz.underlying9 (fun j hj => ?_)
    refine h.cells (g := g) rfl j _ ?_
    unfold byc
    rw [List.getElem?_map, List.getElem?_eq_getElem hj]
    rfl
/-- The tokens so far, and the text so far. -/
structure EndI (h base : Nat) (ok : Nat → Prop) (ts : List S46) (tx : List UInt8) (lv tv : Value) (y : World) : Prop where
  lc : Blk y h #[lv] 23
  tc : Blk y (h + 1) #[tv] 72
  lr : Kd.S k46 46 y base ok lv ts
  tr : y.ownsRow base 5 1 tv tx.length (byc tx)
/-- The tokens, and the text that ends. -/
def endT (ts : List S46) (tx : List UInt8) : List S46 := if tx = [] then ts else ts ++ [⟨3, ⟨#[]⟩, st (tellF (st tx) 0), []⟩]
/-- Nothing but the cells, and the row of tokens, has changed. -/
structure Chg (h : Nat) (row : Option Nat) (w w' : World) : Prop where
  os : w'.os = w.os
  tape : w'.tape = w.tape
  output : w'.output = w.output
  size : w.heap.size ≤ w'.heap.size
  block : ∀ k, k < w.heap.size → k ≠ h → k ≠ h + 1 → some k ≠ row → w'.heap[k]? = w.heap[k]?
theorem info_token : (Tryz.prog.info? 46).map (fun i => (i.zero, i.size, i.bytes)) = some (some (.agg #[.int .i64 0, .string ⟨#[]⟩, .string ⟨#[]⟩, .slice none 0 0]), 4, 64) := by kernel_rfl
theorem typ_token {T : TypeId} (h1 : 46 ≠ T) (h2 : 70 ≠ T) : ∀ q, q ∈ 46 :: k46.E → q ≠ T := by
  intro q hq
  have h : q = 46 ∨ q = 70 := by
    simp [k46, k70, Kd.iso, Kd.pair, Kd.string, Kd.int, Kd.scalar, Kd.slice] at hq
    omega
  rcases h with rfl | rfl
  · exact h1
  · exact h2
set_option maxRecDepth 100000 in
set_option maxHeartbeats 8000000 in
theorem end_calls (h base : Nat) (ok : Nat → Prop) (ts : List S46) (tx : List UInt8) (lv tv : Value) (w : World) (hI : EndI h base ok ts tx lv tv w) (hok : ∀ k, w.heap.size ≤ k → ok k) (hb : base ≤ h) (hl : ts.length ≤ 600000) (hx : tx.length ≤ 600000) :
    Calls Tryz.prog 48 #[.pointer (some ⟨h + 1, 0, none⟩), .pointer (some ⟨h, 0, none⟩)] w fun e w' => e = .returned (.tuple #[]) ∧ ∃ lv', EndI h base ok (endT ts tx) [] lv' (.slice none 0 0) w' ∧ Chg h lv.ownBlock w w' ∧ (lv'.ownBlock = lv.ownBlock ∨ ∃ b, lv'.ownBlock = some b ∧ w.heap.size ≤ b) := by
  have HI := Lib.hid hI
  have HH := Lib.hid hI.lc.lt
  have HH1 := Lib.hid hI.tc.lt
  obtain ⟨A1, c1, hlv⟩ := Kd.S_slice hI.lr
  obtain ⟨A2, c2, htv⟩ := own_sl hI.tr
  have HOK := Lib.hid hok
  clear hok
  have HX := Lib.hid hx
  have HL := Lib.hid hl
  subst hlv htv
  have d0 : w.cell? ⟨h, 0, none⟩ = some (.slice A1 ts.length c1) := hI.lc.cell 0
  have d1 : w.cell? ⟨h + 1, 0, none⟩ = some (.slice A2 tx.length c2) := hI.tc.cell 0
  have f1 : w.frozen? ⟨h + 1, 0, none⟩ = false := hI.tc.free 0
  have hne : h + 1 ≠ h := by omega
  clear hI
  by_cases ht : tx = []
  · have HE := Lib.hid (show endT ts tx = ts from by unfold endT; rw [if_pos ht])
    have hz : tx.length = 0 := by rw [ht]; rfl
    rw [hz] at d1
    clear ht hz
    go_enter Tryz.func48, Tryz.ntmps48
    go_wp2_with fail
    first | go_end0 | refine bodyPost_ret (results_none rfl _ _ _) rfl ?_
    refine ⟨rfl, .slice A1 ts.length c1, ?_, ⟨rfl, rfl, rfl, by simp [World.setCell], fun k _ h1 h2 _ => Below.heap_setCell _ _ _ _ h2⟩, .inl rfl⟩
    rw [HE.out]
    exact ⟨HI.out.lc.setCell_other _ (by show h ≠ h + 1; omega), HI.out.tc.set 0 _, Kd.S_set HI.out.lr HI.out.tc (typ_token (by decide) (by decide)) 0 _, World.ownsRow_nil _ _ _ _⟩
  · have HE := Lib.hid (show endT ts tx = ts ++ [⟨3, ⟨#[]⟩, st (tellF (st tx) 0), []⟩] from by unfold endT; rw [if_neg ht])
    have hz : 0 < tx.length := List.length_pos_iff.2 ht
    have v1 : (0 : Int) < (tx.length : Int) := by omega
    have HCV := Lib.hid (show ∀ y : World, y.ownsRow base 5 1 (.slice A2 tx.length c2) tx.length (byc tx) → (convert 72 9 (.slice A2 tx.length c2)).run Tryz.prog y = .ok (.string (st tx)) y from fun y hy => conv_own8 hy)
    have HT := Lib.hid (show ∀ y, Calls Tryz.prog 19 #[.string (st tx)] y fun e w' => e = .returned (.string ⟨(tellF (st tx) 0).toArray⟩) ∧ Below y.heap.size y w' from fun y => tell_calls (st tx) y (by show tx.toArray.size ≤ 600000; rw [List.size_toArray]; exact HX.out))
    have hcv := HCV.out _ (World.ownsRow.drew HI.out.tr)
    clear ht hz
    go_enter Tryz.func48, Tryz.ntmps48
    go_upto_region 1 with (fail)
    go_region_law (first
      | (refine Kd.S_append_step k46 (w0 := w) base (by simp [Region.wanted]) _ _ 23 46 (.agg #[.int .i64 0, .string ⟨#[]⟩, .string ⟨#[]⟩, .slice none 0 0]) 64 rfl Tryz.underlying23 info_token rfl (by decide) (by decide) (.slice A1 ts.length c1) ts ⟨3, ⟨#[]⟩, st (tellF (st tx) 0), []⟩ [.int .i64 3, .string ⟨#[]⟩, .string (st (tellF (st tx) 0)), .slice none 0 0] ok (fun _ => False) rfl rfl (k46_mkM _ _ _ ⟨3, ⟨#[]⟩, st (tellF (st tx) 0), []⟩ (Kd.R_nil _ _ _ _ _)) (fun _ h => h.elim) (fun k hk => HOK.out k (Nat.le_trans HB0.out.size hk)) (Kd.S_mono HS1.out (fun _ hk => ⟨hk, fun h => h⟩)) HB1.out HBS1.out (by have := HL.out; omega) ?_; intro v1 w4 hr hb4 hg4 hat4; obtain ⟨A3, c3, hv1⟩ := Kd.S_slice hr; rw [List.length_append, List.length_singleton] at hv1; subst hv1; have HL4 := Lib.hid (show Blk w4 h #[.slice A1 ts.length c1] 23 from HLB.out.of_block (hg4.block h HLB.out.lt (Kd.S_ne HS1.out HLB.out (by decide)))); have HT4 := Lib.hid (show Blk w4 (h + 1) #[.slice A2 tx.length c2] 72 from HTB.out.of_block (hg4.block (h + 1) HTB.out.lt (Kd.S_ne HS1.out HTB.out (by decide)))); have e5 : w4.cell? ⟨h + 1, 0, none⟩ = some (.slice A2 tx.length c2) := HT4.out.cell 0; have f5 : w4.frozen? ⟨h + 1, 0, none⟩ = false := HT4.out.free 0; have HR4 := Lib.hid hr; have HG4 := Lib.hid hg4; have HAT4 := Lib.hid hat4; have e4 : w4.cell? ⟨h, 0, none⟩ = some (.slice A1 ts.length c1) := HL4.out.cell 0; have f4 : w4.frozen? ⟨h, 0, none⟩ = false := HL4.out.free 0; clear hr hb4 hg4 hat4)
      | (go_simp; go_at_call 19; refine (HT.out _).mono ?_; rintro e w1 ⟨rfl, hb1⟩; have HS1 := Lib.hid (Kd.S_below (Kd.S_drew HI.out.lr) hb1); have HB0 := Lib.hid (show Below w.heap.size w w1 from Below.trans (b := w.drew) ⟨rfl, rfl, rfl, Nat.le_refl _, fun _ _ => rfl⟩ hb1); have HB1 := Lib.hid (HB0.out.mono (show base ≤ w.heap.size by have := HH.out; omega)); have HBS1 := Lib.hid (show base ≤ w1.heap.size from Nat.le_trans (show base ≤ w.heap.size by have := HH.out; omega) HB0.out.size); have HLB := Lib.hid (HI.out.lc.below HB0.out HH.out); have HTB := Lib.hid (HI.out.tc.below HB0.out HH1.out); have d0' : w1.cell? ⟨h, 0, none⟩ = some (.slice A1 ts.length c1) := HLB.out.cell 0; have d0'' : ∀ o, (w1.alloc o).cell? ⟨h, 0, none⟩ = some (.slice A1 ts.length c1) := (fun o => (HLB.out.alloc_old o).cell 0); clear hb1))
    all_goals
      show Exit.then _ _ _ _ _
      go_wp2_with fail
      first | go_end0 | refine bodyPost_ret (results_none rfl _ _ _) rfl ?_
      refine ⟨rfl, .slice A3 (ts.length + 1) c3, ?_, ?_, ?_⟩
      · rw [HE.out]
        have hs := Kd.S_set HR4.out HL4.out (typ_token (by decide) (by decide)) 0 (.slice A3 (ts.length + 1) c3)
        have ht4 := HT4.out.setCell_other (a := ⟨h, 0, none⟩) (.slice A3 (ts.length + 1) c3) (by show h + 1 ≠ h; omega)
        exact ⟨(HL4.out.set 0 _).setCell_other _ (by show h ≠ h + 1; omega), ht4.set 0 _, Kd.S_set hs ht4 (typ_token (by decide) (by decide)) 0 _, World.ownsRow_nil _ _ _ _⟩
      · have h0 := HB0.out
        have h4 := HG4.out
        exact ⟨h4.os.trans h0.os, h4.tape.trans h0.tape, h4.output.trans h0.output, by have := h0.size; have := h4.size; simp [World.setCell]; omega, fun k hk h1 h2 h3 => (Below.heap_setCell _ _ _ _ h2).trans ((Below.heap_setCell _ _ _ _ h1).trans ((h4.block k (Nat.lt_of_lt_of_le hk h0.size) h3).trans (h0.block k hk)))⟩
      · rcases HAT4.out with h | ⟨b, h1, h2⟩
        · exact .inl h
        · exact .inr ⟨b, h1, Nat.le_trans HB0.out.size h2⟩
end Go.Proofs.YtkjgnkmnngaioaaGreat.Q
