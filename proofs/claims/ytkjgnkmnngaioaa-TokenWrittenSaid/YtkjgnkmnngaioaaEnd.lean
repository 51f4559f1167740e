/- What ends a text ('token.Read$1'). -/
import Derived.Test.YtkjgnkmnngaioaaOp
import Derived.Test.YtkjgnkmnngaioaaTel
import Derived.Test.YtkjgnkmnngaioaaBs
import Derived.Test.YtkjgnkmnngaioaaWApart
import Derived.Deep.RegionLaw
namespace Go.Proofs.Ytkjgnkmnngaioaa.Q
open Go.RowKit Go.IntWalk Go.Proofs.Ytkjgnkmnngaioaa.Mem Go.Proofs.YtkjgnkmnngaioaaW.PrintWords Go.Proofs.YtkjgnkmnngaioaaW.PrintLast Go.Proofs.YtkjgnkmnngaioaaW.PrintMore
set_option linter.unusedVariables false
set_option linter.unusedSimpArgs false

theorem conv_own8 {w : World} {base : Nat} {v : Value} {l : List UInt8} (h : w.ownsRow base 5 1 v l.length (byc l)) : (convert 45 9 v).run Try.prog w = .ok (.string (st l)) w := by
  rcases h.2 with ⟨rfl, hl⟩ | ⟨g, cap, cur, rfl, hb, hg, hn, hc, hs, ht⟩
  · have : l = [] := List.length_eq_zero_iff.1 hl
    subst this
    exact run_convert_bytes_nil w 45 5 Try.underlying45 Try.underlying5 0 0 _ Try.underlying9
  · refine run_convert_bytes_back w 45 9 5 ⟨g, 0, none⟩ cap l Try.underlying45 Try.underlying5 Try.underlying9 (fun j hj => ?_)
    refine h.cells (g := g) rfl j _ ?_
    unfold byc
    rw [List.getElem?_map, List.getElem?_eq_getElem hj]
    rfl
/-- The tokens so far, and the text so far. -/
structure EndI (h base : Nat) (ok : Nat → Prop) (ts : List S31) (tx : List UInt8) (lv tv : Value) (y : World) : Prop where
  lc : Blk y h #[lv] 24
  tc : Blk y (h + 1) #[tv] 45
  lr : Kd.S k31 31 y base ok lv ts
  tr : y.ownsRow base 5 1 tv tx.length (byc tx)
/-- The tokens, and the text that ends. -/
def endT (ts : List S31) (tx : List UInt8) : List S31 := if tx = [] then ts else ts ++ [⟨3, ⟨#[]⟩, st (tellF (st tx) 0), []⟩]
/-- Nothing but the cells, and the row of tokens, has changed. -/
structure Chg (h : Nat) (row : Option Nat) (w w' : World) : Prop where
  os : w'.os = w.os
  tape : w'.tape = w.tape
  output : w'.output = w.output
  size : w.heap.size ≤ w'.heap.size
  block : ∀ k, k < w.heap.size → k ≠ h → k ≠ h + 1 → some k ≠ row → w'.heap[k]? = w.heap[k]?
theorem info_token : (Try.prog.info? 31).map (fun i => (i.zero, i.size, i.bytes)) = some (some (.agg #[.int .i64 0, .string ⟨#[]⟩, .string ⟨#[]⟩, .slice none 0 0]), 4, 64) := by kernel_rfl
theorem typ_token {T : TypeId} (h1 : 31 ≠ T) (h2 : 36 ≠ T) : ∀ q, q ∈ 31 :: k31.E → q ≠ T := by
  intro q hq
  have h : q = 31 ∨ q = 36 := by
    simp [k31, k36, Kd.iso, Kd.pair, Kd.string, Kd.int, Kd.scalar, Kd.slice] at hq
    omega
  rcases h with rfl | rfl
  · exact h1
  · exact h2
set_option maxRecDepth 100000 in
set_option maxHeartbeats 8000000 in
theorem end_calls (h base : Nat) (ok : Nat → Prop) (ts : List S31) (tx : List UInt8) (lv tv : Value) (w : World) (hI : EndI h base ok ts tx lv tv w) (hok : ∀ k, w.heap.size ≤ k → ok k) (hb : base ≤ h) (hl : ts.length ≤ 600000) (hx : tx.length ≤ 600000) :
    Calls Try.prog 15 #[.pointer (some ⟨h + 1, 0, none⟩), .pointer (some ⟨h, 0, none⟩)] w fun e w' => e = .returned (.tuple #[]) ∧ ∃ lv', EndI h base ok (endT ts tx) [] lv' (.slice none 0 0) w' ∧ Chg h lv.ownBlock w w' ∧ (lv'.ownBlock = lv.ownBlock ∨ ∃ b, lv'.ownBlock = some b ∧ w.heap.size ≤ b) := by
  have HI := Lib.hid hI
  have HH := Lib.hid hI.lc.lt
  have HH1 := Lib.hid hI.tc.lt
  obtain ⟨A1, c1, hlv⟩ := Kd.S_slice hI.lr
  obtain ⟨A2, c2, htv⟩ := own_sl hI.tr
  have HOK := Lib.hid hok
  clear hok
  have HX := Lib.hid hx
  have HL := Lib.hid hl
  subst hlv htv
  have d0 : w.cell? ⟨h, 0, none⟩ = some (.slice A1 ts.length c1) := hI.lc.cell 0
  have d1 : w.cell? ⟨h + 1, 0, none⟩ = some (.slice A2 tx.length c2) := hI.tc.cell 0
  have f1 : w.frozen? ⟨h + 1, 0, none⟩ = false := hI.tc.free 0
  have hne : h + 1 ≠ h := by omega
  clear hI
  by_cases ht : tx = []
  · have HE := Lib.hid (show endT ts tx = ts from by unfold endT; rw [if_pos ht])
    have hz : tx.length = 0 := by rw [ht]; rfl
    rw [hz] at d1
    clear ht hz
    go_enter Try.func15, Try.ntmps15
    go_wp2_with fail
    first | go_end0 | refine bodyPost_ret (results_none rfl _ _ _) rfl ?_
    refine ⟨rfl, .slice A1 ts.length c1, ?_, ⟨rfl, rfl, rfl, by simp [World.setCell], fun k _ h1 h2 _ => Below.heap_setCell _ _ _ _ h2⟩, .inl rfl⟩
    rw [HE.out]
    exact ⟨HI.out.lc.setCell_other _ (by show h ≠ h + 1; omega), HI.out.tc.set 0 _, Kd.S_set HI.out.lr HI.out.tc (typ_token (by decide) (by decide)) 0 _, World.ownsRow_nil _ _ _ _⟩
  · have HE := Lib.hid (show endT ts tx = ts ++ [⟨3, ⟨#[]⟩, st (tellF (st tx) 0), []⟩] from by unfold endT; rw [if_neg ht])
    have hz : 0 < tx.length := List.length_pos_iff.2 ht
    have v1 : (0 : Int) < (tx.length : Int) := by omega
    have HCV := Lib.hid (show ∀ y : World, y.ownsRow base 5 1 (.slice A2 tx.length c2) tx.length (byc tx) → (convert 45 9 (.slice A2 tx.length c2)).run Try.prog y = .ok (.string (st tx)) y from fun y hy => conv_own8 hy)
    have HT := Lib.hid (show ∀ y, Calls Try.prog 9 #[.string (st tx)] y fun e w' => e = .returned (.string ⟨(tellF (st tx) 0).toArray⟩) ∧ Below y.heap.size y w' from fun y => tell_calls (st tx) y (by show tx.toArray.size ≤ 600000; rw [List.size_toArray]; exact HX.out))
    have hcv := HCV.out _ (World.ownsRow.drew HI.out.tr)
    clear ht hz
    go_enter Try.func15, Try.ntmps15
    go_upto_region 1 with (fail)
    go_region_law (first
      | (refine Kd.S_append_step k31 (w0 := w) base (by simp [Region.wanted]) _ _ 24 31 (.agg #[.int .i64 0, .string ⟨#[]⟩, .string ⟨#[]⟩, .slice none 0 0]) 64 rfl Try.underlying24 info_token rfl (by decide) (by decide) (.slice A1 ts.length c1) ts ⟨3, ⟨#[]⟩, st (tellF (st tx) 0), []⟩ [.int .i64 3, .string ⟨#[]⟩, .string (st (tellF (st tx) 0)), .slice none 0 0] ok (fun _ => False) rfl rfl (k31_mkM _ _ _ ⟨3, ⟨#[]⟩, st (tellF (st tx) 0), []⟩ (Kd.R_nil _ _ _ _ _)) (fun _ h => h.elim) (fun k hk => HOK.out k (Nat.le_trans HB0.out.size hk)) (Kd.S_mono HS1.out (fun _ hk => ⟨hk, fun h => h⟩)) HB1.out HBS1.out (by have := HL.out; omega) ?_; intro v1 w4 hr hb4 hg4 hat4; obtain ⟨A3, c3, hv1⟩ := Kd.S_slice hr; rw [List.length_append, List.length_singleton] at hv1; subst hv1; have HL4 := Lib.hid (show Blk w4 h #[.slice A1 ts.length c1] 24 from HLB.out.of_block (hg4.block h HLB.out.lt (Kd.S_ne HS1.out HLB.out (by decide)))); have HT4 := Lib.hid (show Blk w4 (h + 1) #[.slice A2 tx.length c2] 45 from HTB.out.of_block (hg4.block (h + 1) HTB.out.lt (Kd.S_ne HS1.out HTB.out (by decide)))); have e5 : w4.cell? ⟨h + 1, 0, none⟩ = some (.slice A2 tx.length c2) := HT4.out.cell 0; have f5 : w4.frozen? ⟨h + 1, 0, none⟩ = false := HT4.out.free 0; have HR4 := Lib.hid hr; have HG4 := Lib.hid hg4; have HAT4 := Lib.hid hat4; have e4 : w4.cell? ⟨h, 0, none⟩ = some (.slice A1 ts.length c1) := HL4.out.cell 0; have f4 : w4.frozen? ⟨h, 0, none⟩ = false := HL4.out.free 0; clear hr hb4 hg4 hat4)
      | (go_simp; go_at_call 9; refine (HT.out _).mono ?_; rintro e w1 ⟨rfl, hb1⟩; have HS1 := Lib.hid (Kd.S_below (Kd.S_drew HI.out.lr) hb1); have HB0 := Lib.hid (show Below w.heap.size w w1 from Below.trans (b := w.drew) ⟨rfl, rfl, rfl, Nat.le_refl _, fun _ _ => rfl⟩ hb1); have HB1 := Lib.hid (HB0.out.mono (show base ≤ w.heap.size by have := HH.out; omega)); have HBS1 := Lib.hid (show base ≤ w1.heap.size from Nat.le_trans (show base ≤ w.heap.size by have := HH.out; omega) HB0.out.size); have HLB := Lib.hid (HI.out.lc.below HB0.out HH.out); have HTB := Lib.hid (HI.out.tc.below HB0.out HH1.out); have d0' : w1.cell? ⟨h, 0, none⟩ = some (.slice A1 ts.length c1) := HLB.out.cell 0; have d0'' : ∀ o, (w1.alloc o).cell? ⟨h, 0, none⟩ = some (.slice A1 ts.length c1) := (fun o => (HLB.out.alloc_old o).cell 0); clear hb1))
    all_goals
      show Exit.then _ _ _ _ _
      go_wp2_with fail
      first | go_end0 | refine bodyPost_ret (results_none rfl _ _ _) rfl ?_
      refine ⟨rfl, .slice A3 (ts.length + 1) c3, ?_, ?_, ?_⟩
      · rw [HE.out]
        have hs := Kd.S_set HR4.out HL4.out (typ_token (by decide) (by decide)) 0 (.slice A3 (ts.length + 1) c3)
        have ht4 := HT4.out.setCell_other (a := ⟨h, 0, none⟩) (.slice A3 (ts.length + 1) c3) (by show h + 1 ≠ h; omega)
        exact ⟨(HL4.out.set 0 _).setCell_other _ (by show h ≠ h + 1; omega), ht4.set 0 _, Kd.S_set hs ht4 (typ_token (by decide) (by decide)) 0 _, World.ownsRow_nil _ _ _ _⟩
      · have h0 := HB0.out
        have h4 := HG4.out
        exact ⟨h4.os.trans h0.os, h4.tape.trans h0.tape, h4.output.trans h0.output, by have := h0.size; have := h4.size; simp [World.setCell]; omega, fun k hk h1 h2 h3 => (Below.heap_setCell _ _ _ _ h2).trans ((Below.heap_setCell _ _ _ _ h1).trans ((h4.block k (Nat.lt_of_lt_of_le hk h0.size) h3).trans (h0.block k hk)))⟩
      · rcases HAT4.out with h | ⟨b, h1, h2⟩
        · exact .inl h
        · exact .inr ⟨b, h1, Nat.le_trans HB0.out.size h2⟩
end Go.Proofs.Ytkjgnkmnngaioaa.Q
