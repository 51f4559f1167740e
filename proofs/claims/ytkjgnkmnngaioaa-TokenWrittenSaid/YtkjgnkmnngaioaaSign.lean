/- 'token.Sign': what is signed. -/
import Derived.Test.YtkjgnkmnngaioaaBsR
import Derived.Test.YtkjgnkmnngaioaaTel
import Derived.Laws.OwnMore
namespace Go.Proofs.Ytkjgnkmnngaioaa.Q
open Go.RowKit Go.IntWalk Go.Proofs.Ytkjgnkmnngaioaa.Mem
set_option linter.unusedVariables false
set_option linter.unusedSimpArgs false

theorem hmb (p : Addr) (w : World) : (method 275 93 (.pointer (some p)) "Replace").run Try.prog w = .ok (107, .pointer (some p)) w := by kernel_rfl
set_option maxRecDepth 100000 in
set_option maxHeartbeats 1600000 in
theorem repb_calls (b ob c m np : Nat) (s : ByteArray) (w : World) (hm : m = 2 * np) (hnp : np = 3 ∨ np = 4) (hB : Blk w b (RB 0 0 .nilIface (.slice (some ⟨ob, 0, none⟩) m c)) 70) (hob : ob ≠ b) (hK : ∀ a, a < np → w.cell? ⟨ob, 2 * a, none⟩ = some (.string (os a)) ∧ w.cell? ⟨ob, 2 * a + 1, none⟩ = some (.string (ns a))) (hs : s.size ≤ 600000) :
    Calls Try.prog 14 #[.pointer (some ⟨b, 0, none⟩), .string s] w fun e w' => e = .returned (.string ⟨(signF np s.data.toList).toArray⟩) ∧ But b w w' := by
  have HNP := Lib.hid hnp
  have hF := bs_once b ob c m np (w.setCell ⟨b, 1, none⟩ (.int .i32 1)) hm hnp (hB.set 1 _) hob (fun a ha => ⟨(World.cell?_of_block (Below.heap_setCell _ _ _ _ hob)).trans (hK a ha).1, (World.cell?_of_block (Below.heap_setCell _ _ _ _ hob)).trans (hK a ha).2⟩)
  have hD := do_build b .nilIface (.slice (some ⟨ob, 0, none⟩) m c) _ w hB (fun w' hq => by obtain ⟨q, hq⟩ := hq; obtain ⟨c4, h⟩ := hq.rep; exact ⟨_, c4, h⟩) hF
  have HD := Lib.hid hD
  have HBL := Lib.hid hB.lt
  have hmr := hmb
  have hmf : ∀ (fn : Fn) (first cap : Array Value) (w : World), (Instr.makeFunc fn first cap).run Try.prog w = .ok (.func fn first cap) w := fun _ _ _ _ => rfl
  clear hF hD hB hK hm hnp
  go_enter Try.func14, Try.ntmps14
  go_upto_region 2 with (go_at_call 19; refine HD.out.mono ?_; rintro e w1 ⟨rfl, w2, hq, hw1⟩; obtain ⟨q, hq⟩ := hq; have HQ := Lib.hid hq; have HW1 := Lib.hid hw1; clear hq hw1)
  have HT := Lib.hid (show Bs q (w.setCell ⟨b, 1, none⟩ (.int .i32 1)).heap.size np w1 from by
    obtain ⟨c4, h⟩ := HQ.out.rep
    rw [HW1.out]
    exact HQ.out.bs.keep h (fun j _ j1 => ((Below.heap_setCell _ _ _ _ j1).trans (Below.heap_setCell _ _ _ _ j1))))
  have HZ := Lib.hid (show But b w w1 from by
    rw [HW1.out]
    exact (((((But.refl b w).setCell 1 _).trans HQ.out.but).drewN 1).setCell 0 _).setCell 1 _)
  have c3 : w1.cell? ⟨b, 3, none⟩ = some (.iface 93 (.pointer (some ⟨q, 0, none⟩))) := by
    obtain ⟨c4, h⟩ := HQ.out.rep
    rw [HW1.out]
    exact ((h.drew.set 0 _).set 1 _).cell 3
  clear HQ HW1 HD
  go_wp2_with (go_at_call 107; refine (bsr_calls q _ np s _ HNP.out HT.out hs).mono ?_; rintro e w3 ⟨rfl, hb⟩; have HB3 := Lib.hid hb; clear hb)
  go_ret
  exact ⟨rfl, HZ.out.trans (But.of_below HB3.out)⟩
/-- The pairs of bytes and signs. -/
def PS (np : Nat) : List Value := (List.range np).flatMap fun a => [.string (os a), .string (ns a)]
theorem ps3 : PS 3 = [.string (os 0), .string (ns 0), .string (os 1), .string (ns 1), .string (os 2), .string (ns 2)] := rfl
theorem ps4 : PS 4 = [.string (os 0), .string (ns 0), .string (os 1), .string (ns 1), .string (os 2), .string (ns 2), .string (os 3), .string (ns 3)] := rfl
theorem ps_at {np a : Nat} (hnp : np = 3 ∨ np = 4) (h : a < np) : (PS np)[2 * a]? = some (.string (os a)) ∧ (PS np)[2 * a + 1]? = some (.string (ns a)) := by
  rcases hnp with rfl | rfl
  · have : a = 0 ∨ a = 1 ∨ a = 2 := by omega
    rcases this with rfl | rfl | rfl <;> exact ⟨rfl, rfl⟩
  · have : a = 0 ∨ a = 1 ∨ a = 2 ∨ a = 3 := by omega
    rcases this with rfl | rfl | rfl | rfl <;> exact ⟨rfl, rfl⟩
/-- The signs in use. -/
def sgn (q : Bool) : Nat := if q then 4 else 3
set_option maxRecDepth 100000 in
set_option maxHeartbeats 1600000 in
theorem sign_calls (s : ByteArray) (q : Bool) (w : World) (hs : s.size ≤ 600000) :
    Calls Try.prog 7 #[.string s, .bool q] w fun e w' => e = .returned (.string ⟨(signF (sgn q) s.data.toList).toArray⟩) ∧ Below w.heap.size w w' := by
  cases q with
  | false =>
    have HN := Lib.hid (show ∀ W T, Blk W w.heap.size (PS 3).toArray T → Calls Try.prog 13 #[.slice (some ⟨w.heap.size, 0, none⟩) 6 6] W (NewR 6 (PS 3) W) from fun W T hB => new_calls6 w.heap.size 6 (PS 3) W rfl (fun j u hj => by rw [hB.cell, List.getElem?_toArray]; exact hj) (by decide))
    go_enter Try.func7, Try.ntmps7
    go_wp2_with fail
    refine (HN.out _ 9 (Blk.alloc w (PS 3).toArray 9)).mono ?_
    rintro e w1 ⟨b, ob, c, rfl, h1, h2, h3, h4, h5⟩
    have HB := Lib.hid h1
    have HO := Lib.hid h2
    have HL := Lib.hid (show w.heap.size ≤ b from Nat.le_trans (by simp) h3)
    have HK := Lib.hid (show ∀ a, a < 3 → w1.cell? ⟨ob, 2 * a, none⟩ = some (.string (os a)) ∧ w1.cell? ⟨ob, 2 * a + 1, none⟩ = some (.string (ns a)) from fun a ha => ⟨h4 _ _ (ps_at (.inl rfl) ha).1, h4 _ _ (ps_at (.inl rfl) ha).2⟩)
    have HW := Lib.hid (show Below w.heap.size w w1 from ((Below.refl _ _).alloc (Nat.le_refl _) _).trans (h5.mono (by simp)))
    clear h1 h2 h3 h4 h5 HN
    go_wp2_with (go_at_call 14; refine (repb_calls b ob c 6 3 s _ rfl (.inl rfl) HB.out HO.out HK.out hs).mono ?_; rintro e w2 ⟨rfl, hb⟩; have HZ := Lib.hid hb; clear hb)
    go_ret
    exact ⟨rfl, HW.out.trans (HZ.out.below HL.out HW.out.size)⟩
  | true =>
    obtain ⟨i0, hi, hzz⟩ : ∃ i0, Try.prog.info? 9 = some i0 ∧ (i0.zero, i0.size, i0.bytes) = (some (.string ⟨#[]⟩), 1, 16) := Option.map_eq_some_iff.1 (show (Try.prog.info? 9).map (fun i => (i.zero, i.size, i.bytes)) = some (some (.string ⟨#[]⟩), 1, 16) by kernel_rfl)
    simp only [Prod.mk.injEq] at hzz
    obtain ⟨hz0, hz1, hz2⟩ := hzz
    have HI := Lib.hid hi
    have HZ0 := Lib.hid hz0
    have HZ1 := Lib.hid hz1
    have HZ2 := Lib.hid hz2
    have HN := Lib.hid (show ∀ g cap W, (∀ j u, (PS 4)[j]? = some u → W.cell? ⟨g, j, none⟩ = some u) → Calls Try.prog 13 #[.slice (some ⟨g, 0, none⟩) 8 cap] W (NewR 8 (PS 4) W) from fun g cap W hB => new_calls8 g cap (PS 4) W rfl hB (by decide))
    clear hi hz0 hz1 hz2
    go_enter Try.func7, Try.ntmps7
    go_wp2_with (at_builtin; refine wpList_append_own _ rfl _ _ 42 rfl w.heap.size 9 i0 (.string ⟨#[]⟩) 1 16 Try.underlying42 HI.out HZ0.out HZ1.out HZ2.out rfl (by decide) (.slice (some ⟨w.heap.size, 0, none⟩) 6 6) 6 (PS 3) rfl ((World.ownsRow_lit w (PS 3).toArray 6 (Nat.le_refl _) (by unfold maxLen; omega) rfl).alloc _) ⟨w.heap.size + 1, 0, none⟩ 2 2 [.string (os 3), .string (ns 3)] rfl rfl (fun j u hj => by have e1 : (⟨w.heap.size + 1, 0, none⟩ : Addr).add j = ⟨w.heap.size + 1, j, none⟩ := (by unfold Addr.add; split <;> simp_all); rw [e1]; exact ((Blk.alloc_at (w.alloc (.cells (PS 3).toArray 9)) (b := w.heap.size + 1) #[.string (os 3), .string (ns 3)] 9 (by simp)).cell j).trans (by rw [← hj]; exact List.getElem?_toArray)) (by decide) (by unfold maxLen; omega) (by omega) (by simp; omega) ?_; intro v1 w1 ho1 hg1 h2; obtain ⟨g, cap, rfl, hg2, hg3, hg4⟩ := own_some ho1 (by omega); have HG1 := Lib.hid hg1; have HG3 := Lib.hid hg3; have HG4 := Lib.hid hg4; clear ho1 hg1 h2 hg2 hg3 hg4)
    refine (HN.out g cap w1 HG4.out).mono ?_
    rintro e w2 ⟨b, ob, c, rfl, h1, h2, h3, h4, h5⟩
    have hz1 : w.heap.size ≤ w1.heap.size := Nat.le_trans (by simp; omega) HG1.out.size
    have HB := Lib.hid h1
    have HO := Lib.hid h2
    have HL := Lib.hid (show w.heap.size ≤ b by omega)
    have HK := Lib.hid (show ∀ a, a < 4 → w2.cell? ⟨ob, 2 * a, none⟩ = some (.string (os a)) ∧ w2.cell? ⟨ob, 2 * a + 1, none⟩ = some (.string (ns a)) from fun a ha => ⟨h4 _ _ (ps_at (.inr rfl) ha).1, h4 _ _ (ps_at (.inr rfl) ha).2⟩)
    have HW := Lib.hid (show Below w.heap.size w w2 from by
      have hg := HG1.out
      refine Below.trans ⟨hg.os, hg.tape, hg.output, hz1, fun k hk => ?_⟩ (h5.mono hz1)
      refine (hg.block k (by simp; omega) (by simp [Value.ownBlock]; omega)).trans ?_
      exact (Below.heap_alloc _ _ _ (by simp; omega)).trans (Below.heap_alloc _ _ _ hk))
    clear h1 h2 h3 h4 h5 HN HG1 HG3 HG4 hz1
    go_wp2_with (go_at_call 14; refine (repb_calls b ob c 8 4 s _ rfl (.inr rfl) HB.out HO.out HK.out hs).mono ?_; rintro e w3 ⟨rfl, hb⟩; have HZ := Lib.hid hb; clear hb)
    go_ret
    exact ⟨rfl, HW.out.trans (HZ.out.below HL.out HW.out.size)⟩
end Go.Proofs.Ytkjgnkmnngaioaa.Q
