/- The replacer of the four signs, built; a new one; token.Tell. -/
import Derived.Test.YtkjgnkmnngaioaaGen
import Derived.Test.YtkjgnkmnngaioaaRep
import Derived.Laws.MakeOwn
import Derived.Laws.IdiomStrings
import Derived.Laws.BytesArg
import Derived.Test.YtkjgnkmnngaioaaOnce
import Derived.Laws.AppendOwn
/- strings.Replacer of the four signs: built, once. -/
namespace Go.Proofs.Ytkjgnkmnngaioaa.Q
open Go.RowKit Go.IntWalk Go.Proofs.Ytkjgnkmnngaioaa.Mem
set_option linter.unusedVariables false
set_option linter.unusedSimpArgs false

set_option maxRecDepth 100000 in
set_option maxHeartbeats 1600000 in
theorem build_calls (b ob c : Nat) (w : World) (h4 : w.cell? ⟨b, 4, none⟩ = some (.slice (some ⟨ob, 0, none⟩) 8 c)) (hK : ∀ a, a < 4 → w.cell? ⟨ob, 2 * a, none⟩ = some (.string (ks a)) ∧ w.cell? ⟨ob, 2 * a + 1, none⟩ = some (.string (vs a))) :
    Calls Try.prog 28 #[.pointer (some ⟨b, 0, none⟩)] w fun e w' => e = .returned (.iface 85 (.pointer (some ⟨w.heap.size, 0, none⟩))) ∧ TrS 4 w.heap.size w' ∧ Below w.heap.size w w' := by
  have HK := Lib.hid hK
  have k0 : w.cell? ⟨ob, 0, none⟩ = some (.string ⟨#[38, 108, 116, 59]⟩) := (hK 0 (by omega)).1
  clear hK
  go_enter Try.func28, Try.ntmps28
  go_wp2_with fail
  go_loopw [5] (fun iv wr => iv = .int .i64 0 ∧ wr = w) (fun _ _ => 0)
  case atStart => exact ⟨rfl, rfl⟩
  case round =>
    obtain ⟨rfl, rfl⟩ := hrel
    go_wp2_with (go_at_call 38; refine (gen_calls ob c _ HK.out).mono ?_; rintro e w1 ⟨rfl, ht, hb⟩; have HT := Lib.hid ht; have HB := Lib.hid hb; clear ht hb)
    go_ret
    exact ⟨rfl, HT.out, HB.out⟩

/-- What buildOnce leaves. -/
structure Built (b ob c g : Nat) (w w' : World) : Prop where
  rep : ∃ c4, Blk w' b (RB 0 1 (.iface 85 (.pointer (some ⟨g, 0, none⟩))) c4) 70
  trie : Tri g w'
  but : But b w w'
set_option maxRecDepth 100000 in
set_option maxHeartbeats 1600000 in
theorem once_calls (b ob c : Nat) (w : World) (hB : Blk w b (RB 0 1 .nilIface (.slice (some ⟨ob, 0, none⟩) 8 c)) 70) (hob : ob ≠ b) (hK : ∀ a, a < 4 → w.cell? ⟨ob, 2 * a, none⟩ = some (.string (ks a)) ∧ w.cell? ⟨ob, 2 * a + 1, none⟩ = some (.string (vs a))) :
    Calls Try.prog 20 #[.pointer (some ⟨b, 0, none⟩)] w fun e w' => e = .returned (.tuple #[]) ∧ Built b ob c w.heap.size w w' := by
  have HK := Lib.hid hK
  have HB := Lib.hid hB
  clear hK hB
  go_enter Try.func20, Try.ntmps20
  go_wp2_with (go_at_call 28; refine (build_calls b ob c _ (HB.out.cell 4) HK.out).mono ?_; rintro e w1 ⟨rfl, ht, hb⟩; have HT := Lib.hid ht; have HW := Lib.hid hb; have HB1 := Lib.hid (HB.out.below hb HB.out.lt); have c3 := HB1.out.cell 3; have c4 := HB1.out.cell 4; have f3 := HB1.out.free 3; have f4 := HB1.out.free 4; simp only [List.getElem?_toArray, List.getElem?_cons_zero, List.getElem?_cons_succ] at c3 c4; clear ht hb)
  first | go_end0 | refine bodyPost_ret (results_none rfl _ _ _) rfl ?_
  have hb1 := HB1.out
  obtain ⟨ht, hs⟩ := Tri.of HT.out
  have hbl := HB.out.lt
  refine ⟨rfl, ⟨_, (hb1.set 3 _).set 4 _⟩, ht.keep (fun j h1 h2 => (Below.heap_setCell _ _ _ _ (show j ≠ b by omega)).trans (Below.heap_setCell _ _ _ _ (show j ≠ b by omega))), ?_⟩
  exact ((But.of_below HW.out).setCell 3 _).setCell 4 _
end Go.Proofs.Ytkjgnkmnngaioaa.Q

/- '(*strings.genericReplacer).Replace', in the trie of the four signs. -/
namespace Go.Proofs.Ytkjgnkmnngaioaa.Q
open Go.RowKit Go.IntWalk Go.Proofs.Ytkjgnkmnngaioaa.Mem
set_option linter.unusedVariables false
set_option linter.unusedSimpArgs false

theorem conv_own {w : World} {base : Nat} {v : Value} {l : List UInt8} (h : w.ownsRow base 5 1 v l.length (byc l)) : (convert 162 9 v).run Try.prog w = .ok (.string ⟨l.toArray⟩) w := by
  rcases h.2 with ⟨rfl, hl⟩ | ⟨g, cap, cur, rfl, hb, hg, hn, hc, hs, ht⟩
  · have : l = [] := List.length_eq_zero_iff.1 hl
    subst this
    exact run_convert_bytes_nil w 162 5 Try.underlying162 Try.underlying5 0 0 _ Try.underlying9
  · refine run_convert_bytes_back w 162 9 5 ⟨g, 0, none⟩ cap l Try.underlying162 Try.underlying5 Try.underlying9 (fun j hj => ?_)
    refine h.cells (g := g) rfl j _ ?_
    unfold byc
    rw [List.getElem?_map, List.getElem?_eq_getElem hj]
    rfl
theorem below_apart {base bb : Nat} {w w' : World} (h : Apart base bb w w') : Below base w w' := ⟨h.os, h.tape, h.output, h.size, h.block⟩
set_option maxRecDepth 100000 in
set_option maxHeartbeats 4000000 in
theorem gr_calls (g : Nat) (s : ByteArray) (w : World) (hT : Tri g w) (hs : s.size ≤ 600000) :
    Calls Try.prog 101 #[.pointer (some ⟨g, 0, none⟩), .string s] w fun e w' => e = .returned (.string ⟨(tellF s 0).toArray⟩) ∧ Below w.heap.size w w' := by
  obtain ⟨i0, hi, hzz⟩ : ∃ i0, Try.prog.info? 5 = some i0 ∧ (i0.zero, i0.size, i0.bytes) = (some (.int .u8 0), 1, 1) := Option.map_eq_some_iff.1 (show (Try.prog.info? 5).map (fun i => (i.zero, i.size, i.bytes)) = some (some (.int .u8 0), 1, 1) by kernel_rfl)
  simp only [Prod.mk.injEq] at hzz
  obtain ⟨hz0, hz1, hz2⟩ := hzz
  obtain ⟨w1, hrun, hown, hgr⟩ := run_make_own (P := Try.prog) w w.heap.size 162 5 i0 (.int .u8 0) 1 Try.underlying162 hi hz0 hz1 .i64 .i64 s.size (by rw [hz2]; omega) (by unfold maxLen; omega) (Nat.le_refl _)
  have HT1 := Lib.hid (show Tri g w1 from hT.keep (fun j j1 j2 => hgr.block j (by have := hT.top; omega) (by simp)))
  have HTOP := Lib.hid hT.top
  have HOWN := Lib.hid hown
  have HGR := Lib.hid hgr
  clear hi hz0 hz1 hz2 hown hgr hT
  go_enter Try.func101, Try.ntmps101
  go_upto_region 2 with (fail)
  clear hrun
  have HB0 := Lib.hid (show Buf w.heap.size w1.heap.size (w1.alloc (.cells #[.slice (some ⟨w.heap.size, 0, none⟩) 0 s.size] 162)) [] from ⟨⟨_, Blk.alloc w1 _ _, HOWN.out.alloc _⟩, HGR.out.size, by have := HGR.out.size; simp; omega⟩)
  have HT2 := Lib.hid (show Tri g (w1.alloc (.cells #[.slice (some ⟨w.heap.size, 0, none⟩) 0 s.size] 162)) from HT1.out.keep (fun j j1 j2 => Below.heap_alloc _ _ _ (by have := HGR.out.size; have := HTOP.out; omega)))
  have HW2 := Lib.hid (show Below w.heap.size w (w1.alloc (.cells #[.slice (some ⟨w.heap.size, 0, none⟩) 0 s.size] 162)) from
    (show Below w.heap.size w w1 from ⟨HGR.out.os, HGR.out.tape, HGR.out.output, HGR.out.size, fun k hk => HGR.out.block k hk (by simp)⟩).alloc HGR.out.size _)
  generalize w1.alloc (.cells #[.slice (some ⟨w.heap.size, 0, none⟩) 0 s.size] 162) = W2 at HB0 HT2 HW2 ⊢
  clear HT1 HOWN HGR
  generalize w1.heap.size = bb at HB0 ⊢
  go_upto_region 3 with (go_at_call 102; refine (wr_calls g w.heap.size bb s _ HT2.out (by have := HTOP.out; omega) HB0.out hs).mono ?_; rintro e w2 ⟨⟨n, rfl⟩, hb, ha⟩; obtain ⟨⟨v, hv1, hv2⟩, -, -⟩ := hb; have hcv := conv_own hv2; obtain ⟨A2, c2, rfl⟩ := own_slice hv2; have c0 : w2.cell? ⟨bb, 0, none⟩ = some (.slice A2 (tellF s 0).length c2) := hv1.cell 0; have HA := Lib.hid (below_apart ha); clear ha hv1 hv2)
  go_wp2_with fail
  go_ret
  exact ⟨rfl, HW2.out.trans HA.out⟩
end Go.Proofs.Ytkjgnkmnngaioaa.Q

/- 'strings.NewReplacer', of eight strings. -/
namespace Go.Proofs.Ytkjgnkmnngaioaa.Q
open Go.RowKit Go.Proofs.Ytkjgnkmnngaioaa.Mem
set_option linter.unusedVariables false
set_option linter.unusedSimpArgs false

/-- What a new Replacer is. -/
def NewR (m : Nat) (news : List Value) (w : World) (e : Ending) (w' : World) : Prop :=
  ∃ b ob c, e = .returned (.pointer (some ⟨b, 0, none⟩)) ∧ Blk w' b (RB 0 0 .nilIface (.slice (some ⟨ob, 0, none⟩) m c)) 70 ∧ ob ≠ b ∧ w.heap.size ≤ b ∧ (∀ j u, news[j]? = some u → w'.cell? ⟨ob, j, none⟩ = some u) ∧ Below w.heap.size w w'
theorem own_some {w : World} {base : Nat} {e : TypeId} {v : Value} {n : Nat} {xs : List Value} (h : w.ownsRow base e 1 v n xs) (h0 : 0 < n) :
    ∃ g cap, v = .slice (some ⟨g, 0, none⟩) n cap ∧ base ≤ g ∧ g < w.heap.size ∧ ∀ j u, xs[j]? = some u → w.cell? ⟨g, j, none⟩ = some u := by
  have hc := h
  rcases h.2 with ⟨rfl, h1⟩ | ⟨g, cap, cur, rfl, h1, h2, h3⟩
  · omega
  · refine ⟨g, cap, rfl, h1, ?_, fun j u hj => ?_⟩
    · rcases Nat.lt_or_ge g w.heap.size with h4 | h4
      · exact h4
      · rw [Array.getElem?_eq_none h4] at h2; cases h2
    · have := hc.cells (g := g) rfl j u hj
      have e1 : (⟨g, 0, none⟩ : Addr).add j = ⟨g, j, none⟩ := by unfold Addr.add; split <;> simp_all
      rwa [e1] at this
set_option maxRecDepth 100000 in
set_option maxHeartbeats 1600000 in
theorem new_calls8 (ob0 c0 : Nat) (news : List Value) (w : World) (hl : news.length = 8) (hn : ∀ j u, news[j]? = some u → w.cell? ⟨ob0, j, none⟩ = some u) (h1 : ∀ u ∈ news, u.oneCell' = true) :
    Calls Try.prog 13 #[.slice (some ⟨ob0, 0, none⟩) 8 c0] w (NewR 8 news w) := by
  obtain ⟨i0, hi, hzz⟩ : ∃ i0, Try.prog.info? 9 = some i0 ∧ (i0.zero, i0.size, i0.bytes) = (some (.string ⟨#[]⟩), 1, 16) := Option.map_eq_some_iff.1 (show (Try.prog.info? 9).map (fun i => (i.zero, i.size, i.bytes)) = some (some (.string ⟨#[]⟩), 1, 16) by kernel_rfl)
  simp only [Prod.mk.injEq] at hzz
  obtain ⟨hz0, hz1, hz2⟩ := hzz
  have HI := Lib.hid hi
  have HZ0 := Lib.hid hz0
  have HZ1 := Lib.hid hz1
  have HZ2 := Lib.hid hz2
  have HL := Lib.hid hl
  have HN := Lib.hid (show ∀ j u, news[j]? = some u → w.cell? ((⟨ob0, 0, none⟩ : Addr).add j) = some u from fun j u h => by
    have : (⟨ob0, 0, none⟩ : Addr).add j = ⟨ob0, j, none⟩ := by unfold Addr.add; split <;> simp_all
    rw [this]; exact hn j u h)
  have H1 := Lib.hid h1
  clear hi hz0 hz1 hz2 hl hn h1
  go_enter Try.func13, Try.ntmps13
  go_wp2_with (at_builtin; refine wpList_append_own _ rfl _ _ 42 rfl w.heap.size 9 i0 (.string ⟨#[]⟩) 1 16 Try.underlying42 HI.out HZ0.out HZ1.out HZ2.out rfl (by decide) (.slice none 0 0) 0 [] rfl (World.ownsRow_nil _ _ _ _) ⟨ob0, 0, none⟩ 8 c0 news rfl (by rw [HL.out]) HN.out H1.out (by unfold maxLen; omega) (by omega) (Nat.le_refl _) ?_; intro v1 w1 ho1 hg1 h2; obtain ⟨g, cap, rfl, hg2, hg3, hg4⟩ := own_some ho1 (by omega); have HG1 := Lib.hid hg1; have HG2 := Lib.hid hg2; have HG3 := Lib.hid hg3; have HG4 := Lib.hid hg4; clear ho1 hg1 h2 hg2 hg3 hg4)
  refine bodyPost_ret (v := .pointer (some ⟨w1.heap.size, 0, none⟩)) (by simp [results, Try.results13, go_sem]) rfl ?_
  have hs := HG1.out.size
  have hg3 := HG3.out
  refine ⟨w1.heap.size, g, cap, rfl, Blk.alloc w1 _ _, by omega, hs, fun j u hj => ?_, ?_⟩
  · rw [World.cell?_of_block (w := w1) (Below.heap_alloc _ _ _ hg3)]
    exact HG4.out j u (by simpa using hj)
  · exact (show Below w.heap.size w w1 from ⟨HG1.out.os, HG1.out.tape, HG1.out.output, hs, fun k hk => HG1.out.block k hk (by simp [Value.ownBlock])⟩).alloc hs _
set_option maxRecDepth 100000 in
set_option maxHeartbeats 1600000 in
theorem new_calls6 (ob0 c0 : Nat) (news : List Value) (w : World) (hl : news.length = 6) (hn : ∀ j u, news[j]? = some u → w.cell? ⟨ob0, j, none⟩ = some u) (h1 : ∀ u ∈ news, u.oneCell' = true) :
    Calls Try.prog 13 #[.slice (some ⟨ob0, 0, none⟩) 6 c0] w (NewR 6 news w) := by
  obtain ⟨i0, hi, hzz⟩ : ∃ i0, Try.prog.info? 9 = some i0 ∧ (i0.zero, i0.size, i0.bytes) = (some (.string ⟨#[]⟩), 1, 16) := Option.map_eq_some_iff.1 (show (Try.prog.info? 9).map (fun i => (i.zero, i.size, i.bytes)) = some (some (.string ⟨#[]⟩), 1, 16) by kernel_rfl)
  simp only [Prod.mk.injEq] at hzz
  obtain ⟨hz0, hz1, hz2⟩ := hzz
  have HI := Lib.hid hi
  have HZ0 := Lib.hid hz0
  have HZ1 := Lib.hid hz1
  have HZ2 := Lib.hid hz2
  have HL := Lib.hid hl
  have HN := Lib.hid (show ∀ j u, news[j]? = some u → w.cell? ((⟨ob0, 0, none⟩ : Addr).add j) = some u from fun j u h => by
    have : (⟨ob0, 0, none⟩ : Addr).add j = ⟨ob0, j, none⟩ := by unfold Addr.add; split <;> simp_all
    rw [this]; exact hn j u h)
  have H1 := Lib.hid h1
  clear hi hz0 hz1 hz2 hl hn h1
  go_enter Try.func13, Try.ntmps13
  go_wp2_with (at_builtin; refine wpList_append_own _ rfl _ _ 42 rfl w.heap.size 9 i0 (.string ⟨#[]⟩) 1 16 Try.underlying42 HI.out HZ0.out HZ1.out HZ2.out rfl (by decide) (.slice none 0 0) 0 [] rfl (World.ownsRow_nil _ _ _ _) ⟨ob0, 0, none⟩ 6 c0 news rfl (by rw [HL.out]) HN.out H1.out (by unfold maxLen; omega) (by omega) (Nat.le_refl _) ?_; intro v1 w1 ho1 hg1 h2; obtain ⟨g, cap, rfl, hg2, hg3, hg4⟩ := own_some ho1 (by omega); have HG1 := Lib.hid hg1; have HG2 := Lib.hid hg2; have HG3 := Lib.hid hg3; have HG4 := Lib.hid hg4; clear ho1 hg1 h2 hg2 hg3 hg4)
  refine bodyPost_ret (v := .pointer (some ⟨w1.heap.size, 0, none⟩)) (by simp [results, Try.results13, go_sem]) rfl ?_
  have hs := HG1.out.size
  have hg3 := HG3.out
  refine ⟨w1.heap.size, g, cap, rfl, Blk.alloc w1 _ _, by omega, hs, fun j u hj => ?_, ?_⟩
  · rw [World.cell?_of_block (w := w1) (Below.heap_alloc _ _ _ hg3)]
    exact HG4.out j u (by simpa using hj)
  · exact (show Below w.heap.size w w1 from ⟨HG1.out.os, HG1.out.tape, HG1.out.output, hs, fun k hk => HG1.out.block k hk (by simp [Value.ownBlock])⟩).alloc hs _
theorem new_calls (ob0 : Nat) (news : List Value) (w : World) (hl : news.length = 8) (hn : ∀ j u, news[j]? = some u → w.cell? ⟨ob0, j, none⟩ = some u) (h1 : ∀ u ∈ news, u.oneCell' = true) :
    Calls Try.prog 13 #[.slice (some ⟨ob0, 0, none⟩) 8 8] w (NewR 8 news w) := new_calls8 ob0 8 news w hl hn h1
end Go.Proofs.Ytkjgnkmnngaioaa.Q

/- 'token.Tell': what a text tells. -/
namespace Go.Proofs.Ytkjgnkmnngaioaa.Q
open Go.RowKit Go.IntWalk Go.Proofs.Ytkjgnkmnngaioaa.Mem
set_option linter.unusedVariables false
set_option linter.unusedSimpArgs false

theorem hmr (p : Addr) (w : World) : (method 275 85 (.pointer (some p)) "Replace").run Try.prog w = .ok (101, .pointer (some p)) w := by kernel_rfl
set_option maxRecDepth 100000 in
set_option maxHeartbeats 1600000 in
theorem rep_calls (b ob c : Nat) (s : ByteArray) (w : World) (hB : Blk w b (RB 0 0 .nilIface (.slice (some ⟨ob, 0, none⟩) 8 c)) 70) (hob : ob ≠ b) (hK : ∀ a, a < 4 → w.cell? ⟨ob, 2 * a, none⟩ = some (.string (ks a)) ∧ w.cell? ⟨ob, 2 * a + 1, none⟩ = some (.string (vs a))) (hs : s.size ≤ 600000) :
    Calls Try.prog 14 #[.pointer (some ⟨b, 0, none⟩), .string s] w fun e w' => e = .returned (.string ⟨(tellF s 0).toArray⟩) ∧ But b w w' := by
  have HS := Lib.hid ((size_set w ⟨b, 1, none⟩ (.int .i32 1)))
  have hF := once_calls b ob c (w.setCell ⟨b, 1, none⟩ (.int .i32 1)) (hB.set 1 _) hob (fun a ha => ⟨(World.cell?_of_block (Below.heap_setCell _ _ _ _ hob)).trans (hK a ha).1, (World.cell?_of_block (Below.heap_setCell _ _ _ _ hob)).trans (hK a ha).2⟩)
  have hD := do_build b .nilIface (.slice (some ⟨ob, 0, none⟩) 8 c) _ w hB (fun w' hq => by obtain ⟨c4, h⟩ := hq.rep; exact ⟨_, c4, h⟩) hF
  have HD := Lib.hid hD
  have HBL := Lib.hid hB.lt
  have hmr := hmr
  have hmf : ∀ (fn : Fn) (first cap : Array Value) (w : World), (Instr.makeFunc fn first cap).run Try.prog w = .ok (.func fn first cap) w := fun _ _ _ _ => rfl
  clear hF hD hB hK
  go_enter Try.func14, Try.ntmps14
  go_upto_region 2 with (go_at_call 19; refine HD.out.mono ?_; rintro e w1 ⟨rfl, w2, hq, hw1⟩; have HQ := Lib.hid hq; have HW1 := Lib.hid hw1; clear hq hw1)
  have HT := Lib.hid (show Tri w.heap.size w1 from by
    have ht := HQ.out.trie
    rw [HS.out] at ht
    rw [HW1.out]
    exact ht.keep (fun j j1 _ => ((Below.heap_setCell _ _ _ _ (show j ≠ b by have := HBL.out; omega)).trans (Below.heap_setCell _ _ _ _ (show j ≠ b by have := HBL.out; omega)))))
  have HZ := Lib.hid (show But b w w1 from by
    rw [HW1.out]
    exact (((((But.refl b w).setCell 1 _).trans HQ.out.but).drewN 1).setCell 0 _).setCell 1 _)
  have c3 : w1.cell? ⟨b, 3, none⟩ = some (.iface 85 (.pointer (some ⟨w.heap.size, 0, none⟩))) := by
    obtain ⟨c4, h⟩ := HQ.out.rep
    rw [HS.out] at h
    rw [HW1.out]
    exact ((h.drew.set 0 _).set 1 _).cell 3
  clear HQ HW1 HD HS
  go_wp2_with (go_at_call 101; refine (gr_calls w.heap.size s _ HT.out hs).mono ?_; rintro e w3 ⟨rfl, hb⟩; have HB3 := Lib.hid hb; clear hb)
  go_ret
  exact ⟨rfl, HZ.out.trans (But.of_below HB3.out)⟩
/-- The pairs of signs and bytes. -/
def PR : List Value := [.string (ks 0), .string (vs 0), .string (ks 1), .string (vs 1), .string (ks 2), .string (vs 2), .string (ks 3), .string (vs 3)]
set_option maxRecDepth 100000 in
set_option maxHeartbeats 1600000 in
theorem tell_calls (s : ByteArray) (w : World) (hs : s.size ≤ 600000) :
    Calls Try.prog 9 #[.string s] w fun e w' => e = .returned (.string ⟨(tellF s 0).toArray⟩) ∧ Below w.heap.size w w' := by
  have hN : ∀ W T, Blk W w.heap.size PR.toArray T → Calls Try.prog 13 #[.slice (some ⟨w.heap.size, 0, none⟩) 8 8] W (NewR 8 PR W) := fun W T hB => new_calls w.heap.size PR W rfl (fun j u hj => by rw [hB.cell, List.getElem?_toArray]; exact hj) (by decide)
  have HN := Lib.hid hN
  clear hN
  go_enter Try.func9, Try.ntmps9
  go_wp2_with fail
  refine (HN.out _ 9 (Blk.alloc w PR.toArray 9)).mono ?_
  rintro e w1 ⟨b, ob, c, rfl, h1, h2, h3, h4, h5⟩
  have HB := Lib.hid h1
  have HO := Lib.hid h2
  have HL := Lib.hid (show w.heap.size ≤ b from Nat.le_trans (by simp) h3)
  have HK := Lib.hid (show ∀ a, a < 4 → w1.cell? ⟨ob, 2 * a, none⟩ = some (.string (ks a)) ∧ w1.cell? ⟨ob, 2 * a + 1, none⟩ = some (.string (vs a)) from fun a ha => by
    have : a = 0 ∨ a = 1 ∨ a = 2 ∨ a = 3 := by omega
    rcases this with rfl | rfl | rfl | rfl
    · exact ⟨h4 0 _ rfl, h4 1 _ rfl⟩
    · exact ⟨h4 2 _ rfl, h4 3 _ rfl⟩
    · exact ⟨h4 4 _ rfl, h4 5 _ rfl⟩
    · exact ⟨h4 6 _ rfl, h4 7 _ rfl⟩)
  have HW := Lib.hid (show Below w.heap.size w w1 from ((Below.refl _ _).alloc (Nat.le_refl _) _).trans (h5.mono (by simp)))
  clear h1 h2 h3 h4 h5 HN
  go_wp2_with (go_at_call 14; refine (rep_calls b ob c s _ HB.out HO.out HK.out hs).mono ?_; rintro e w2 ⟨rfl, hb⟩; have HZ := Lib.hid hb; clear hb)
  go_ret
  exact ⟨rfl, HW.out.trans (HZ.out.below HL.out HW.out.size)⟩
end Go.Proofs.Ytkjgnkmnngaioaa.Q
