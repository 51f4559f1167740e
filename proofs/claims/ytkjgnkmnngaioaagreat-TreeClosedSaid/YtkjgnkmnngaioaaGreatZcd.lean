/- What the proof of treeClosed_holds needs, of the texts that this work has written and of the words that the kit's print lends. -/
import Derived.Test.YtkjgnkmnngaioaaGreatZcb
import Derived.Test.YtkjgnkmnngaioaaGreatZcc
import Derived.OrdersIn
import Derived.TacticsIn
import Derived.RangeFuncCalls
import Derived.Shelf.Abstract
import Derived.Test.YtkjgnkmnngaioaaGreatProg
import Derived.Lib.SliceRun
import Derived.IntWalk
import Derived.WalkSpells
import Derived.Laws.IdiomStrings
import Derived.Lib.Bytealg
import Derived.BigQuiet
import Derived.Deep.QuietTactic
import Derived.StillTailTactics
import Derived.Deep.DeepCutAuto
import Derived.Deep.CutBlock
import Derived.Lib.SlBytesRow
import Derived.WalkKit
import Derived.Defers
import Derived.Laws.Pointers
import Derived.Laws.LoneSync
import Derived.RegionTactic
import Derived.RegionCalls
import Derived.KernelRfl
namespace Go.Proofs.YtkjgnkmnngaioaaGreat.Mix
variable {P : Program}
theorem rowsIn_wide {n : Nat} {row : String} {args : Array Value} {w : World} {R : Value → World → Prop} (h : Rows P row args w R) : RowsIn Fence.wide n P row args w R :=
  fun c cs _ => let ⟨v, w', r, s⟩ := h c cs; ⟨v, w', r, stepsIn_wide.2 s⟩
theorem op_in (r n : Nat) {o : Oper} {a : Act} {w : World} {K : Act → World → Prop} {Q : Exit → Act → World → Prop} (hd : ∀ c, o.op ≠ .defer c) (h : Oper.wp P o a w K Q) : Oper.wpIn (Fence.wide.inRound r) n P o a w K Q := by
  refine ⟨fun _ _ => trivial, ?_⟩
  show o.uponIn (Fence.wide.inRound r) n P a K Q ((o.semAt (some r) a.eval).run P w)
  rw [Oper.semAt_some r _ _ hd]
  unfold Oper.wp at h
  generalize (execOp a.eval o).run P w = x at *
  cases x with
  | ok y w' =>
    cases y with
    | enter f args => exact ⟨fun e => (by cases e), CallsIn.inRound r (callsIn_wide.2 h)⟩
    | row q args => exact ⟨fun e => (by cases e), fun c cs hroom => rowsIn_wide h c cs hroom⟩
    | _ => first | exact h | exact h.elim
  | halt y w' => cases y <;> exact h
def noDefer (ops : List Oper) : Bool := ops.all fun o => match o.op with | .defer _ => false | _ => true
theorem noDefer_spec {ops : List Oper} (h : noDefer ops = true) {i : Nat} {o : Oper} (ho : ops.toArray[i]? = some o) : ∀ c, o.op ≠ .defer c := fun c e => by
  unfold noDefer at h
  rw [List.all_eq_true] at h
  have := h o (List.mem_of_getElem? (by simpa using ho))
  rw [e] at this
  cases this
theorem any_in (r n : Nat) {md : Region.Mode} {l : List Oper} {Q : Exit → Act → World → Prop} (hd : noDefer l = true) (hl : ¬ LetsOut Q) : ∀ (fuel : Nat) (L : Array Bool) (a : Act) (w : World), wpAny P md l.toArray Q fuel L a w → wpAnyIn (Fence.wide.inRound r) n P md l.toArray Q fuel L a w
  | 0, _, _, _, h => h
  | fuel + 1, L, a, w, h => by
    refine ⟨h.1, fun i hi => ?_⟩
    have h1 := h.2 i hi
    unfold wpOp at h1
    unfold wpOpIn
    split
    · rename_i ho; rw [ho] at h1; exact any_in r n hd hl fuel _ _ _ h1
    · rename_i o ho
      rw [ho] at h1
      dsimp only at h1
      split
      · rename_i hw
        rw [if_pos hw] at h1
        exact op_in r n (noDefer_spec hd ho) (Oper.wp_mono (fun a w hk => any_in r n hd hl fuel _ a w hk) (h1.resolve_right (fun h => hl h.2)))
      · rename_i hw
        rw [if_neg hw] at h1
        exact ⟨fun _ _ => trivial, any_in r n hd hl fuel _ _ _ h1⟩
/-- Where it goes on, and nothing else. -/
def onlyN (K : Act → World → Prop) : Exit → Act → World → Prop
  | .normal, a, w => K a w
  | _, _, _ => False
theorem wpIn_region_mix (r n : Nat) {id : Nat} {Q : Exit → Act → World → Prop} {a : Act} {w : World} {l : List Oper} (C : Nat → World → Prop) (fl : List Nat) (hm : P.follows .mixedOrders = true) (hd : noDefer l = true)
    (hB : (Region.lexB .any l.toArray && inOrder .any l.toArray fl.contains) = true) (hC : C 0 w.drew)
    (h : wpMix P l.toArray C fl.contains (fun k => (lo .any l.toArray fl.contains k, up .any l.toArray fl.contains k)) (fun i a' => ∀ w', C i w' → Q .normal a' w') l 0 0 a) : (Code.region id l.toArray true).wpIn (Fence.wide.inRound r) n P Q a w :=
  wpIn_mono (wpIn_region_any (Q := onlyN (Q .normal)) hm (any_in r n hd (fun ⟨_, _, h⟩ => h) _ _ _ _ (any_mix C fl hB hC h))) (fun e a w hq => by cases e <;> first | exact hq | exact hq.elim)
end Go.Proofs.YtkjgnkmnngaioaaGreat.Mix
namespace Go.Proofs.YtkjgnkmnngaioaaGreat.Q
open Go.RowKit Go.Shelf Go.IntWalk Go.Proofs.YtkjgnkmnngaioaaGreat.Mem Go.Proofs.YtkjgnkmnngaioaaGreatW.PrintWords Go.Proofs.YtkjgnkmnngaioaaGreatW.PrintLast Go.Proofs.YtkjgnkmnngaioaaGreatW.PrintMore
set_option linter.unusedVariables false
set_option linter.unusedSimpArgs false
attribute [local go_sem] Oper.semAt_some
def hit (l : List Nd) (s : ByteArray) (i : Nat) : Bool := decide (0 < i) && decide ((ndAt l i).f1.toList = s.toList)
/-- The place when an element has ended. -/
def endA (l : List Nd) (a : Int) (s : ByteArray) : Int := match (upL l (l.length + 1) a).find? (fun x => hit l s x.1) with
  | some x => (ndAt l x.1).f0
  | none => a
structure EndS (b B0 H : Nat) (s : ByteArray) (v : Value) (l : List Nd) (a : Int) (w W : World) : Prop where
  box : Blk W b #[v, .int .i64 a] 92
  rows : Kd.S k49 49 W B0 (fun k => k ≠ b ∧ k < H) v l
  pb : Blk W H #[.pointer (some ⟨b, 0, none⟩)] 90
  nb : Blk W (H + 1) #[.string s] 9
  below : Below B0 w W
  kept : KpT w W
theorem EndS.of_row {b B0 H B : Nat} {s : ByteArray} {v : Value} {l : List Nd} {a : Int} {w W W' : World} {row : Option Nat} (h : EndS b B0 H s v l a w W) (hw : B0 ≤ w.heap.size) (hB : B0 ≤ B) (hg : W.grownBy W' row)
    (hr : ∀ r, row = some r → B ≤ r ∧ ∃ o : Obj, W.heap[r]? = some o ∧ o.isCells = false) : EndS b B0 H s v l a w W' := by
  refine ⟨kept_row h.box hg hr, Kd.S_mono (Kd.S_move (Kd.S_bound h.rows) (fun k hk => hg.block k hk.2.2.1 (fun e => ?_))) (fun _ hk => hk.1), kept_row h.pb hg hr, kept_row h.nb hg hr, below_row h.below hw hB hg hr, fun k cs T h1 h2 h3 hb => kept_row (h.kept k cs T h1 h2 h3 hb) hg hr⟩
  obtain ⟨-, o, ho, hc⟩ := hr k e.symm
  obtain ⟨-, -, -, q, -, cells, hq⟩ := hk
  rw [hq] at ho
  cases ho
  cases hc
theorem EndS.next {b B0 H : Nat} {s : ByteArray} {v : Value} {l : List Nd} {a : Int} {w W W' : World} (h : EndS b B0 H s v l a w W) (hw : B0 ≤ w.heap.size) (hb : Below W.heap.size W W') : EndS b B0 H s v l a w W' :=
  ⟨h.box.below hb h.box.lt, Kd.S_below h.rows hb, h.pb.below hb h.pb.lt, h.nb.below hb h.nb.lt, h.below.trans (hb.mono (Nat.le_trans hw h.below.size)), h.kept.trans (KpT.of_below hb)⟩
theorem EndS.setBox {b B0 H Bx : Nat} {s : ByteArray} {v u : Value} {l : List Nd} {a : Int} {w W : World} (h : EndS b B0 H s v l a w W) (hx : H + 1 < Bx) (hbx : b < H) (hB : B0 ≤ Bx) (hT : KpT w (W.setCell ⟨Bx, 0, none⟩ u)) : EndS b B0 H s v l a w (W.setCell ⟨Bx, 0, none⟩ u) :=
  ⟨h.box.setCell_other _ (fun e => by have e2 : b = Bx := e; omega), Kd.S_far (p := ⟨Bx, 0, none⟩) h.rows (fun k hk e => by have e2 : k = Bx := e; have := hk.2; omega) _, h.pb.setCell_other _ (fun e => by have e2 : H = Bx := e; omega), h.nb.setCell_other _ (fun e => by have e2 : H + 1 = Bx := e; omega), h.below.setCell (p := ⟨Bx, 0, none⟩) hB _, hT⟩
def EndP (b B0 : Nat) (l : List Nd) (a : Int) (s : ByteArray) (w : World) (e : Ending) (w' : World) : Prop :=
  e = .returned (.tuple #[]) ∧ (∃ v', Bd b B0 (fun k => k ≠ b) v' l (endA l a s) w') ∧ Below B0 w w' ∧ KpT w w'
set_option maxRecDepth 100000 in
set_option maxHeartbeats 8000000 in
theorem end_el_calls (b B0 : Nat) (v : Value) (l : List Nd) (a : Int) (s : ByteArray) (w : World) (hB : Bd b B0 (fun k => k ≠ b) v l a w) (hok : okUp l) (hl : l.length ≤ 60) :
    Calls Tryz.prog 62 #[.pointer (some ⟨b, 0, none⟩), .string s] w (EndP b B0 l a s w) := by
  have HB := Lib.hid hB
  have HU := Lib.hid hok
  have HL := Lib.hid hl
  have HBL := Lib.hid hB.box.lt
  have HBB := Lib.hid (show B0 ≤ w.heap.size from Nat.le_trans hB.base (Nat.le_of_lt hB.box.lt))
  obtain ⟨A, c, rfl, hlc, hrd⟩ := Kd.S_reads hB.rows
  have HC := Lib.hid hrd
  clear hB hok hl hlc hrd
  refine (callsIn_wide (n := 5)).1 ?_
  refine callsIn_of_wp_marks Tryz.func62 rfl trivial ?_ rfl
  simp only [Tryz.ntmps62, List.size_toArray, List.length_cons, List.length_nil, Nat.reduceAdd, Nat.reduceSub, Array.replicate_succ, Array.replicate_zero, List.push_toArray, List.append_toArray, List.nil_append, List.cons_append]
  refine wpIn_wide.2 ?_
  have Y1 := Lib.hid (show EndS b B0 w.heap.size s (.slice A l.length c) l a w ((w.alloc (.cells #[.pointer (some ⟨b, 0, none⟩)] 90)).alloc (.cells #[.string s] 9)) from
    ⟨(HB.out.box.alloc_old _).alloc_old _, Kd.S_alloc (Kd.S_old HB.out.rows (below_alloc (Below.refl _ w) (.cells #[.pointer (some ⟨b, 0, none⟩)] 90))) _, (Blk.alloc _ _ _).alloc_old _, Blk.alloc_at _ _ _ (by simp), (below_alloc (below_alloc (Below.refl w.heap.size w) _) _).mono HBB.out, KpT.of_below (below_alloc (below_alloc (Below.refl w.heap.size w) _) _)⟩)
  have Y2 := Lib.hid (show Below w.heap.size w ((w.alloc (.cells #[.pointer (some ⟨b, 0, none⟩)] 90)).alloc (.cells #[.string s] 9)) from below_alloc (below_alloc (Below.refl w.heap.size w) _) _)
  have Y3 := Lib.hid (show ((w.alloc (.cells #[.pointer (some ⟨b, 0, none⟩)] 90)).alloc (.cells #[.string s] 9)).heap.size = w.heap.size + 2 by simp)
  go_upto_region 1 with (fail)
  generalize ((w.alloc (.cells #[.pointer (some ⟨b, 0, none⟩)] 90)).alloc (.cells #[.string s] 9)) = w1 at Y1 Y2 Y3 ⊢
  have b0 := Y1.out.box.cell 0
  have b1 := Y1.out.box.cell 1
  have p0 := Y1.out.pb.cell 0
  simp only [List.getElem?_toArray, List.getElem?_cons_zero, List.getElem?_cons_succ] at b0 b1 p0
  have Z1 := Lib.hid (Y1.out.next HBB.out (below_drew (Below.refl _ w1)))
  have Z3 := Lib.hid (show w1.drew.heap.size = w.heap.size + 2 from Y3.out)
  have Z2 := Lib.hid (below_drew Y2.out)
  obtain ⟨w2, hw2⟩ : ∃ y, y = w1.drew := ⟨_, rfl⟩
  rw [← hw2] at Z1 Z2 Z3
  have HW2 := Lib.hid hw2
  clear hw2 b0 b1 p0
  have b0 := Z1.out.box.cell 0
  have b1 := Z1.out.box.cell 1
  have p0 := Z1.out.pb.cell 0
  simp only [List.getElem?_toArray, List.getElem?_cons_zero, List.getElem?_cons_succ] at b0 b1 p0
  have X1 := Blk.alloc w2 #[.slice A l.length c] 38
  have X2 := Blk.alloc_at (w2.alloc (.cells #[.slice A l.length c] 38)) (b := w2.heap.size + 1) #[.int .i64 a] 3 (by simp)
  have V1 := Lib.hid (X1.alloc_old (.cells #[.int .i64 a] 3))
  have V2 := Lib.hid X2
  have VB := Lib.hid (show Below w2.heap.size w2 ((w2.alloc (.cells #[.slice A l.length c] 38)).alloc (.cells #[.int .i64 a] 3)) from below_alloc (below_alloc (Below.refl w2.heap.size w2) _) _)
  have VS := Lib.hid (show ((w2.alloc (.cells #[.slice A l.length c] 38)).alloc (.cells #[.int .i64 a] 3)).heap.size = w.heap.size + 4 by have := Z3.out; simp; omega)
  have VE := Lib.hid (Z1.out.next HBB.out VB.out)
  have VW := Lib.hid (Z2.out.trans (VB.out.mono Z2.out.size))
  obtain ⟨L, hL⟩ : ∃ L : List World, L = [w2, ((w2.alloc (.cells #[.slice A l.length c] 38)).alloc (.cells #[.int .i64 a] 3))] := ⟨_, rfl⟩
  have HL0 := Lib.hid (show L[0]? = some w2 from by rw [hL]; rfl)
  have HL1 := Lib.hid (show L[1]? = some ((w2.alloc (.cells #[.slice A l.length c] 38)).alloc (.cells #[.int .i64 a] 3)) from by rw [hL]; rfl)
  clear hL X1 X2
  have ne := Mix.CL.ne HL0.out
  have nx := Mix.CL.nx (p := 0) (q := 0) HL0.out (Nat.le_refl _)
  have q0 := Mix.CL.at0 HL0.out b0
  have q1 := Mix.CL.at0 HL0.out b1
  have q2 := Mix.CL.at0 HL0.out p0
  clear b0 b1 p0
  refine Mix.wp_region_mix (C := Mix.CL L) [8] (by kernel_rfl) (by kernel_rfl) (by rw [← HW2.out]; exact HL0.out) ?_
  iterate 1 (refine Mix.mix_in 0 0 (by decide) (by kernel_rfl) (fun K hK => ?_); go_simp; refine hK _ ?_; clear hK K)
  iterate 2 (refine Mix.mix_still (by decide) (fun K hK => ?_); go_simp; refine hK _ ?_; clear hK K)
  iterate 2 (refine Mix.mix_in 0 0 (by decide) (by kernel_rfl) (fun K hK => ?_); go_simp; refine hK _ ?_; clear hK K)
  iterate 2 (refine Mix.mix_still (by decide) (fun K hK => ?_); go_simp; refine hK _ ?_; clear hK K)
  iterate 1 (refine Mix.mix_in 0 0 (by decide) (by kernel_rfl) (fun K hK => ?_); go_simp; refine hK _ ?_; clear hK K)
  refine Mix.mix_turn (by decide) (fun K hK => ?_)
  go_simp
  refine ⟨.func (.func 113) #[] #[.pointer (some ⟨w2.heap.size + 1, 0, none⟩), .pointer (some ⟨w2.heap.size, 0, none⟩)], fun w_ hw_ => ?_, hK _ ?_⟩
  · have e_ := (Mix.CL.eq HL0.out hw_).symm
    subst e_
    exact (up_calls _ _ _ _ _).mono fun e_ w_ ⟨h1_, h2_⟩ => ⟨h1_, by rw [h2_]; exact HL1.out⟩
  clear hK K
  refine Mix.mix_nil ?_
  intro w_ hw_
  have e_ := (Mix.CL.eq HL1.out hw_).symm
  subst e_
  clear ne nx q0 q1 q2 hw_ HL0 HL1 Y1 Y2 Y3 Z1 Z2 HW2
  generalize ((w2.alloc (.cells #[.slice A l.length c] 38)).alloc (.cells #[.int .i64 a] 3)) = w3 at V1 V2 VB VS VE VW ⊢
  rename_i K hKK
  show K _ _
  refine hKK _ _ ?_
  clear hKK K
  have HZ := Z3
  refine (wpIn_wide (n := 5)).1 ?_
  refine wpIn_block ?_
  refine range_box (α := Fin l.length) rfl (by decide) (gf := 113) (lb := #[.pointer (some ⟨w2.heap.size + 1, 0, none⟩), .pointer (some ⟨w2.heap.size, 0, none⟩)]) rfl trivial (enters_of Tryz.func113 (by kernel_rfl) rfl)
    (show w2.heap.size + 1 < w3.heap.size by have := VS.out; have := Z3.out; omega)
    (up_box Fence.wide (5 - 1) trivial rfl (by decide) (w2.heap.size + 1) w2.heap.size A c l a w w3 HC.out HU.out VW.out V2.out V1.out (by omega) (by have := Z3.out; omega))
    (fun h k => ⟨h.1.trans k.1, fun b cs T hb h3 => k.2 b cs T hb (h.2 b cs T hb h3)⟩) (kpu_b (by have := VS.out; omega)) (fun _ => rfl)
    (fun pre W => (∀ y ∈ pre, hit l s y.1 = false) ∧ EndS b B0 w.heap.size s (.slice A l.length c) l a w W)
    (fun c_ pre W => c_ = .ret ∧ ∃ p0 x, pre = p0 ++ [x] ∧ (∀ y ∈ p0, hit l s y.1 = false) ∧ hit l s x.1 = true ∧ EndS b B0 w.heap.size s (.slice A l.length c) l (ndAt l x.1).f0 w W)
    (fun s_ X X' row hs hg hr => ⟨hs.1, hs.2.of_row HBB.out (by have := VS.out; have := HBB.out; omega) hg hr⟩)
    (fun c_ s_ X X' row hs hg hr => by
      obtain ⟨h1, p0, x, h2, h3, h4, h5⟩ := hs
      exact ⟨h1, p0, x, h2, h3, h4, h5.of_row HBB.out (by have := VS.out; have := HBB.out; omega) hg hr⟩)
    (fun s_ X u hs => ⟨hs.1, hs.2.setBox (by have := Z3.out; omega) HBL.out (by have := Z3.out; have := HBB.out; omega) (fun k cs T h1 h2 h3 hb => (hs.2.kept k cs T h1 h2 h3 hb).setCell_other _ (fun e => by have e2 : k = w2.heap.size + 1 := e; have := hb.lt; have := Z3.out; omega))⟩)
    ⟨(fun y hy => by cases hy), VE.out⟩
    (fun x => { tmps := #[.pointer (some ⟨b, 0, none⟩), .string s, .pointer (some ⟨w.heap.size, 0, none⟩), .pointer (some ⟨w.heap.size + 1, 0, none⟩), .int .i64 (x.1 : Int), .pointer (some ⟨b, 0, none⟩), .pointer (some ⟨b, 0, none⟩), .pointer (some ⟨b, 0, none⟩), .slice A l.length c, .pointer (some ⟨b, 0, none⟩), .pointer (some ⟨b, 0, none⟩), .pointer (some ⟨b, 1, none⟩), .int .i64 a, .func (.func 113) #[] #[.pointer (some ⟨w2.heap.size + 1, 0, none⟩), .pointer (some ⟨w2.heap.size, 0, none⟩)], .int .i64 (x.1 : Int), undef, undef, undef, undef, undef, undef, undef, undef, undef, undef, undef, undef, undef, undef, undef, undef, undef, undef, undef, undef, undef, undef, undef, undef, undef], defers := [] })
    ?assign ?body ?done ?stop
  case assign =>
    intro r x W K hK
    unfold encU
    rw [show (#[14].zip #[Value.int IntKind.i64 (x.1 : Int)]) = #[(14, Value.int IntKind.i64 (x.1 : Int))] from by simp]
    simp only [List.foldl_toArray, List.foldl_cons, List.foldl_nil, List.setIfInBounds_toArray, List.set_cons_succ, List.set_cons_zero]
    gi_wp2
    exact hK
  case body =>
    rintro r pre x W ⟨hno, hE⟩ hlt
    have hx := x.2
    obtain ⟨g, cap, hv, hg1, hg2, cellsg, hg3⟩ := Kd.S_form hE.rows (by omega)
    injection hv with hv1 hv2 hv3
    subst hv1 hv3
    obtain ⟨oki, ce, hcl, hMe, hcc, hfr, hoki, hHe⟩ := Kd.S_elem hE.rows z49 (x.1 : Int) (by omega) (by omega)
    obtain ⟨va, vk, hce, hRa, hRk⟩ := k49_openM hMe
    subst hce
    rw [Int.toNat_natCast] at hcc
    obtain ⟨y, hy⟩ : ∃ y, y = l.getD x.1 z49 := ⟨_, rfl⟩
    rw [← hy] at hcc
    have HYE := Lib.hid (show y = ndAt l x.1 from hy)
    clear hy
    have t0 : W.cell? ⟨g, x.1 * 5, none⟩ = some (.int .i64 y.f0) := hcc 0 _ rfl
    have t1 : W.cell? ⟨g, x.1 * 5 + 1, none⟩ = some (.string y.f1) := hcc 1 _ rfl
    have HNO := Lib.hid hno
    have HE := Lib.hid hE
    have HX := Lib.hid hx
    obtain ⟨m, hm⟩ : ∃ m, m = x.1 := ⟨_, rfl⟩
    rw [← hm] at t0 t1 HX ⊢
    have HM := Lib.hid hm
    clear hm hno hE hx hlt hcl hMe hcc hfr hoki hHe hRa hRk hg1 hg2 hg3 hv2
    have b0 := HE.out.box.cell 0
    have b1 := HE.out.box.cell 1
    have b1f := HE.out.box.free 1
    have p0 := HE.out.pb.cell 0
    have s0 := HE.out.nb.cell 0
    simp only [List.getElem?_toArray, List.getElem?_cons_zero, List.getElem?_cons_succ] at b0 b1 p0 s0
    have i1 : (0 : Int) ≤ (m : Int) := by omega
    have i2 : (m : Int) < (l.length : Int) := by have := HX.out; omega
    refine wpIn_block ?_
    refine wpIn_seq ?_
    obtain ⟨C, hC⟩ : ∃ C : Nat → World → Prop, C = fun _ w_ => w_ = W.drew := ⟨_, rfl⟩
    have HCI : Hid (∀ i w_, C i w_ ↔ w_ = W.drew) := Lib.hid (fun i w_ => by rw [hC])
    clear hC
    have ne : Nonempty (Mix.Wd C 0) := ⟨⟨W.drew, 0, Nat.le_refl _, (HCI.out _ _).2 rfl⟩⟩
    have q0 : ∀ q : Mix.Wd C 0, q.1.cell? ⟨b, 0, none⟩ = some (.slice (some ⟨g, 0, none⟩) l.length c) := fun ⟨w_, i, _, hw⟩ => by have := (HCI.out _ _).1 hw; subst this; exact b0
    have q1 : ∀ q : Mix.Wd C 0, q.1.cell? ⟨w.heap.size, 0, none⟩ = some (.pointer (some ⟨b, 0, none⟩)) := fun ⟨w_, i, _, hw⟩ => by have := (HCI.out _ _).1 hw; subst this; exact p0
    have q2 : ∀ q : Mix.Wd C 0, q.1.cell? ⟨w.heap.size + 1, 0, none⟩ = some (.string s) := fun ⟨w_, i, _, hw⟩ => by have := (HCI.out _ _).1 hw; subst this; exact s0
    have q3 : ∀ q : Mix.Wd C 0, q.1.cell? ⟨g, m * 5 + 1, none⟩ = some (.string y.f1) := fun ⟨w_, i, _, hw⟩ => by have := (HCI.out _ _).1 hw; subst this; exact t1
    by_cases h0 : m = 0
    · have hh : hit l s m = false := by unfold hit; rw [h0]; rfl
      have HH := Lib.hid hh
      have v1 : ¬ ((0 : Int) < (m : Int)) := by omega
      have v2 : decide (0 < m) = false := by rw [h0]; rfl
      clear h0 hh
      refine Mix.wpIn_region_mix r _ C [] (by kernel_rfl) (by kernel_rfl) (by kernel_rfl) ((HCI.out _ _).2 rfl) ?_
      iterate 14 (refine Mix.mix_still (by decide) (fun K hK => ?_); go_simp; refine hK _ ?_; clear hK K)
      refine Mix.mix_nil ?_
      intro w_ hw_
      have e_ := (HCI.out _ _).1 hw_
      subst e_
      clear ne q0 q1 q2 q3 hw_ b0 b1 b1f p0 s0 t0 t1
      show Code.wpIn _ _ _ _ _ _ _
      gi_wp2
      exact ⟨(KeepsOthers.drew W).from _, ⟨below_drew (Below.refl _ _), fun b cs T _ hb => hb.drew⟩, fun y hy => by
        rcases List.mem_append.1 hy with hy | hy
        · exact HNO.out y hy
        · rw [List.mem_singleton.1 hy, ← HM.out]; exact HH.out, HE.out.next HBB.out (below_drew (Below.refl _ _))⟩
    by_cases ht : y.f1.toList = s.toList
    · have hh : hit l s m = true := by unfold hit; rw [HM.out, ← HYE.out, ← HM.out, decide_eq_true ht]; simp; omega
      have HH := Lib.hid hh
      have v1 : (0 : Int) < (m : Int) := by omega
      have v2 : decide (0 < m) = true := by simp; omega
      have v3 : (y.f1.toList == s.toList) = true := by simpa using ht
      clear h0 hh ht
      refine Mix.wpIn_region_mix r _ C [] (by kernel_rfl) (by kernel_rfl) (by kernel_rfl) ((HCI.out _ _).2 rfl) ?_
      iterate 14 (refine Mix.mix_still (by decide) (fun K hK => ?_); go_simp; refine hK _ ?_; clear hK K)
      refine Mix.mix_nil ?_
      intro w_ hw_
      have e_ := (HCI.out _ _).1 hw_
      subst e_
      clear ne q0 q1 q2 q3 hw_
      show Code.wpIn _ _ _ _ _ _ _
      refine wpIn_cond_true rfl ?_
      refine wpIn_seq ?_
      have E2 := Lib.hid (HE.out.next HBB.out (below_drew (below_drew (Below.refl _ W))))
      obtain ⟨W2, hW2⟩ : ∃ y_, y_ = W.drew.drew := ⟨_, rfl⟩
      have hh : ∀ p, W2.cell? p = W.cell? p := fun p => by rw [hW2]; rfl
      have hf : ∀ p, W2.frozen? p = W.frozen? p := fun p => by rw [hW2]; rfl
      rw [← hW2] at E2
      have HK2 := Lib.hid (show KeepsOthers W W2 by rw [hW2]; exact (KeepsOthers.drew W).trans (KeepsOthers.drew _))
      have HWE := Lib.hid hW2
      have b0' := (hh _).trans b0
      have p0' := (hh _).trans p0
      have t0' := (hh _).trans t0
      have b1' := (hh _).trans b1
      have b1f' := (hf _).trans b1f
      clear b0 b1 b1f p0 s0 t0 t1 hh hf hW2
      obtain ⟨L2, hL⟩ : ∃ L : List World, L = [W2, W2.setCell ⟨b, 1, none⟩ (.int .i64 y.f0)] := ⟨_, rfl⟩
      have HL0 := Lib.hid (show L2[0]? = some W2 from by rw [hL]; rfl)
      have HL1 := Lib.hid (show L2[1]? = some (W2.setCell ⟨b, 1, none⟩ (.int .i64 y.f0)) from by rw [hL]; rfl)
      clear hL
      have ne := Mix.CL.ne HL0.out
      have nx := Mix.CL.nx (p := 0) (q := 0) HL0.out (Nat.le_refl _)
      have q0 := Mix.CL.at0 HL0.out b0'
      have q1 := Mix.CL.at0 HL0.out p0'
      have q2 := Mix.CL.at0 HL0.out t0'
      refine Mix.wpIn_region_mix r _ (Mix.CL L2) [11] (by kernel_rfl) (by kernel_rfl) (by kernel_rfl) (by rw [← HWE.out]; exact HL0.out) ?_
      iterate 2 (refine Mix.mix_in 0 0 (by decide) (by kernel_rfl) (fun K hK => ?_); go_simp; refine hK _ ?_; clear hK K)
      iterate 2 (refine Mix.mix_still (by decide) (fun K hK => ?_); go_simp; refine hK _ ?_; clear hK K)
      iterate 1 (refine Mix.mix_in 0 0 (by decide) (by kernel_rfl) (fun K hK => ?_); go_simp; refine hK _ ?_; clear hK K)
      iterate 3 (refine Mix.mix_still (by decide) (fun K hK => ?_); go_simp; refine hK _ ?_; clear hK K)
      iterate 1 (refine Mix.mix_in 0 0 (by decide) (by kernel_rfl) (fun K hK => ?_); go_simp; refine hK _ ?_; clear hK K)
      iterate 2 (refine Mix.mix_still (by decide) (fun K hK => ?_); go_simp; refine hK _ ?_; clear hK K)
      refine Mix.mix_turn (by decide) (fun K hK => ?_)
      go_simp
      refine ⟨⟨undef, fun w_ hw_ => ?_⟩, hK _ ?_⟩
      · have e_ := (Mix.CL.eq HL0.out hw_).symm
        subst e_
        have d1_ := b1'
        have d2_ := b1f'
        have hs_ := HL1.out
        clear ne nx q0 q1 q2 b1' b1f' b0' p0' t0'
        generalize W2 = yw_ at d1_ d2_ hs_ ⊢
        go_simp
        all_goals exact hs_
      clear hK K
      refine Mix.mix_nil ?_
      intro w_ hw_
      have e_ := (Mix.CL.eq HL1.out hw_).symm
      subst e_
      clear ne nx q0 q1 q2 hw_ b1' b1f' b0' p0' t0'
      show Code.wpIn _ _ _ _ _ _ _
      gi_wp2
      refine ⟨(HK2.out.trans (KeepsOthers.setCell _ _ _)).from _, rfl, pre, x, rfl, HNO.out, by rw [← HM.out]; exact HH.out, ?_⟩
      rw [← HYE.out]
      exact ⟨E2.out.box.set 1 _, Kd.S_far (p := ⟨b, 1, none⟩) E2.out.rows (fun k hk => hk.1) _, E2.out.pb.setCell_other _ (fun e => by have e2 : w.heap.size = b := e; have := HBL.out; omega), E2.out.nb.setCell_other _ (fun e => by have e2 : w.heap.size + 1 = b := e; have := HBL.out; omega), E2.out.below.setCell (p := ⟨b, 1, none⟩) HB.out.base _, E2.out.kept.trans (KpT.set (o := 1) (v := .int .i64 y.f0) E2.out.box (.inr (.inr rfl)))⟩
    · have hh : hit l s m = false := by unfold hit; rw [HM.out, ← HYE.out, decide_eq_false ht, Bool.and_false]
      have HH := Lib.hid hh
      have v1 : (0 : Int) < (m : Int) := by omega
      have v2 : decide (0 < m) = true := by simp; omega
      have v3 : (y.f1.toList == s.toList) = false := by simpa using ht
      clear h0 hh ht
      refine Mix.wpIn_region_mix r _ C [] (by kernel_rfl) (by kernel_rfl) (by kernel_rfl) ((HCI.out _ _).2 rfl) ?_
      iterate 14 (refine Mix.mix_still (by decide) (fun K hK => ?_); go_simp; refine hK _ ?_; clear hK K)
      refine Mix.mix_nil ?_
      intro w_ hw_
      have e_ := (HCI.out _ _).1 hw_
      subst e_
      clear ne q0 q1 q2 q3 hw_ b0 b1 b1f p0 s0 t0 t1
      show Code.wpIn _ _ _ _ _ _ _
      gi_wp2
      exact ⟨(KeepsOthers.drew W).from _, ⟨below_drew (Below.refl _ _), fun b cs T _ hb => hb.drew⟩, fun y hy => by
        rcases List.mem_append.1 hy with hy | hy
        · exact HNO.out y hy
        · rw [List.mem_singleton.1 hy, ← HM.out]; exact HH.out, HE.out.next HBB.out (below_drew (Below.refl _ _))⟩
  case done =>
    rintro D xs W hD rfl ⟨hno, hE⟩ hK
    have HE := Lib.hid hE
    have HK := Lib.hid hK
    have HA := Lib.hid (show endA l a s = a from by
      unfold endA
      rw [List.find?_eq_none.2 (fun y hy => by rw [hno y hy]; decide)])
    have HF := Lib.hid (hE.of_row (B := w3.heap.size) HBB.out (by have := VS.out; have := HBB.out; omega) (grownBy_putObj' W D (.deferred none)) (fun r e => by cases e; exact ⟨hD, _, hK, rfl⟩))
    clear hno hE hK hD
    refine ⟨by simp, .inl ⟨_, _, rfl, run_takeDeferred HK.out, ?_⟩⟩
    refine ⟨_, results_none rfl _ _ _, rfl, ⟨.slice A l.length c, ?_⟩, HF.out.below, HF.out.kept⟩
    rw [HA.out]
    exact ⟨HF.out.box, Kd.S_mono HF.out.rows (fun _ h => h.1), HB.out.base⟩
  case stop =>
    rintro D c_ pre W hD ⟨q, hq⟩ ⟨rfl, p0, x, rfl, hno, hh, hE⟩ hK
    have HK := Lib.hid hK
    have HA := Lib.hid (show endA l a s = (ndAt l x.1).f0 from by
      unfold endA
      rw [hq, List.append_assoc, List.find?_append, List.find?_eq_none.2 (fun y hy => by rw [hno y hy]; decide)]
      simp [hh])
    have HF := Lib.hid (hE.of_row (B := w3.heap.size) HBB.out (by have := VS.out; have := HBB.out; omega) (grownBy_putObj' W D (.deferred none)) (fun r e => by cases e; exact ⟨hD, _, hK, rfl⟩))
    clear hno hE hK hD hq hh
    gi_wp2
    refine ⟨by simp, .inl ⟨_, _, rfl, run_takeDeferred HK.out, ?_⟩⟩
    refine ⟨_, results_none rfl _ _ _, rfl, ⟨.slice A l.length c, ?_⟩, HF.out.below, HF.out.kept⟩
    rw [HA.out]
    exact ⟨HF.out.box, Kd.S_mono HF.out.rows (fun _ h => h.1), HB.out.base⟩
end Go.Proofs.YtkjgnkmnngaioaaGreat.Q
namespace Go.Proofs.YtkjgnkmnngaioaaGreat.Q
open Go.RowKit Go.Proofs.YtkjgnkmnngaioaaGreat.Mem Go.Proofs.YtkjgnkmnngaioaaGreatW.PrintWords Go.Proofs.YtkjgnkmnngaioaaGreatW.PrintLast Go.Proofs.YtkjgnkmnngaioaaGreatW.PrintMore
set_option linter.unusedVariables false
set_option linter.unusedSimpArgs false
/-- Are two texts the same? -/
def eqS (a b : ByteArray) : Bool := decide (a.toList = b.toList)
theorem ret_bool' {a b : Bool} (h : a = b) : Ending.returned (.bool a) = .returned (.bool b) := by rw [h]
theorem asks_calls (s x : ByteArray) (b : Nat) (src : ByteArray) (w : World) (hc : w.cell? ⟨b, 0, none⟩ = some (.string src)) (hb : b < w.heap.size) :
    Calls Tryz.prog 109 #[.agg #[.string s, .string x], .pointer (some ⟨b, 0, none⟩)] w fun e w' => e = .returned (.bool (eqS s src)) ∧ Below w.heap.size w w' := by
  have hn : b ≠ w.heap.size := by omega
  go_enter Tryz.func109, Tryz.ntmps109
  go_wp2
  go_ret
  exact ⟨ret_bool' (by unfold eqS; rw [Bool.eq_iff_iff]; simp), (Below.refl _ _).alloc (Nat.le_refl _) _⟩
/-- The first place whose attribute has that name, from a place on; -1: there is none. -/
def kidxFrom (src : ByteArray) : List S70 → Nat → Int
  | [], _ => -1
  | x :: l, k => if eqS x.f0 src = true then (k : Int) else kidxFrom src l (k + 1)
theorem kidxFrom_drop (src : ByteArray) (l : List S70) (k : Nat) (h : k < l.length) : kidxFrom src (l.drop k) k = if eqS l[k].f0 src = true then (k : Int) else kidxFrom src (l.drop (k + 1)) (k + 1) := by
  rw [List.drop_eq_getElem_cons h]; rfl
theorem kidxFrom_any (src : ByteArray) : ∀ (l : List S70) (k : Nat), decide (kidxFrom src l k ≥ 0) = l.any (fun x => eqS x.f0 src)
  | [], _ => rfl
  | x :: l, k => by
    unfold kidxFrom
    by_cases h : eqS x.f0 src = true
    · rw [if_pos h]; simp [h]
    · rw [if_neg h, kidxFrom_any src l (k + 1)]; simp [h]
set_option maxHeartbeats 1000000 in
theorem kindex_calls (A0 : Option Addr) (c0 : Nat) (l : List S70) (b : Nat) (src : ByteArray) (w : World) (hr0 : Kd.C k70 w A0 l.length l) (hl : l.length ≤ 9223372036854775806)
    (hc : w.cell? ⟨b, 0, none⟩ = some (.string src)) (hb : b < w.heap.size) :
    Calls Tryz.prog 80 #[.slice A0 l.length c0, .func (.func 109) #[] #[.pointer (some ⟨b, 0, none⟩)]] w fun e w' => e = .returned (.int .i64 (kidxFrom src l 0)) ∧ Below w.heap.size w w' := by
  have HR := Lib.hid hr0
  have HC := Lib.hid hc
  clear hr0 hc
  go_enter Tryz.func80, Tryz.ntmps80
  go_wp2_with fail
  go_loopw [8] (fun i wr => ∃ k : Nat, k ≤ l.length ∧ i = .int .i64 k ∧ Hid (kidxFrom src l 0 = kidxFrom src (l.drop k) k) ∧ Hid (Below w.heap.size w wr)) (fun i wr => l.length - (intOf i).toNat)
  case atStart => exact ⟨0, Nat.zero_le _, rfl, Lib.hid rfl, Lib.hid (Below.refl _ _)⟩
  case round =>
    obtain ⟨k, hk, rfl, HI, HB⟩ := hrel
    by_cases hlt : k < l.length
    · obtain ⟨ad, rfl, h0, h1⟩ := at_T70 (Kd.C_below HR.out HB.out) (k : Int) (by omega) (by omega)
      have hrd : Hid (rd_T70 l (k : Int) = l[k]) := Lib.hid (by simp [rd_T70, hlt])
      have HS := Lib.hid (kidxFrom_drop src l k hlt)
      simp only [Int.toNat_natCast] at h0 h1
      generalize hx : rd_T70 l (k : Int) = x at *
      have HX := Lib.hid hx
      clear hx
      have q0 : (wr.cell? ⟨b, 0, none⟩ = some (.string src)) := by rw [HB.out.cell (p := ⟨b, 0, none⟩) hb]; exact HC.out
      have q1 : b < wr.heap.size := Nat.lt_of_lt_of_le hb HB.out.size
      have Q0 := Lib.hid q0
      clear q0
      rcases (show eqS x.f0 src = false ∨ eqS x.f0 src = true by cases eqS x.f0 src <;> simp) with he | he
      · have HE := Lib.hid he
        clear he
        go_wp2_with fail
        refine (asks_calls x.f0 x.f1 b src _ Q0.out q1).mono ?_
        rintro e w' ⟨rfl, hb'⟩
        rw [HE.out]
        have HB' := Lib.hid (HB.out.trans (hb'.mono HB.out.size))
        clear hb'
        go_wp2_with fail
        go_roundw
        case rel => exact ⟨k + 1, by omega, by go_num, Lib.hid (by rw [HI.out, HS.out, ← hrd.out, if_neg (by rw [HE.out]; decide)]), HB'⟩
        case measure => simp [intOf]; omega
      · have HE := Lib.hid he
        clear he
        go_wp2_with fail
        refine (asks_calls x.f0 x.f1 b src _ Q0.out q1).mono ?_
        rintro e w' ⟨rfl, hb'⟩
        rw [HE.out]
        have HB' := Lib.hid (HB.out.trans (hb'.mono HB.out.size))
        clear hb'
        go_wp2_with fail
        go_ret
        exact ⟨by rw [HI.out, HS.out, ← hrd.out, if_pos HE.out]; rfl, HB'.out⟩
    · have hd : l.drop k = [] := by rw [List.drop_eq_nil_iff]; omega
      have HD := Lib.hid hd
      clear hd
      go_wp2_with fail
      go_ret
      exact ⟨by rw [HI.out, HD.out]; rfl, HB.out⟩
theorem hasKey_calls (A0 : Option Addr) (c0 : Nat) (l : List S70) (b : Nat) (src : ByteArray) (w : World) (hr0 : Kd.C k70 w A0 l.length l) (hl : l.length ≤ 9223372036854775806)
    (hc : w.cell? ⟨b, 0, none⟩ = some (.string src)) (hb : b < w.heap.size) :
    Calls Tryz.prog 108 #[.slice A0 l.length c0, .func (.func 109) #[] #[.pointer (some ⟨b, 0, none⟩)]] w fun e w' => e = .returned (.bool (l.any fun x => eqS x.f0 src)) ∧ Below w.heap.size w w' := by
  have HR := Lib.hid hr0
  have HC := Lib.hid hc
  clear hr0 hc
  go_enter Tryz.func108, Tryz.ntmps108
  go_wp2_with fail
  refine (kindex_calls A0 c0 l b src _ HR.out hl HC.out hb).mono ?_
  rintro e w' ⟨rfl, hb'⟩
  have HB' := Lib.hid hb'
  clear hb'
  go_wp2_with fail
  go_ret
  exact ⟨by rw [← kidxFrom_any src l 0]; rfl, HB'.out⟩
end Go.Proofs.YtkjgnkmnngaioaaGreat.Q
namespace Go.Proofs.YtkjgnkmnngaioaaGreat.Q
open Go.RowKit Go.IntWalk Go.Proofs.YtkjgnkmnngaioaaGreat.Mem
set_option linter.unusedVariables false
set_option linter.unusedSimpArgs false
def ltr (c : UInt8) : Bool := decide (97 ≤ (c ||| 32).toNat) && decide ((c ||| 32).toNat ≤ 122)
def inN (c : UInt8) : Bool := ltr c || (decide (48 ≤ c.toNat) && decide (c.toNat ≤ 57)) || decide (c.toNat = 45)
def low (c : UInt8) : UInt8 := if ltr c then c ||| 32 else c
def st (l : List UInt8) : ByteArray := ⟨l.toArray⟩
/-- How many bytes of a name stand first. -/
def nmLen (l : List UInt8) : Nat := (l.takeWhile inN).length
/-- How many bytes the name has that stands first; none: none does. -/
def nmF (l : List UInt8) : Option Nat := if nmLen l = 0 ∨ 20 < nmLen l ∨ (l.headD 0 |> ltr) = false then none else some (nmLen l)
def lows (l : List UInt8) : List UInt8 := l.map low
theorem bits_or (c : UInt8) : bits .or .u8 (c.toNat : Int) 32 = ((c ||| 32).toNat : Int) := by
  have h : ∀ n : Fin 256, bits .or .u8 ((UInt8.ofNat n.val).toNat : Int) 32 = (((UInt8.ofNat n.val) ||| 32).toNat : Int) := by decide +kernel
  have := h ⟨c.toNat, c.toNat_lt⟩
  simpa using this
theorem nmLen_le (l : List UInt8) : nmLen l ≤ l.length := by
  unfold nmLen
  exact (List.takeWhile_prefix _).length_le
theorem nmLen_drop {l : List UInt8} {n : Nat} (h : ∀ c ∈ l.take n, inN c = true) (hn : n ≤ l.length) (hs : n = l.length ∨ ∃ h : n < l.length, inN l[n] = false) : nmLen l = n := by
  unfold nmLen
  induction l generalizing n with
  | nil => simp at hn; simp [hn]
  | cons c l ih =>
    cases n with
    | zero =>
      rcases hs with h0 | ⟨h0, h1⟩
      · simp at h0
      · simp at h1; simp [List.takeWhile_cons, h1]
    | succ n =>
      have h1 := h c (by simp)
      rw [List.takeWhile_cons, if_pos h1, List.length_cons, ih (n := n) (fun d hd => h d (by simp [hd])) (by simpa using hn) ?_]
      rcases hs with h0 | ⟨h0, h2⟩
      · left; simpa using h0
      · right; exact ⟨by simpa using h0, by simpa using h2⟩
set_option maxRecDepth 100000 in
set_option maxHeartbeats 1600000 in
theorem letter_calls (c : UInt8) (w : World) : Calls Tryz.prog 89 #[.int .u8 (c.toNat : Int)] w fun e w' => e = .returned (.bool (ltr c)) ∧ w = w' := by
  have hb := bits_or c
  have HB := Lib.hid hb
  obtain ⟨d, hd⟩ : ∃ d, d = (c ||| 32).toNat := ⟨_, rfl⟩
  have HL := Lib.hid (show ltr c = (decide (97 ≤ d) && decide (d ≤ 122)) by rw [hd]; rfl)
  rw [← hd] at hb
  clear hd
  by_cases h1 : 97 ≤ d
  · have u1' : (97 : Int) ≤ (d : Int) := by omega
    go_enter Tryz.func89, Tryz.ntmps89
    go_wp2_with fail
    go_ret
    have e : decide ((d : Int) ≤ 122) = decide (d ≤ 122) := by rw [decide_eq_decide]; omega
    exact ⟨by rw [HL.out]; simp [h1, e], rfl⟩
  · have u1 : ¬ (97 : Int) ≤ (d : Int) := by omega
    go_enter Tryz.func89, Tryz.ntmps89
    go_wp2_with fail
    go_ret
    refine ⟨?_, rfl⟩
    rw [HL.out]
    first | (simp [h1]; done) | (simp; omega)
set_option maxRecDepth 100000 in
set_option maxHeartbeats 1600000 in
theorem inName_calls (c : UInt8) (w : World) : Calls Tryz.prog 88 #[.int .u8 (c.toNat : Int)] w fun e w' => e = .returned (.bool (inN c)) ∧ w = w' := by
  have HC := Lib.hid (show inN c = (ltr c || (decide (48 ≤ c.toNat) && decide (c.toNat ≤ 57)) || decide (c.toNat = 45)) from rfl)
  obtain ⟨b, hb⟩ : ∃ b, ltr c = b := ⟨_, rfl⟩
  rw [hb] at HC
  have HL := Lib.hid (show Calls Tryz.prog 89 #[.int .u8 (c.toNat : Int)] w fun e w' => e = .returned (.bool b) ∧ w = w' by rw [← hb]; exact letter_calls c w)
  clear hb
  obtain ⟨d, hd⟩ : ∃ d, c.toNat = d := ⟨_, rfl⟩
  rw [hd] at HL HC ⊢
  clear hd
  obtain ⟨r, hr⟩ : ∃ r, inN c = r := ⟨_, rfl⟩
  rw [hr] at HC ⊢
  clear hr
  cases b with
  | true =>
    go_enter Tryz.func88, Tryz.ntmps88
    go_wp2_with (go_at_call 89; refine HL.out.mono ?_; rintro e w' ⟨rfl, rfl⟩)
    go_ret
    exact ⟨by rw [HC.out]; simp, rfl⟩
  | false =>
    by_cases h1 : 48 ≤ d
    · have u1 : (48 : Int) ≤ (d : Int) := by omega
      by_cases h2 : d ≤ 57
      · have u2 : (d : Int) ≤ 57 := by omega
        go_enter Tryz.func88, Tryz.ntmps88
        go_wp2_with (go_at_call 89; refine HL.out.mono ?_; rintro e w' ⟨rfl, rfl⟩)
        go_ret
        exact ⟨by rw [HC.out]; simp [h1, h2], rfl⟩
      · have u2 : ¬ (d : Int) ≤ 57 := by omega
        have u3 : ((d : Int) == 45) = false := by simp; omega
        go_enter Tryz.func88, Tryz.ntmps88
        go_wp2_with (go_at_call 89; refine HL.out.mono ?_; rintro e w' ⟨rfl, rfl⟩)
        go_ret
        exact ⟨by rw [HC.out]; simp [h1, h2]; omega, rfl⟩
    · have u1 : ¬ (48 : Int) ≤ (d : Int) := by omega
      by_cases h2 : d = 45
      · subst h2
        go_enter Tryz.func88, Tryz.ntmps88
        go_wp2_with (go_at_call 89; refine HL.out.mono ?_; rintro e w' ⟨rfl, rfl⟩)
        go_ret
        exact ⟨by rw [HC.out]; rfl, rfl⟩
      · have u3 : ((d : Int) == 45) = false := by simp; omega
        go_enter Tryz.func88, Tryz.ntmps88
        go_wp2_with (go_at_call 89; refine HL.out.mono ?_; rintro e w' ⟨rfl, rfl⟩)
        go_ret
        exact ⟨by rw [HC.out]; simp [h1, h2], rfl⟩
/-- A block of cells that may be marked. -/
def Blz (w : World) (g : Nat) (cs : Array Value) (fz : Nat × Nat) : Prop := w.heap[g]? = some (.cells cs 5 fz)
theorem Blz.cell {w : World} {g : Nat} {cs : Array Value} {fz : Nat × Nat} (h : Blz w g cs fz) (i : Nat) : w.cell? ⟨g, i, none⟩ = cs[i]? := by
  unfold Blz at h; simp [World.cell?, h]
theorem Blz.free {w : World} {g : Nat} {cs : Array Value} {fz : Nat × Nat} (h : Blz w g cs fz) {i : Nat} (hi : i < fz.1) : w.frozen? ⟨g, i, none⟩ = false := by
  unfold Blz at h; simp [World.frozen?, h]; omega
theorem Blz.set {w : World} {g : Nat} {cs : Array Value} {fz : Nat × Nat} (h : Blz w g cs fz) (i : Nat) (v : Value) : Blz (w.setCell ⟨g, i, none⟩ v) g (cs.setIfInBounds i v) fz := by
  unfold Blz at *; simp [World.setCell, Array.getElem?_modify, h]
theorem Blz.lt {w : World} {g : Nat} {cs : Array Value} {fz : Nat × Nat} (h : Blz w g cs fz) : g < w.heap.size := by
  unfold Blz at h
  rcases Nat.lt_or_ge g w.heap.size with h1 | h1
  · exact h1
  · rw [Array.getElem?_eq_none h1] at h; cases h
/-- Bytes as_ cells. -/
def by8' (l : List UInt8) : List Value := l.map fun b => Value.int .u8 b.toNat
theorem by8'_at {l : List UInt8} {i : Nat} (h : i < l.length) : (by8' l)[i]? = some (.int .u8 (l[i].toNat : Int)) := by
  unfold by8'; rw [List.getElem?_map, List.getElem?_eq_getElem h]; rfl
set_option maxRecDepth 100000 in
set_option maxHeartbeats 1600000 in
theorem lower_calls (s : ByteArray) (w : World) (hs : s.size ≤ 600000) : Calls Tryz.prog 90 #[.string s] w fun e w' => e = .returned (.string (st (lows s.data.toList))) ∧ Below w.heap.size w w' := by
  have hbs : ∀ W : World, (convert 9 72 (.string s)).run Tryz.prog W = _ := fun W => run_bytes_of_string (P := Tryz.prog) W 9 72 5 s Tryz.underlying9 Tryz.underlying72 Tryz.underlying5
  go_enter Tryz.func90, Tryz.ntmps90
  go_wp2_with fail
  clear hbs
  obtain ⟨g, hg⟩ : ∃ g, g = w.heap.size := ⟨_, rfl⟩
  obtain ⟨cp, hcp⟩ : ∃ cp, cp = grownCap w s.size 0 5 := ⟨_, rfl⟩
  rw [← hcp]
  have HB0 := Lib.hid (show Blz ((w.alloc (.cells (bytesRow s cp) 5 ((bytesRow s cp).size, (bytesRow s cp).size + 1))).drew) g (bytesRow s cp) ((bytesRow s cp).size, (bytesRow s cp).size + 1) from by
    rw [hg]; exact heap_alloc_new w _)
  have HW0 := Lib.hid (show Below w.heap.size w ((w.alloc (.cells (bytesRow s cp) 5 ((bytesRow s cp).size, (bytesRow s cp).size + 1))).drew) from below_drewN ((Below.refl _ _).alloc (Nat.le_refl _) _) 1)
  have HG := Lib.hid hg
  rw [← hg]
  clear hg hcp
  obtain ⟨N, hN⟩ : ∃ N, N = (bytesRow s cp).size := ⟨_, rfl⟩
  have HN := Lib.hid (show s.size ≤ N from by rw [hN]; unfold bytesRow; simp)
  go_loopw [10] (fun iv wr => ∃ (i : Nat) (cur : Array Value), i ≤ s.size ∧ iv = .int .i64 (i : Int) ∧ Hid (Blz wr g cur (N, N + 1)) ∧ Hid (cur.size = N) ∧ Hid (cur.toList.take s.size = by8' (lows (s.data.toList.take i) ++ s.data.toList.drop i)) ∧ Hid (Below w.heap.size w wr)) (fun iv _ => s.size - (intOf iv).toNat)
  case atStart => exact ⟨0, _, by omega, rfl, Lib.hid (by rw [hN]; exact HB0.out), Lib.hid hN.symm, Lib.hid (by unfold bytesRow by8' lows; simp), by first | exact HW0 | (rw [hN]; exact HW0)⟩
  case round =>
    clear HB0 HW0 hN
    obtain ⟨i, cur, hi, rfl, HB, HC, HT, HW⟩ := hrel
    have hl : s.data.toList.length = s.size := by simp
    by_cases hlt : i < s.size
    · have v1 : (i : Int) < (s.size : Int) := by omega
      have v2 : (0 : Int) ≤ (i : Int) := by omega
      obtain ⟨c, hc⟩ : ∃ c, c = s.data.toList[i]'(by omega) := ⟨_, rfl⟩
      have d0 : wr.cell? ⟨g, i, none⟩ = some (.int .u8 (c.toNat : Int)) := by
        rw [HB.out.cell]
        have h := by8'_at (l := lows (s.data.toList.take i) ++ s.data.toList.drop i) (i := i) (by simp [lows]; omega)
        rw [← HT.out, List.getElem?_take_of_lt hlt] at h
        rw [← Array.getElem?_toList, h, hc]
        congr 3
        rw [List.getElem_append_right (by simp [lows]; omega)]
        simp [lows, hi]
      have d1 : wr.frozen? ⟨g, i, none⟩ = false := HB.out.free (by have := HN.out; show i < N; omega)
      have HS := Lib.hid (show by8' (lows (s.data.toList.take (i + 1)) ++ s.data.toList.drop (i + 1)) = (cur.toList.take s.size).set i (.int .u8 ((low c).toNat : Int)) from by
        have e1 : s.data.toList.drop i = c :: s.data.toList.drop (i + 1) := by rw [hc]; exact List.drop_eq_getElem_cons (by omega)
        have e2 : s.data.toList.take (i + 1) = s.data.toList.take i ++ [c] := by rw [hc]; exact List.take_succ_eq_append_getElem (by omega)
        rw [HT.out, e1, e2]
        simp only [by8', lows, List.map_append, List.map_cons, List.map_nil]
        rw [List.set_append_right _ _ (by simp; omega)]
        simp [hi])
      have HBO := Lib.hid (bits_or c)
      obtain ⟨b, hb⟩ : ∃ b, ltr c = b := ⟨_, rfl⟩
      have HLT := Lib.hid hb
      have HL := Lib.hid (show Calls Tryz.prog 89 #[.int .u8 (c.toNat : Int)] wr fun e w' => e = .returned (.bool b) ∧ wr = w' by rw [← hb]; exact letter_calls c wr)
      have v5 : ((c.toNat : Nat) : Int) < 256 := by have := c.toNat_lt; omega
      clear hb hc hl
      cases b with
      | true =>
        go_wp2_with (go_at_call 89; refine HL.out.mono ?_; rintro e w' ⟨rfl, rfl⟩)
        go_roundw
        case rel =>
          refine ⟨i + 1, cur.setIfInBounds i (.int .u8 (bits .or .u8 (c.toNat : Int) 32)), by omega, rfl, Lib.hid (HB.out.set _ _), Lib.hid (by rw [Array.size_setIfInBounds]; exact HC.out), Lib.hid ?_, Lib.hid (HW.out.trans ⟨rfl, rfl, rfl, by simp [World.setCell], fun k hk => Below.heap_setCell _ _ _ _ (by show k ≠ g; have := HG.out; omega)⟩)⟩
          rw [HS.out, Array.toList_setIfInBounds, List.take_set, HBO.out]
          unfold low
          rw [if_pos HLT.out]
        case measure => simp [intOf]; omega
      | false =>
        go_wp2_with (go_at_call 89; refine HL.out.mono ?_; rintro e w' ⟨rfl, rfl⟩)
        go_roundw
        case rel =>
          refine ⟨i + 1, cur, by omega, rfl, HB, HC, Lib.hid ?_, HW⟩
          rw [HS.out]
          unfold low
          rw [if_neg (by rw [HLT.out]; decide)]
          have h : (cur.toList.take s.size)[i]? = some (.int .u8 (c.toNat : Int)) := by
            rw [List.getElem?_take_of_lt hlt, Array.getElem?_toList, ← HB.out.cell, d0]
          rw [List.getElem?_eq_some_iff] at h
          obtain ⟨h1, h2⟩ := h
          rw [← h2]; exact (List.set_getElem_self h1).symm
        case measure => simp [intOf]; omega
    · have v1 : ¬ (i : Int) < (s.size : Int) := by omega
      have hi' : i = s.size := by omega
      have hT := HT.out
      rw [hi', List.take_of_length_le (l := s.data.toList) (by omega), List.drop_of_length_le (by omega), List.append_nil] at hT
      have hlen : (lows s.data.toList).length = s.size := by simp [lows]
      have hcv := run_convert_bytes_back (P := Tryz.prog) wr 72 9 5 ⟨g, 0, none⟩ cp (lows s.data.toList) Tryz.underlying72 Tryz.underlying5 Tryz.underlying9 (fun k hk => by
        have e : (⟨g, 0, none⟩ : Addr).add k = ⟨g, k, none⟩ := by unfold Addr.add; split <;> simp_all
        rw [e, HB.out.cell, ← Array.getElem?_toList]
        have h1 := by8'_at hk
        rw [← hT, List.getElem?_take_of_lt (by omega)] at h1
        exact h1)
      rw [hlen] at hcv
      clear hT hlen hl
      go_wp2_with fail
      refine bodyPost_ret (v := .string ⟨(lows s.data.toList).toArray⟩) (by simp [results, Tryz.results90, go_sem]) rfl ⟨rfl, HW.out⟩
end Go.Proofs.YtkjgnkmnngaioaaGreat.Q
namespace Go.Proofs.YtkjgnkmnngaioaaGreat.Q
open Go.RowKit Go.IntWalk Go.Proofs.YtkjgnkmnngaioaaGreat.Mem
set_option linter.unusedVariables false
set_option linter.unusedSimpArgs false
/-- A row of bytes: in block g from place a on. -/
structure Bt (w : World) (g a n c : Nat) (l : List UInt8) : Prop where
  len : l.length = n
  cap : n ≤ c
  cell : ∀ i (h : i < l.length), w.cell? ⟨g, a + i, none⟩ = some (.int .u8 (l[i].toNat : Int))
theorem Bt.below {w w' : World} {g a n c : Nat} {l : List UInt8} (h : Bt w g a n c l) (hb : Below w.heap.size w w') : Bt w' g a n c l :=
  ⟨h.len, h.cap, fun i hi => by rw [hb.cell (p := ⟨g, a + i, none⟩) (lt_of_cell (h.cell i hi))]; exact h.cell i hi⟩
theorem Bt.keep {w w' : World} {g a n c : Nat} {l : List UInt8} (h : Bt w g a n c l) (hb : w'.heap[g]? = w.heap[g]?) : Bt w' g a n c l :=
  ⟨h.len, h.cap, fun i hi => (World.cell?_of_block hb).trans (h.cell i hi)⟩
theorem Bt.drop {w : World} {g a n c : Nat} {l : List UInt8} (h : Bt w g a n c l) {k a' c' : Nat} (hk : k ≤ n) (ha : k < n → a' = a + k) (hc : n - k ≤ c') : Bt w g a' (n - k) c' (l.drop k) := by
  have hl := h.len
  refine ⟨by simp [hl], hc, fun i hi => ?_⟩
  rw [List.length_drop] at hi
  rw [ha (by omega), Nat.add_assoc, List.getElem_drop]
  exact h.cell (k + i) (by omega)
/-- Where 'b[k:len(b):len(b)]' stands. -/
def bof (a n k : Nat) : Nat := if n = k then a else a + k
theorem bof_lt {a n k : Nat} (h : k < n) : bof a n k = a + k := by unfold bof; rw [if_neg (by omega)]
theorem add_at' (g a k : Nat) : (⟨g, a, none⟩ : Addr).add k = ⟨g, a + k, none⟩ := by unfold Addr.add; split <;> simp_all
/-- 'b[k:len(b):len(b)]'. -/
theorem slice_lhm (W : World) (g a n c k : Nat) (hk : k ≤ n) (hn : n ≤ c) :
    (Instr.slice 72 (.slice (some ⟨g, a, none⟩) n c) (some (.int .i64 (k : Int))) (some (.int .i64 (n : Int))) (some (.int .i64 (n : Int)))).run Tryz.prog W = .ok (.slice (some ⟨g, bof a n k, none⟩) (n - k) (n - k)) W := by
  have hz : ∀ w, (Go.sizeOf 5).run Tryz.prog w = .ok 1 w := fun _ => by kernel_rfl
  have he : Tryz.prog.elem 72 = 5 := by simp [Program.elem, Tryz.underlying72]
  rw [run_slice_lhm W 72 _ n c (by rw [he]; exact Tryz.underlying72) .i64 .i64 .i64 k n n (by omega) (by omega) (by omega) (by omega), he, hz]
  simp only [Result.andThen, sliced, Int.toNat_natCast, Nat.mul_one, Option.map_some, add_at']
  unfold bof
  by_cases h : n = k
  · rw [if_pos h, if_pos h]
  · rw [if_neg h, if_neg h]
/-- 'b[k:]'. -/
theorem slice_l (W : World) (g a n c k : Nat) (hk : k ≤ n) (hn : n ≤ c) :
    (Instr.slice 72 (.slice (some ⟨g, a, none⟩) n c) (some (.int .i64 (k : Int))) none none).run Tryz.prog W = .ok (.slice (some ⟨g, bof a c k, none⟩) (n - k) (c - k)) W := by
  have hz : ∀ w, (Go.sizeOf 5).run Tryz.prog w = .ok 1 w := fun _ => by kernel_rfl
  have he : Tryz.prog.elem 72 = 5 := by simp [Program.elem, Tryz.underlying72]
  rw [run_slice_l W 72 _ n c (by rw [he]; exact Tryz.underlying72) .i64 k (by omega) (by omega), he, hz]
  simp only [Result.andThen, sliced, Int.toNat_natCast, Nat.mul_one, Option.map_some, add_at']
  unfold bof
  by_cases h : c = k
  · rw [if_pos h, if_pos h]
  · rw [if_neg h, if_neg h]
/-- 'b[:k]'. -/
theorem slice_h (W : World) (g a n c k : Nat) (hk : k ≤ n) (hn : n ≤ c) :
    (Instr.slice 72 (.slice (some ⟨g, a, none⟩) n c) none (some (.int .i64 (k : Int))) none).run Tryz.prog W = .ok (.slice (some ⟨g, a, none⟩) k c) W := by
  have hz : ∀ w, (Go.sizeOf 5).run Tryz.prog w = .ok 1 w := fun _ => by kernel_rfl
  have he : Tryz.prog.elem 72 = 5 := by simp [Program.elem, Tryz.underlying72]
  rw [run_slice_h W 72 _ n c (by rw [he]; exact Tryz.underlying72) .i64 k (by omega) (by omega), he, hz]
  simp only [Result.andThen, sliced, Int.toNat_natCast, Nat.zero_mul, Option.map_some, add_at', Nat.sub_zero, Nat.add_zero, ite_self]
/-- 'string(b)', read. -/
theorem conv_bt {w : World} {g a n c : Nat} {l : List UInt8} (h : Bt w g a n c l) {k c' : Nat} (hk : k ≤ n) : (convert 72 9 (.slice (some ⟨g, a, none⟩) k c')).run Tryz.prog w = .ok (.string (st (l.take k))) w := by
  have hl := h.len
  have h1 := run_convert_bytes_back (P := Tryz.prog) w 72 9 5 ⟨g, a, none⟩ c' (l.take k) Tryz.underlying72 Tryz.underlying5 Tryz.underlying9 (fun j hj => by
    rw [List.length_take] at hj
    rw [add_at', h.cell j (by omega), List.getElem_take])
  rw [List.length_take, Nat.min_eq_left (by omega)] at h1
  exact h1
theorem nmF_some {l : List UInt8} {k : Nat} (h : nmF l = some k) : k = nmLen l ∧ 0 < k ∧ k ≤ 20 ∧ k ≤ l.length ∧ ltr (l.headD 0) = true := by
  unfold nmF at h
  split at h
  · cases h
  · rename_i hc
    injection h with h
    have := nmLen_le l
    have h3 : ltr (l.headD 0) = true := by
      cases he : ltr (l.headD 0) with
      | true => rfl
      | false => exact absurd (.inr (.inr he)) hc
    exact ⟨h.symm, by omega, by omega, by omega, h3⟩
/-- What 'name' tells. -/
def NmPost (g a n : Nat) (l : List UInt8) (w : World) (e : Ending) (w' : World) : Prop :=
  (match nmF l with
    | none => e = .returned (.tuple #[.string ⟨#[]⟩, .slice none 0 0, .bool false])
    | some k => e = .returned (.tuple #[.string (st (lows (l.take k))), .slice (some ⟨g, bof a n k, none⟩) (n - k) (n - k), .bool true])) ∧ Below w.heap.size w w'
/-- Ahead of the call, and behind it. -/
def NmC (w0 w1 : World) : Nat → World → Prop
  | 0, y => y = w1
  | _, y => Below w0.heap.size w0 y
set_option maxRecDepth 100000 in
set_option maxHeartbeats 1600000 in
theorem name_calls (g a n c : Nat) (l : List UInt8) (w : World) (hB : Bt w g a n c l) (hn : n ≤ 9223372036854775807) :
    Calls Tryz.prog 53 #[.slice (some ⟨g, a, none⟩) n c] w (NmPost g a n l w) := by
  have HB := Lib.hid hB
  have HLN := Lib.hid hB.len
  have HCP := Lib.hid hB.cap
  clear hB
  go_enter Tryz.func53, Tryz.ntmps53
  go_wp2_with fail
  go_loop [5] (fun iv => ∃ k : Nat, k ≤ n ∧ iv = .int .i64 (k : Int) ∧ Hid (∀ c ∈ l.take k, inN c = true)) (fun iv => n - (intOf iv).toNat)
  case atStart => exact ⟨0, by omega, rfl, Lib.hid (by simp)⟩
  case round =>
    obtain ⟨k, hk, rfl, HA⟩ := hrel
    by_cases hlt : k < n
    · have v1 : (k : Int) < (n : Int) := by omega
      have v2 : (0 : Int) ≤ (k : Int) := by omega
      obtain ⟨d, hd⟩ : ∃ d, d = l[k]'(by have := HLN.out; omega) := ⟨_, rfl⟩
      have d0 : w.cell? ⟨g, a + k, none⟩ = some (.int .u8 (d.toNat : Int)) := by rw [hd]; exact HB.out.cell k (by have := HLN.out; omega)
      have HTK := Lib.hid (show l.take (k + 1) = l.take k ++ [d] by rw [hd]; exact List.take_succ_eq_append_getElem (by have := HLN.out; omega))
      have HD := Lib.hid hd
      obtain ⟨b, hb⟩ : ∃ b, inN d = b := ⟨_, rfl⟩
      have HBD := Lib.hid hb
      have HL := Lib.hid (show Calls Tryz.prog 88 #[.int .u8 (d.toNat : Int)] w fun e w' => e = .returned (.bool b) ∧ w = w' by rw [← hb]; exact inName_calls d w)
      have v5 : ((d.toNat : Nat) : Int) < 256 := by have := d.toNat_lt; omega
      clear hb hd
      cases b with
      | true =>
        go_wp2_with (go_at_call 88; refine HL.out.mono ?_; rintro e w' ⟨rfl, rfl⟩)
        go_round
        case rel =>
          refine ⟨k + 1, by omega, by go_num, Lib.hid (fun c hc => ?_)⟩
          rw [HTK.out, List.mem_append] at hc
          rcases hc with h | h
          · exact HA.out c h
          · rw [List.mem_singleton] at h; rw [h]; exact HBD.out
        case measure => simp [intOf]; omega
      | false =>
        have HK := Lib.hid (show nmLen l = k from nmLen_drop HA.out (by have := HLN.out; omega) (.inr ⟨by have := HLN.out; omega, by rw [← HD.out]; exact HBD.out⟩))
        by_cases h0 : k = 0
        · have HN0 := Lib.hid (show nmF l = none from by unfold nmF; rw [if_pos (.inl (by rw [HK.out, h0]))])
          subst h0
          rw [Nat.add_zero] at d0
          clear HK
          go_wp2_with (go_at_call 88; refine HL.out.mono ?_; rintro e w' ⟨rfl, rfl⟩)
          refine bodyPost_ret (v := .tuple #[.string ⟨#[]⟩, .slice none 0 0, .bool false]) (by simp [results, Tryz.results53, go_sem]) rfl ⟨by rw [HN0.out], Below.refl _ _⟩
        · have w0 : ((k : Int) == 0) = false := by simp; omega
          by_cases h1 : 20 < k
          · have HN0 := Lib.hid (show nmF l = none from by unfold nmF; rw [if_pos (.inr (.inl (by rw [HK.out]; exact h1)))])
            have w1 : (20 : Int) < (k : Int) := by omega
            clear HK
            go_wp2_with (go_at_call 88; refine HL.out.mono ?_; rintro e w' ⟨rfl, rfl⟩)
            refine bodyPost_ret (v := .tuple #[.string ⟨#[]⟩, .slice none 0 0, .bool false]) (by simp [results, Tryz.results53, go_sem]) rfl ⟨by rw [HN0.out], Below.refl _ _⟩
          · have w1 : ¬ (20 : Int) < (k : Int) := by omega
            have hn0 : 0 < n := by omega
            obtain ⟨d2, hd2⟩ : ∃ d2, d2 = l[0]'(by have := HLN.out; omega) := ⟨_, rfl⟩
            have d3 : w.cell? ⟨g, a, none⟩ = some (.int .u8 (d2.toNat : Int)) := by rw [hd2]; exact HB.out.cell 0 (by have := HLN.out; omega)
            have HHD := Lib.hid (show l.headD 0 = d2 from by
              rw [hd2]
              have := HLN.out
              cases l with
              | nil => simp at this; omega
              | cons x l => rfl)
            obtain ⟨b2, hb2⟩ : ∃ b, ltr d2 = b := ⟨_, rfl⟩
            have HBD2 := Lib.hid hb2
            have HL2 := Lib.hid (show Calls Tryz.prog 89 #[.int .u8 (d2.toNat : Int)] w fun e w' => e = .returned (.bool b2) ∧ w = w' by rw [← hb2]; exact letter_calls d2 w)
            have v6 : ((d2.toNat : Nat) : Int) < 256 := by have := d2.toNat_lt; omega
            clear hb2 hd2
            cases b2 with
            | false =>
              have HN0 := Lib.hid (show nmF l = none from by unfold nmF; rw [if_pos (.inr (.inr (by rw [HHD.out]; exact HBD2.out)))])
              clear HK HHD
              go_wp2_with (first | (go_at_call 88; refine HL.out.mono ?_; rintro e w' ⟨rfl, rfl⟩) | (go_at_call 89; refine HL2.out.mono ?_; rintro e w' ⟨rfl, rfl⟩))
              refine bodyPost_ret (v := .tuple #[.string ⟨#[]⟩, .slice none 0 0, .bool false]) (by simp [results, Tryz.results53, go_sem]) rfl ⟨by rw [HN0.out], Below.refl _ _⟩
            | true =>
              have HN0 := Lib.hid (show nmF l = some k from by
                unfold nmF
                rw [HK.out, HHD.out, HBD2.out, if_neg (by
                  rintro (h | h | h)
                  · omega
                  · omega
                  · cases h)])
              clear HK HHD
              go_upto_region 6 with (first | (go_at_call 88; refine HL.out.mono ?_; rintro e w' ⟨rfl, rfl⟩) | (go_at_call 89; refine HL2.out.mono ?_; rintro e w' ⟨rfl, rfl⟩))
              have hC0 : NmC w w.drew 0 w.drew := rfl
              have ne : Nonempty (Mix.Wd (NmC w w.drew) 0) := ⟨⟨w.drew, 0, Nat.le_refl _, hC0⟩⟩
              have ne0 : Nonempty (Mix.Wx (NmC w w.drew) 0 0) := ⟨⟨w.drew, 0, Nat.le_refl _, Nat.le_refl _, hC0⟩⟩
              have hsh : ∀ W : World, _ = Result.ok _ W := fun W => slice_h W g a n c k (by omega) HCP.out
              have hsl : ∀ W : World, _ = Result.ok _ W := fun W => slice_lhm W g a n c k (by omega) HCP.out
              have hcv : ∀ x : Mix.Wx (NmC w w.drew) 0 0, (convert 72 9 (.slice (some ⟨g, a, none⟩) k c)).run Tryz.prog x.1 = .ok (.string (st (l.take k))) x.1 := fun x => by
                obtain ⟨y, i, h1, h2, h3⟩ := x
                obtain rfl : i = 0 := by omega
                have h3' : y = w.drew := h3
                subst h3'
                exact conv_bt (w := w.drew) (HB.out.keep rfl) (by omega)
              have hltk : (l.take k).length = k := by rw [List.length_take]; have := HLN.out; omega
              have HLT := Lib.hid hltk
              clear hltk
              refine Mix.wp_region_mix (C := NmC w w.drew) [4] (by kernel_rfl) (by kernel_rfl) hC0 ?_
              iterate 3 (refine Mix.mix_still (by decide) (fun K hK => ?_); go_simp; refine hK _ ?_; clear hK K)
              (refine Mix.mix_in 0 0 (by decide) (by kernel_rfl) (fun K hK => ?_); go_simp; refine hK _ ?_; clear hK K)
              refine Mix.mix_turn (by decide) (fun K hK => ?_)
              go_simp
              refine ⟨_, fun y hy => (lower_calls (st (l.take k)) y (by show (l.take k).toArray.size ≤ 600000; rw [List.size_toArray, HLT.out]; omega)).mono fun e w' h => ⟨h.1, by have hy' : y = w.drew := hy; rw [hy'] at h; exact Below.trans (b := w.drew) ⟨rfl, rfl, rfl, Nat.le_refl _, fun _ _ => rfl⟩ h.2⟩, hK _ ?_⟩
              clear hK K
              iterate 10 (refine Mix.mix_still (by decide) (fun K hK => ?_); go_simp; refine hK _ ?_; clear hK K)
              refine Mix.mix_nil ?_
              intro w6 hw6
              have HW6 := Lib.hid (show Below w.heap.size w w6 from hw6)
              clear hw6 ne ne0 hC0 hcv hsh hsl
              show Exit.then _ _ _ _ w6
              go_wp2_with fail
              refine bodyPost_ret (v := .tuple #[.string (st (lows (st (l.take k)).data.toList)), .slice (some ⟨g, bof a n k, none⟩) (n - k) (n - k), .bool true]) (by simp [results, Tryz.results53, go_sem]) rfl ⟨by rw [HN0.out]; rfl, HW6.out⟩
    · have v1 : ¬ (k : Int) < (n : Int) := by omega
      have HK := Lib.hid (show nmLen l = k from nmLen_drop HA.out (by have := HLN.out; omega) (.inl (by have := HLN.out; omega)))
      by_cases h0 : k = 0
      · have HN0 := Lib.hid (show nmF l = none from by unfold nmF; rw [if_pos (.inl (by rw [HK.out, h0]))])
        subst h0
        clear HK
        go_wp2_with fail
        refine bodyPost_ret (v := .tuple #[.string ⟨#[]⟩, .slice none 0 0, .bool false]) (by simp [results, Tryz.results53, go_sem]) rfl ⟨by rw [HN0.out], Below.refl _ _⟩
      · have w0 : ((k : Int) == 0) = false := by simp; omega
        by_cases h1 : 20 < k
        · have HN0 := Lib.hid (show nmF l = none from by unfold nmF; rw [if_pos (.inr (.inl (by rw [HK.out]; exact h1)))])
          have w1 : (20 : Int) < (k : Int) := by omega
          clear HK
          go_wp2_with fail
          refine bodyPost_ret (v := .tuple #[.string ⟨#[]⟩, .slice none 0 0, .bool false]) (by simp [results, Tryz.results53, go_sem]) rfl ⟨by rw [HN0.out], Below.refl _ _⟩
        · have w1 : ¬ (20 : Int) < (k : Int) := by omega
          have hn0 : 0 < n := by omega
          obtain ⟨d2, hd2⟩ : ∃ d2, d2 = l[0]'(by have := HLN.out; omega) := ⟨_, rfl⟩
          have d3 : w.cell? ⟨g, a, none⟩ = some (.int .u8 (d2.toNat : Int)) := by rw [hd2]; exact HB.out.cell 0 (by have := HLN.out; omega)
          have HHD := Lib.hid (show l.headD 0 = d2 from by
            rw [hd2]
            have := HLN.out
            cases l with
            | nil => simp at this; omega
            | cons x l => rfl)
          obtain ⟨b2, hb2⟩ : ∃ b, ltr d2 = b := ⟨_, rfl⟩
          have HBD2 := Lib.hid hb2
          have HL2 := Lib.hid (show Calls Tryz.prog 89 #[.int .u8 (d2.toNat : Int)] w fun e w' => e = .returned (.bool b2) ∧ w = w' by rw [← hb2]; exact letter_calls d2 w)
          have v6 : ((d2.toNat : Nat) : Int) < 256 := by have := d2.toNat_lt; omega
          clear hb2 hd2
          cases b2 with
          | false =>
            have HN0 := Lib.hid (show nmF l = none from by unfold nmF; rw [if_pos (.inr (.inr (by rw [HHD.out]; exact HBD2.out)))])
            clear HK HHD
            go_wp2_with (go_at_call 89; refine HL2.out.mono ?_; rintro e w' ⟨rfl, rfl⟩)
            refine bodyPost_ret (v := .tuple #[.string ⟨#[]⟩, .slice none 0 0, .bool false]) (by simp [results, Tryz.results53, go_sem]) rfl ⟨by rw [HN0.out], Below.refl _ _⟩
          | true =>
            have HN0 := Lib.hid (show nmF l = some k from by
              unfold nmF
              rw [HK.out, HHD.out, HBD2.out, if_neg (by
                rintro (h | h | h)
                · omega
                · omega
                · cases h)])
            clear HK HHD
            go_upto_region 6 with (go_at_call 89; refine HL2.out.mono ?_; rintro e w' ⟨rfl, rfl⟩)
            have hC0 : NmC w w.drew 0 w.drew := rfl
            have ne : Nonempty (Mix.Wd (NmC w w.drew) 0) := ⟨⟨w.drew, 0, Nat.le_refl _, hC0⟩⟩
            have ne0 : Nonempty (Mix.Wx (NmC w w.drew) 0 0) := ⟨⟨w.drew, 0, Nat.le_refl _, Nat.le_refl _, hC0⟩⟩
            have hsh : ∀ W : World, _ = Result.ok _ W := fun W => slice_h W g a n c k (by omega) HCP.out
            have hsl : ∀ W : World, _ = Result.ok _ W := fun W => slice_lhm W g a n c k (by omega) HCP.out
            have hcv : ∀ x : Mix.Wx (NmC w w.drew) 0 0, (convert 72 9 (.slice (some ⟨g, a, none⟩) k c)).run Tryz.prog x.1 = .ok (.string (st (l.take k))) x.1 := fun x => by
              obtain ⟨y, i, h1, h2, h3⟩ := x
              obtain rfl : i = 0 := by omega
              have h3' : y = w.drew := h3
              subst h3'
              exact conv_bt (w := w.drew) (HB.out.keep rfl) (by omega)
            have hltk : (l.take k).length = k := by rw [List.length_take]; have := HLN.out; omega
            have HLT := Lib.hid hltk
            clear hltk
            refine Mix.wp_region_mix (C := NmC w w.drew) [4] (by kernel_rfl) (by kernel_rfl) hC0 ?_
            iterate 3 (refine Mix.mix_still (by decide) (fun K hK => ?_); go_simp; refine hK _ ?_; clear hK K)
            (refine Mix.mix_in 0 0 (by decide) (by kernel_rfl) (fun K hK => ?_); go_simp; refine hK _ ?_; clear hK K)
            refine Mix.mix_turn (by decide) (fun K hK => ?_)
            go_simp
            refine ⟨_, fun y hy => (lower_calls (st (l.take k)) y (by show (l.take k).toArray.size ≤ 600000; rw [List.size_toArray, HLT.out]; omega)).mono fun e w' h => ⟨h.1, by have hy' : y = w.drew := hy; rw [hy'] at h; exact Below.trans (b := w.drew) ⟨rfl, rfl, rfl, Nat.le_refl _, fun _ _ => rfl⟩ h.2⟩, hK _ ?_⟩
            clear hK K
            iterate 10 (refine Mix.mix_still (by decide) (fun K hK => ?_); go_simp; refine hK _ ?_; clear hK K)
            refine Mix.mix_nil ?_
            intro w6 hw6
            have HW6 := Lib.hid (show Below w.heap.size w w6 from hw6)
            clear hw6 ne ne0 hC0 hcv hsh hsl
            show Exit.then _ _ _ _ w6
            go_wp2_with fail
            refine bodyPost_ret (v := .tuple #[.string (st (lows (st (l.take k)).data.toList)), .slice (some ⟨g, bof a n k, none⟩) (n - k) (n - k), .bool true]) (by simp [results, Tryz.results53, go_sem]) rfl ⟨by rw [HN0.out]; rfl, HW6.out⟩
/-- How many that pass stand first. -/
theorem twl {p : UInt8 → Bool} {l : List UInt8} {n : Nat} (h : ∀ c ∈ l.take n, p c = true) (hn : n ≤ l.length) (hs : n = l.length ∨ ∃ h : n < l.length, p l[n] = false) : (l.takeWhile p).length = n := by
  induction l generalizing n with
  | nil => simp at hn; simp [hn]
  | cons c l ih =>
    cases n with
    | zero =>
      rcases hs with h0 | ⟨h0, h1⟩
      · simp at h0
      · simp at h1; simp [List.takeWhile_cons, h1]
    | succ n =>
      have h1 := h c (by simp)
      rw [List.takeWhile_cons, if_pos h1, List.length_cons, ih (n := n) (fun d hd => h d (by simp [hd])) (by simpa using hn) ?_]
      rcases hs with h0 | ⟨h0, h2⟩
      · left; simpa using h0
      · right; exact ⟨by simpa using h0, by simpa using h2⟩
/-- A blank. -/
def bl (c : UInt8) : Bool := decide (c.toNat = 32) || decide (c.toNat = 9) || decide (c.toNat = 10) || decide (c.toNat = 13)
def spLen (l : List UInt8) : Nat := (l.takeWhile bl).length
theorem spLen_le (l : List UInt8) : spLen l ≤ l.length := (List.takeWhile_prefix _).length_le
theorem bl_idx (c : UInt8) : (bl c = true → 0 ≤ Lib.indexByte [32, 9, 10, 13] c) ∧ (bl c = false → Lib.indexByte [32, 9, 10, 13] c = -1) := by
  have h : ∀ n : Fin 256, (bl (UInt8.ofNat n.val) = true → 0 ≤ Lib.indexByte [32, 9, 10, 13] (UInt8.ofNat n.val)) ∧ (bl (UInt8.ofNat n.val) = false → Lib.indexByte [32, 9, 10, 13] (UInt8.ofNat n.val) = -1) := by decide +kernel
  have := h ⟨c.toNat, c.toNat_lt⟩
  simpa using this
set_option maxRecDepth 100000 in
set_option maxHeartbeats 1600000 in
theorem sidx_calls (s : ByteArray) (c : Int) (w : World) :
    Calls Tryz.prog 130 #[.string s, .int .u8 c] w fun e w' => e = .returned (.int .i64 (Lib.indexByte s.data.toList c.toNat.toUInt8)) ∧ w = w' := by
  go_enter Tryz.func130, Tryz.ntmps130
  go_wp2_with fail
  rw [run_callFunc_extern Tryz.func140 (by kernel_rfl) (by kernel_rfl) (by kernel_rfl) (e := Extern.BytealgIndexByte.indexByte) (by kernel_rfl), Lib.run_indexByteString]
  simp only [Result.andThen]
  rw [Oper.upon_value]
  go_wp2_with fail
  go_ret
  exact ⟨rfl, rfl⟩
set_option maxHeartbeats 1600000 in
theorem idx_calls (s : ByteArray) (c : Int) (w : World) :
    Calls Tryz.prog 120 #[.string s, .int .u8 c] w fun e w' => e = .returned (.int .i64 (Lib.indexByte s.data.toList c.toNat.toUInt8)) ∧ w = w' := by
  go_enter Tryz.func120, Tryz.ntmps120
  go_wp2_with (go_at_call 130; refine (sidx_calls _ _ _).mono ?_; rintro e w' ⟨rfl, rfl⟩)
  go_ret
  exact ⟨rfl, rfl⟩
/-- What 'space' tells. -/
def SpPost (g a n : Nat) (l : List UInt8) (w : World) (e : Ending) (w' : World) : Prop :=
  e = .returned (.tuple #[.slice (some ⟨g, bof a n (spLen l), none⟩) (n - spLen l) (n - spLen l), .bool (decide (0 < spLen l))]) ∧ w = w'
set_option maxRecDepth 100000 in
set_option maxHeartbeats 1600000 in
theorem space_calls (g a n c : Nat) (l : List UInt8) (w : World) (hB : Bt w g a n c l) (hn : n ≤ 600000) :
    Calls Tryz.prog 106 #[.slice (some ⟨g, a, none⟩) n c] w (SpPost g a n l w) := by
  have HB := Lib.hid hB
  have HLN := Lib.hid hB.len
  have HCP := Lib.hid hB.cap
  clear hB
  go_enter Tryz.func106, Tryz.ntmps106
  go_wp2_with fail
  go_loop [4] (fun iv => ∃ k : Nat, k ≤ n ∧ iv = .int .i64 (k : Int) ∧ Hid (∀ c ∈ l.take k, bl c = true)) (fun iv => n - (intOf iv).toNat)
  case atStart => exact ⟨0, by omega, rfl, Lib.hid (by simp)⟩
  case round =>
    obtain ⟨k, hk, rfl, HA⟩ := hrel
    have hsl : ∀ W : World, _ = Result.ok _ W := fun W => slice_lhm W g a n c k (by omega) HCP.out
    have hfin : spLen l = k → SpPost g a n l w (.returned (.tuple #[.slice (some ⟨g, bof a n k, none⟩) (n - k) (n - k), .bool (decide ((k : Int) > 0))])) w := fun h => by
      unfold SpPost
      rw [h, show decide ((k : Int) > 0) = decide (0 < k) by rw [decide_eq_decide]; omega]
      exact ⟨rfl, rfl⟩
    have HF := Lib.hid hfin
    clear hfin
    by_cases hlt : k < n
    · have v1 : (k : Int) < (n : Int) := by omega
      have v2 : (0 : Int) ≤ (k : Int) := by omega
      obtain ⟨d, hd⟩ : ∃ d, d = l[k]'(by have := HLN.out; omega) := ⟨_, rfl⟩
      have d0 : w.cell? ⟨g, a + k, none⟩ = some (.int .u8 (d.toNat : Int)) := by rw [hd]; exact HB.out.cell k (by have := HLN.out; omega)
      have HTK := Lib.hid (show l.take (k + 1) = l.take k ++ [d] by rw [hd]; exact List.take_succ_eq_append_getElem (by have := HLN.out; omega))
      have HD := Lib.hid hd
      have hbi := bl_idx d
      obtain ⟨x, hx⟩ : ∃ x, Lib.indexByte [32, 9, 10, 13] d = x := ⟨_, rfl⟩
      rw [hx] at hbi
      have HL := Lib.hid (show Calls Tryz.prog 120 #[.string ⟨#[32, 9, 10, 13]⟩, .int .u8 (d.toNat : Int)] w fun e w' => e = .returned (.int .i64 x) ∧ w = w' by
        have h := idx_calls ⟨#[32, 9, 10, 13]⟩ (d.toNat : Int) w
        have e1 : ((d.toNat : Int).toNat).toUInt8 = d := by simp
        rw [e1, show (⟨#[32, 9, 10, 13]⟩ : ByteArray).data.toList = [32, 9, 10, 13] from rfl, hx] at h
        exact h)
      obtain ⟨b, hb⟩ : ∃ b, bl d = b := ⟨_, rfl⟩
      have HBD := Lib.hid hb
      have v5 : ((d.toNat : Nat) : Int) < 256 := by have := d.toNat_lt; omega
      cases b with
      | true =>
        have v6 : 0 ≤ x := hbi.1 hb
        clear hb hd hbi hx
        go_wp2_with (go_at_call 120; refine HL.out.mono ?_; rintro e w' ⟨rfl, rfl⟩)
        go_round
        case rel =>
          refine ⟨k + 1, by omega, by go_num, Lib.hid (fun c hc => ?_)⟩
          rw [HTK.out, List.mem_append] at hc
          rcases hc with h | h
          · exact HA.out c h
          · rw [List.mem_singleton] at h; rw [h]; exact HBD.out
        case measure => simp [intOf]; omega
      | false =>
        have v6 : x = -1 := hbi.2 hb
        subst v6
        have HK := Lib.hid (show spLen l = k from twl HA.out (by have := HLN.out; omega) (.inr ⟨by have := HLN.out; omega, by rw [← HD.out]; exact HBD.out⟩))
        clear hb hd hbi hx
        go_wp2_with (go_at_call 120; refine HL.out.mono ?_; rintro e w' ⟨rfl, rfl⟩)
        refine bodyPost_ret (v := .tuple #[.slice (some ⟨g, bof a n k, none⟩) (n - k) (n - k), .bool (decide ((k : Int) > 0))]) (by simp [results, Tryz.results106, go_sem]) rfl (HF.out HK.out)
    · have v1 : ¬ (k : Int) < (n : Int) := by omega
      have HK := Lib.hid (show spLen l = k from twl HA.out (by have := HLN.out; omega) (.inl (by have := HLN.out; omega)))
      go_wp2_with fail
      refine bodyPost_ret (v := .tuple #[.slice (some ⟨g, bof a n k, none⟩) (n - k) (n - k), .bool (decide ((k : Int) > 0))]) (by simp [results, Tryz.results106, go_sem]) rfl (HF.out HK.out)
end Go.Proofs.YtkjgnkmnngaioaaGreat.Q
namespace Go.Proofs.YtkjgnkmnngaioaaGreat.Q
open Go.RowKit Go.Proofs.YtkjgnkmnngaioaaGreat.Mem
set_option linter.unusedVariables false
set_option linter.unusedSimpArgs false
theorem disable (w : World) : (callFunc 143 #[]).run Tryz.prog w = .ok (.value (.tuple #[])) w := run_call_mark0 Tryz.func143 (by kernel_rfl) (by kernel_rfl) (by kernel_rfl) .disable (by kernel_rfl) w
theorem enable (w : World) : (callFunc 145 #[]).run Tryz.prog w = .ok (.value (.tuple #[])) w := run_call_mark0 Tryz.func145 (by kernel_rfl) (by kernel_rfl) (by kernel_rfl) .enable (by kernel_rfl) w
theorem acquire (a : Addr) (w : World) : (callFunc 146 #[.pointer (some a)]).run Tryz.prog w = .ok (.value (.tuple #[])) w := run_call_marked Tryz.func146 (by kernel_rfl) (by kernel_rfl) (by kernel_rfl) .acquire (by kernel_rfl) a w
theorem releaseMerge (a : Addr) (w : World) : (callFunc 148 #[.pointer (some a)]).run Tryz.prog w = .ok (.value (.tuple #[])) w := run_call_marked Tryz.func148 (by kernel_rfl) (by kernel_rfl) (by kernel_rfl) .releaseMerge (by kernel_rfl) a w
theorem store_deferred (a : Addr) (x : Value) (u : FrameMode) (w : World) (hc : w.cell? a = some x) (hz : w.frozen? a = false) :
    CallsD Tryz.prog 126 #[.pointer (some a), .bool true] u w fun e u' w' => u' = u ∧ (e = .returned (.tuple #[]) ∧ w' = w.drew.setCell a (.int .u32 1)) := by
  have hc' : w.drew.cell? a = some x := by go_simp
  have hz' : w.drew.frozen? a = false := by go_simp
  have hst := run_call_store (P := Tryz.prog) Tryz.func135 (by kernel_rfl) (by kernel_rfl) (by kernel_rfl) (by kernel_rfl) (k := .u32) (y := 1) hc' hz'
  go_enter_d Tryz.func126, Tryz.ntmps126
  go_wp2
  go_region_calls
  all_goals (go_end0; exact ⟨rfl, rfl⟩)
set_option maxRecDepth 100000 in
theorem unlock_deferred (a : Addr) (u : FrameMode) (w : World) (hc : w.cell? a = some (.int .i32 1)) (hz : w.frozen? a = false) :
    CallsD Tryz.prog 125 #[.pointer (some a)] u w fun e u' w' => u' = u ∧ (e = .returned (.tuple #[]) ∧ w' = w.setCell a (.int .i32 0)) := by
  have hd := disable
  have he := enable
  have hr := releaseMerge
  have hadd := run_call_add (P := Tryz.prog) Tryz.func149 (by kernel_rfl) (by kernel_rfl) (by kernel_rfl) .i32 (by kernel_rfl) (y := -1) (s := 0) hc hz (by simp [go_sem]; rfl)
  have hcv := run_convert_to_unsafe (P := Tryz.prog) (src := 198) (dst := 157) Tryz.underlying198 Tryz.underlying157 (by kernel_rfl) hc
  go_enter_d Tryz.func125, Tryz.ntmps125
  go_wp2
  go_end0
  go_wp2
  go_end0
  exact ⟨rfl, rfl⟩
set_option maxRecDepth 100000 in
theorem lock_free (a : Addr) (w : World) (hc : w.cell? a = some (.int .i32 0)) (hz : w.frozen? a = false) :
    Calls Tryz.prog 124 #[.pointer (some a)] w fun e w' => e = .returned (.tuple #[]) ∧ w' = w.setCell a (.int .i32 1) := by
  have hd := disable
  have he := enable
  have ha := acquire
  have hcas := run_call_cas_hit (P := Tryz.prog) Tryz.func144 (by kernel_rfl) (by kernel_rfl) (by kernel_rfl) .i32 (by kernel_rfl) (y := 1) hc hz
  have hc' : (w.setCell a (.int .i32 1)).cell? a = some (.int .i32 1) := World.cell?_setCell_same w a _ hc
  have hcv := run_convert_to_unsafe (P := Tryz.prog) (src := 198) (dst := 157) Tryz.underlying198 Tryz.underlying157 (by kernel_rfl) hc'
  go_enter Tryz.func124, Tryz.ntmps124
  go_wp2
  first | go_end0 | (simp only [Exit.inBlock, Exit.then]; refine bodyPost_ret (results_none rfl _ _ _) rfl ?_) | refine bodyPost_ret (results_none rfl _ _ _) rfl ?_
  go_wp2
  go_end0
  exact ⟨rfl, rfl⟩
/-- The Replacer's block. -/
abbrev RB (d m : Int) (c3 c4 : Value) : Array Value := #[.int .u32 d, .int .i32 m, .int .u32 0, c3, c4]
set_option maxRecDepth 100000 in
set_option maxHeartbeats 1600000 in
/-- '(*sync.Once).doSlow': 'Q' is what buildOnce leaves. -/
theorem slow_build (b : Nat) (c3 c4 : Value) (Q : World → Prop) (w : World) (hB : Blk w b (RB 0 0 c3 c4) 139)
    (hQ : ∀ w', Q w' → ∃ d3 d4, Blk w' b (RB 0 1 d3 d4) 139)
    (hF : Calls Tryz.prog 93 #[.pointer (some ⟨b, 0, none⟩)] (w.setCell ⟨b, 1, none⟩ (.int .i32 1)) fun e w' => e = .returned (.tuple #[]) ∧ Q w') :
    Calls Tryz.prog 111 #[.pointer (some ⟨b, 0, none⟩), .func (.func 93) #[.pointer (some ⟨b, 0, none⟩)] #[]] w fun e w' => e = .returned (.tuple #[]) ∧
      ∃ w2, Q w2 ∧ w' = (w2.drew.setCell ⟨b, 0, none⟩ (.int .u32 1)).setCell ⟨b, 1, none⟩ (.int .i32 0) := by
  have h0 : w.cell? ⟨b, 0, none⟩ = some (.int .u32 0) := hB.cell 0
  have h1 : w.cell? ⟨b, 1, none⟩ = some (.int .i32 0) := hB.cell 1
  have f0 := hB.free 0
  have f1 := hB.free 1
  have hl := run_call_load (P := Tryz.prog) Tryz.func123 (by kernel_rfl) (by kernel_rfl) (by kernel_rfl) .u32 (by kernel_rfl) (w := w.setCell ⟨b, 1, none⟩ (.int .i32 1)) (a := ⟨b, 0, none⟩) (x := 0) ((World.cell?_setCell_other _ ⟨b, 1, none⟩ ⟨b, 0, none⟩ _ (by simp)).trans h0)
  have hnot : ∀ (x : Bool) (w : World), (Op.unary .not (.bool x)).run Tryz.prog w = .ok (.bool (!x)) w := fun _ _ => rfl
  go_enter_defers Tryz.func111, Tryz.ntmps111
  go_wp2_with (first | (go_at_call 124; refine (lock_free ⟨b, 1, none⟩ _ (by go_simp) (by go_simp)).mono ?_; rintro e w' ⟨rfl, rfl⟩) | (go_at_call 110; go_in) | (go_at_call 93; refine hF.mono ?_; rintro e w2 ⟨rfl, hq⟩))
  obtain ⟨d3, d4, hB2⟩ := hQ _ hq
  have hB3 : Blk w2.drew b (RB 0 1 d3 d4) 139 := hB2.drew
  have hB4 := hB3.set 0 (.int .u32 1)
  refine leaves_cons (f := 126) (args := #[.pointer (some ⟨b, 0, none⟩), .bool true]) (by simp) (by simp [go_sem]) ?_
  refine (store_deferred ⟨b, 0, none⟩ (.int .u32 0) .returning _ (hB2.cell 0) (hB2.free 0)).mono ?_
  rintro e u' w'' ⟨rfl, rfl, rfl⟩
  refine leaves_cons (f := 125) (args := #[.pointer (some ⟨b, 1, none⟩)]) (by simp [settle]) (by simp [go_sem]) ?_
  refine (unlock_deferred ⟨b, 1, none⟩ _ _ (hB4.cell 1) (hB4.free 1)).mono ?_
  rintro e u' w'' ⟨rfl, rfl, rfl⟩
  simp [Leaves, settle, results, Tryz.results111]
  exact ⟨w2, hq, rfl⟩
set_option maxRecDepth 100000 in
set_option maxHeartbeats 1600000 in
/-- '(*sync.Once).Do', not yet done. -/
theorem do_build (b : Nat) (c3 c4 : Value) (Q : World → Prop) (w : World) (hB : Blk w b (RB 0 0 c3 c4) 139)
    (hQ : ∀ w', Q w' → ∃ d3 d4, Blk w' b (RB 0 1 d3 d4) 139)
    (hF : Calls Tryz.prog 93 #[.pointer (some ⟨b, 0, none⟩)] (w.setCell ⟨b, 1, none⟩ (.int .i32 1)) fun e w' => e = .returned (.tuple #[]) ∧ Q w') :
    Calls Tryz.prog 92 #[.pointer (some ⟨b, 0, none⟩), .func (.func 93) #[.pointer (some ⟨b, 0, none⟩)] #[]] w fun e w' => e = .returned (.tuple #[]) ∧
      ∃ w2, Q w2 ∧ w' = (w2.drew.setCell ⟨b, 0, none⟩ (.int .u32 1)).setCell ⟨b, 1, none⟩ (.int .i32 0) := by
  have h0 : w.cell? ⟨b, 0, none⟩ = some (.int .u32 0) := hB.cell 0
  have hl := run_call_load (P := Tryz.prog) Tryz.func123 (by kernel_rfl) (by kernel_rfl) (by kernel_rfl) .u32 (by kernel_rfl) h0
  have hnot : ∀ (x : Bool) (w : World), (Op.unary .not (.bool x)).run Tryz.prog w = .ok (.bool (!x)) w := fun _ _ => rfl
  have hQ' := Lib.hid hQ
  clear hQ
  go_enter Tryz.func92, Tryz.ntmps92
  go_wp2_with (first | (go_at_call 111; refine (slow_build b c3 c4 Q _ hB hQ'.out hF).mono ?_; rintro e w' ⟨rfl, h⟩; have H := Lib.hid h; clear h) | (go_at_call 110; go_in))
  go_end0
  exact ⟨rfl, H.out⟩
end Go.Proofs.YtkjgnkmnngaioaaGreat.Q
namespace Go.Proofs.YtkjgnkmnngaioaaGreat.Q
open Go.RowKit Go.IntWalk Go.Proofs.YtkjgnkmnngaioaaGreat.Mem
set_option linter.unusedVariables false
set_option linter.unusedSimpArgs false
abbrev em : ByteArray := ⟨#[]⟩
theorem But.setNew {b c : Nat} {x w : World} (h : But b x w) (hc : x.heap.size ≤ c) (i : Nat) (v : Value) : But b x (w.setCell ⟨c, i, none⟩ v) :=
  ⟨h.os, h.tape, h.output, by simp only [World.setCell, Array.size_modify]; exact h.size, fun k hk e => (Below.heap_setCell _ _ _ _ (show k ≠ c by omega)).trans (h.block k hk e)⟩
theorem size_set (w : World) (a : Addr) (v : Value) : (w.setCell a v).heap.size = w.heap.size := by simp [World.setCell]
/-- A node's block. -/
abbrev ND (v : ByteArray) (p : Int) (x : ByteArray) (nx tb : Value) : Array Value := #[.string v, .int .i64 p, .string x, nx, tb]
abbrev N0 : Array Value := ND em 0 em (.pointer none) (.slice none 0 0)
set_option maxRecDepth 100000 in
theorem add_leaf (n : Nat) (val : ByteArray) (pr : Int) (r : Value) (w : World) (hB : Blk w n N0 191) :
    Calls Tryz.prog 138 #[.pointer (some ⟨n, 0, none⟩), .string em, .string val, .int .i64 pr, r] w fun e w' => e = .returned (.tuple #[]) ∧ w' = (w.setCell ⟨n, 0, none⟩ (.string val)).setCell ⟨n, 1, none⟩ (.int .i64 pr) := by
  have c0 : w.cell? ⟨n, 0, none⟩ = some (.string em) := hB.cell 0
  have c1 : w.cell? ⟨n, 1, none⟩ = some (.int .i64 0) := hB.cell 1
  have f0 := hB.free 0
  have f1 := hB.free 1
  go_enter Tryz.func138, Tryz.ntmps138
  go_wp2
  refine bodyPost_ret (results_none rfl _ _ _) rfl ?_
  exact ⟨rfl, rfl⟩
theorem qneq (w : World) (a : Option Addr) (n c n' c' : Nat) : (binOp .neq 189 (.slice a n c) (.slice none n' c')).run Tryz.prog w = .ok (.bool (!a.isNone)) w := run_neq_slice_nil_any w _ _ a n c n' c' Tryz.underlying189
/-- What a fresh key leaves: the node with its prefix, and its one leaf. -/
structure Fresh (n : Nat) (key val : ByteArray) (pr : Int) (w w' : World) : Prop where
  node : Blk w' n (ND em 0 key (.pointer (some ⟨w.heap.size, 0, none⟩)) (.slice none 0 0)) 191
  leaf : Blk w' w.heap.size (ND val pr em (.pointer none) (.slice none 0 0)) 191
  size : w'.heap.size = w.heap.size + 1
  but : But n w w'
set_option maxRecDepth 100000 in
set_option maxHeartbeats 800000 in
theorem add_fresh (n : Nat) (key val : ByteArray) (pr : Int) (r : Value) (w : World) (hB : Blk w n N0 191) (hk : key.toList.isEmpty = false) :
    Calls Tryz.prog 138 #[.pointer (some ⟨n, 0, none⟩), .string key, .string val, .int .i64 pr, r] w fun e w' => e = .returned (.tuple #[]) ∧ Fresh n key val pr w w' := by
  have c2 : w.cell? ⟨n, 2, none⟩ = some (.string em) := hB.cell 2
  have c3 : w.cell? ⟨n, 3, none⟩ = some (.pointer none) := hB.cell 3
  have c4 : w.cell? ⟨n, 4, none⟩ = some (.slice none 0 0) := hB.cell 4
  have f2 := hB.free 2
  have f3 := hB.free 3
  have q := qneq
  have c1 : w.cell? ⟨n, 1, none⟩ = some (.int .i64 0) := hB.cell 1
  have HB := Lib.hid hB
  clear hB
  have HZ := Lib.hid (show But n w w from But.refl n w)
  go_enter Tryz.func138, Tryz.ntmps138
  go_upto_region 33 with (fail)
  have HB1 := Lib.hid (HB.out.set 2 (.string key))
  have HZ1 := Lib.hid (HZ.out.setCell 2 (.string key))
  have HS := Lib.hid (show (w.setCell ⟨n, 2, none⟩ (.string key)).heap.size = w.heap.size by simp [World.setCell])
  clear c1 c2 c3 c4 f2 f3 HB HZ
  generalize w.setCell ⟨n, 2, none⟩ (.string key) = W1 at HB1 HZ1 HS ⊢
  have d3 : (W1.alloc (.cells N0 191)).cell? ⟨n, 3, none⟩ = some (.pointer none) := (HB1.out.alloc_old _).cell 3
  have e3 : (W1.alloc (.cells N0 191)).frozen? ⟨n, 3, none⟩ = false := (HB1.out.alloc_old _).free 3
  go_upto_region 34 with (fail)
  have HB2 := Lib.hid ((HB1.out.alloc_old (.cells N0 191)).set 3 (.pointer (some ⟨W1.heap.size, 0, none⟩)))
  have HL2 := Lib.hid ((Blk.alloc W1 N0 191).setCell_other (a := ⟨n, 3, none⟩) (.pointer (some ⟨W1.heap.size, 0, none⟩)) (Nat.ne_of_gt HB1.out.lt))
  have HZ2 := Lib.hid ((HZ1.out.trans (But.of_below ((Below.refl _ _).alloc (Nat.le_refl _) (.cells N0 191)))).setCell 3 (.pointer (some ⟨W1.heap.size, 0, none⟩)))
  have HS2 := Lib.hid (show ((W1.alloc (.cells N0 191)).setCell ⟨n, 3, none⟩ (.pointer (some ⟨W1.heap.size, 0, none⟩))).heap.size = W1.heap.size + 1 by simp [World.setCell])
  clear d3 e3 HZ1
  generalize (W1.alloc (.cells N0 191)).setCell ⟨n, 3, none⟩ (.pointer (some ⟨W1.heap.size, 0, none⟩)) = W2 at HB2 HL2 HZ2 HS2 ⊢
  have hs := HS.out
  have hn := HB1.out.lt
  generalize W1.heap.size = m at HB2 HL2 HS2 hs hn ⊢
  have d3 : W2.cell? ⟨n, 3, none⟩ = some (.pointer (some ⟨m, 0, none⟩)) := HB2.out.cell 3
  have HN := Lib.hid hn
  have HM := Lib.hid hs
  clear hs hn HB1
  go_wp2_with (go_at_call 138; refine (add_leaf m val pr r _ HL2.out).mono ?_; rintro e w' ⟨rfl, rfl⟩)
  go_end0
  have hm : n ≠ m := Nat.ne_of_lt HN.out
  have hm' := HM.out
  have hb2 := HB2.out
  have hl2 := HL2.out
  have hz2 := HZ2.out
  have hs2 := HS2.out
  clear d3 HB2 HL2 HZ2 HS2 HM HN
  subst hm'
  refine ⟨rfl, ?_, ?_, ?_, ?_⟩
  · exact (hb2.setCell_other _ hm).setCell_other _ hm
  · exact (hl2.set 0 (.string val)).set 1 (.int .i64 pr)
  · simp [World.setCell]; omega
  · refine ⟨hz2.os, hz2.tape, hz2.output, by simp [World.setCell]; omega, fun k hk hkn => ?_⟩
    refine ((Below.heap_setCell _ _ _ _ ?_).trans (Below.heap_setCell _ _ _ _ ?_)).trans (hz2.block k hk hkn) <;> (show k ≠ w.heap.size; omega)
/-- What a key leaves that was put into a table's empty place. -/
structure New (tb m : Nat) (tcs : Array Value) (T2 : TypeId) (key val : ByteArray) (pr : Int) (w w' : World) : Prop where
  tab : Blk w' tb (tcs.setIfInBounds m (.pointer (some ⟨w.heap.size, 0, none⟩))) T2
  node : Blk w' w.heap.size (ND em 0 key (.pointer (some ⟨w.heap.size + 1, 0, none⟩)) (.slice none 0 0)) 191
  leaf : Blk w' (w.heap.size + 1) (ND val pr em (.pointer none) (.slice none 0 0)) 191
  size : w'.heap.size = w.heap.size + 2
  but : But tb w w'
set_option maxRecDepth 100000 in
set_option maxHeartbeats 800000 in
/-- Into a node with a table, where nothing stands yet. -/
theorem add_new (n g tb : Nat) (key val : ByteArray) (pr : Int) (m : Nat) (tcs : Array Value) (T2 : TypeId) (w : World)
    (hk : key.toList.isEmpty = false) (h0 : 0 < key.size) (hk1 : (key.extract 1 key.size).toList.isEmpty = false) (hne : tb ≠ n)
    (n1 : w.cell? ⟨n, 1, none⟩ = some (.int .i64 0)) (n2 : w.cell? ⟨n, 2, none⟩ = some (.string em)) (n4 : w.cell? ⟨n, 4, none⟩ = some (.slice (some ⟨tb, 0, none⟩) tcs.size tcs.size))
    (hm : m < tcs.size) (hg : w.cell? ⟨g, 6 + key[0].toNat, none⟩ = some (.int .u8 m)) (hT : Blk w tb tcs T2) (ht : tcs[m]? = some (.pointer none)) :
    Calls Tryz.prog 138 #[.pointer (some ⟨n, 0, none⟩), .string key, .string val, .int .i64 pr, .pointer (some ⟨g, 0, none⟩)] w fun e w' => e = .returned (.tuple #[]) ∧ New tb m tcs T2 (key.extract 1 key.size) val pr w w' := by
  have q := qneq
  have hlt : (m : Int) < (tcs.size : Int) := by omega
  have hc : (key[0].toNat : Int) < 256 := by have := key[0].toNat_lt; omega
  have t1 : w.cell? ⟨tb, m, none⟩ = some (.pointer none) := (hT.cell m).trans ht
  have HT := Lib.hid hT
  have HI := Lib.hid ht
  clear hT ht
  go_enter Tryz.func138, Tryz.ntmps138
  go_upto_region 28 with (fail)
  go_still (by kernel_rfl)
  show Exit.then _ _ _ _ w.drew
  have d1 : w.drew.cell? ⟨tb, m, none⟩ = some (.pointer none) := (HT.out.drew.cell m).trans HI.out
  have d4 : w.drew.cell? ⟨n, 4, none⟩ = some (.slice (some ⟨tb, 0, none⟩) tcs.size tcs.size) := n4
  have HT2 := Lib.hid HT.out.drew
  have HZ1 := Lib.hid (show But tb w w.drew from (But.refl tb w).drewN 1)
  have HS1 := Lib.hid (show w.drew.heap.size = w.heap.size from rfl)
  clear n1 n2 n4 hg t1
  generalize w.drew = W1 at d1 d4 HT2 HZ1 HS1 ⊢
  have m1 : (0 : Int) ≤ (m : Int) := by omega
  have x1 : (W1.alloc (.cells N0 191)).cell? ⟨tb, m, none⟩ = some (.pointer none) := ((HT2.out.alloc_old _).cell m).trans HI.out
  have x2 : (W1.alloc (.cells N0 191)).frozen? ⟨tb, m, none⟩ = false := (HT2.out.alloc_old _).free m
  go_upto_region 31 with (fail)
  have HT3 := Lib.hid ((HT2.out.alloc_old (.cells N0 191)).set m (.pointer (some ⟨W1.heap.size, 0, none⟩)))
  have HQ3 := Lib.hid ((Blk.alloc W1 N0 191).setCell_other (a := ⟨tb, m, none⟩) (.pointer (some ⟨W1.heap.size, 0, none⟩)) (Nat.ne_of_gt HT2.out.lt))
  have HZ3 := Lib.hid ((HZ1.out.trans (But.of_below ((Below.refl _ _).alloc (Nat.le_refl _) (.cells N0 191)))).setCell m (.pointer (some ⟨W1.heap.size, 0, none⟩)))
  have HS3 := Lib.hid (show ((W1.alloc (.cells N0 191)).setCell ⟨tb, m, none⟩ (.pointer (some ⟨W1.heap.size, 0, none⟩))).heap.size = W1.heap.size + 1 by simp [World.setCell])
  have y4 : ((W1.alloc (.cells N0 191)).setCell ⟨tb, m, none⟩ (.pointer (some ⟨W1.heap.size, 0, none⟩))).cell? ⟨n, 4, none⟩ = some (.slice (some ⟨tb, 0, none⟩) tcs.size tcs.size) := by
    have hn := lt_of_cell d4
    rw [World.cell?_of_block (w := W1) ((Below.heap_setCell _ _ _ _ (Ne.symm hne)).trans (Below.heap_alloc _ _ _ hn))]
    exact d4
  clear x1 x2 d1 d4 HZ1 HT2
  generalize (W1.alloc (.cells N0 191)).setCell ⟨tb, m, none⟩ (.pointer (some ⟨W1.heap.size, 0, none⟩)) = W3 at HT3 HQ3 HZ3 HS3 y4 ⊢
  have y1 : W3.cell? ⟨tb, m, none⟩ = some (.pointer (some ⟨W1.heap.size, 0, none⟩)) := (HT3.out.cell m).trans (by simp [hm])
  have hs1 := HS1.out
  generalize W1.heap.size = qb at HT3 HQ3 HS3 y1 hs1 ⊢
  have HQB := Lib.hid hs1
  clear hs1 HS1
  have k1 : (1 : Int) ≤ (key.size : Int) := by omega
  go_still_tail 12, (by kernel_rfl)
  change wpList _ _ _ _ _ W3.drew
  have HT4 := Lib.hid HT3.out.drew
  have HQ4 := Lib.hid HQ3.out.drew
  have HZ4 := Lib.hid (show But tb w W3.drew from HZ3.out.drewN 1)
  have HS4 := Lib.hid (show W3.drew.heap.size = qb + 1 from HS3.out)
  clear y1 y4 HT3 HQ3 HZ3 HS3 k1
  generalize W3.drew = W4 at HT4 HQ4 HZ4 HS4 ⊢
  go_wp2_with (go_at_call 138; refine (add_fresh qb _ val pr _ _ HQ4.out hk1).mono ?_; rintro e w' ⟨rfl, hf⟩; have HF := Lib.hid hf; clear hf)
  first | go_end0 | refine bodyPost_ret (results_none rfl _ _ _) rfl ?_
  have hq := HQB.out
  have hs := HS4.out
  have ht := HT4.out
  have hz := HZ4.out
  obtain ⟨h1, h2, h3, h4⟩ := HF.out
  rw [hs] at h1 h2 h3
  have hlt : tb < qb := by
    have := hz.block
    have h5 := HT.out.lt
    omega
  clear HQB HS4 HT4 HZ4 HF HQ4
  subst hq
  refine ⟨rfl, h4.blk ht (Nat.ne_of_lt hlt), h1, h2, by omega, ?_⟩
  refine ⟨h4.os.trans hz.os, h4.tape.trans hz.tape, h4.output.trans hz.output, by omega, fun k hk hkn => (h4.block k (by omega) (by omega)).trans (hz.block k hk hkn)⟩
set_option maxRecDepth 100000 in
set_option maxHeartbeats 800000 in
/-- Into a node with a table, where a node stands. -/
theorem add_down (n g tb q0 : Nat) (key val : ByteArray) (pr : Int) (m ts : Nat) (Q : World → Prop) (w : World)
    (hk : key.toList.isEmpty = false) (h0 : 0 < key.size)
    (n1 : w.cell? ⟨n, 1, none⟩ = some (.int .i64 0)) (n2 : w.cell? ⟨n, 2, none⟩ = some (.string em)) (n4 : w.cell? ⟨n, 4, none⟩ = some (.slice (some ⟨tb, 0, none⟩) ts ts))
    (hm : m < ts) (hg : w.cell? ⟨g, 6 + key[0].toNat, none⟩ = some (.int .u8 m)) (t1 : w.cell? ⟨tb, m, none⟩ = some (.pointer (some ⟨q0, 0, none⟩)))
    (hF : Calls Tryz.prog 138 #[.pointer (some ⟨q0, 0, none⟩), .string (key.extract 1 key.size), .string val, .int .i64 pr, .pointer (some ⟨g, 0, none⟩)] w.drew.drew fun e w' => e = .returned (.tuple #[]) ∧ Q w') :
    Calls Tryz.prog 138 #[.pointer (some ⟨n, 0, none⟩), .string key, .string val, .int .i64 pr, .pointer (some ⟨g, 0, none⟩)] w fun e w' => e = .returned (.tuple #[]) ∧ Q w' := by
  have q := qneq
  have hlt : (m : Int) < (ts : Int) := by omega
  have hc : (key[0].toNat : Int) < 256 := by have := key[0].toNat_lt; omega
  have m1 : (0 : Int) ≤ (m : Int) := by omega
  have k1 : (1 : Int) ≤ (key.size : Int) := by omega
  have HF := Lib.hid hF
  clear hF
  go_enter Tryz.func138, Tryz.ntmps138
  go_upto_region 28 with (fail)
  go_still (by kernel_rfl)
  show Exit.then _ _ _ _ w.drew
  have d1 : w.drew.cell? ⟨tb, m, none⟩ = some (.pointer (some ⟨q0, 0, none⟩)) := t1
  have d4 : w.drew.cell? ⟨n, 4, none⟩ = some (.slice (some ⟨tb, 0, none⟩) ts ts) := n4
  clear n1 n2 n4 hg t1
  generalize w.drew = W1 at d1 d4 HF ⊢
  go_upto_region 31 with (fail)
  go_still_tail 12, (by kernel_rfl)
  change wpList _ _ _ _ _ W1.drew
  clear d1 d4
  generalize W1.drew = W2 at HF ⊢
  go_wp2_with (go_at_call 138; refine HF.out.mono ?_; rintro e w' ⟨rfl, hf⟩; have HQ := Lib.hid hf; clear hf)
  first | go_end0 | refine bodyPost_ret (results_none rfl _ _ _) rfl ?_
  exact ⟨rfl, HQ.out⟩
/-- A table, empty. -/
abbrev P11 : Array Value := #[.pointer none, .pointer none, .pointer none, .pointer none, .pointer none, .pointer none, .pointer none, .pointer none, .pointer none, .pointer none, .pointer none]
theorem mk11 (w : World) : (Instr.makeSlice 189 (.int .i64 11) (.int .i64 11)).run Tryz.prog w = .ok (.slice (some ⟨w.heap.size, 0, none⟩) 11 11) (w.alloc (.cells P11 188)) := by kernel_rfl
/-- What a key leaves that was put into a node with another prefix. -/
structure Split (n m1 m2 : Nat) (x : ByteArray) (nb : Nat) (key val : ByteArray) (pr : Int) (w w' : World) : Prop where
  top : Blk w' n (ND em 0 em (.pointer none) (.slice (some ⟨w.heap.size + 2, 0, none⟩) 11 11)) 191
  pre : Blk w' w.heap.size (ND em 0 (x.extract 1 x.size) (.pointer (some ⟨nb, 0, none⟩)) (.slice none 0 0)) 191
  node : Blk w' (w.heap.size + 1) (ND em 0 (key.extract 1 key.size) (.pointer (some ⟨w.heap.size + 3, 0, none⟩)) (.slice none 0 0)) 191
  tab : Blk w' (w.heap.size + 2) ((P11.setIfInBounds m1 (.pointer (some ⟨w.heap.size, 0, none⟩))).setIfInBounds m2 (.pointer (some ⟨w.heap.size + 1, 0, none⟩))) 188
  leaf : Blk w' (w.heap.size + 3) (ND val pr em (.pointer none) (.slice none 0 0)) 191
  size : w'.heap.size = w.heap.size + 4
  but : But n w w'
set_option maxRecDepth 100000 in
set_option maxHeartbeats 1600000 in
theorem add_split (n g nb : Nat) (x key val : ByteArray) (pr : Int) (m1 m2 : Nat) (w : World)
    (hB : Blk w n (ND em 0 x (.pointer (some ⟨nb, 0, none⟩)) (.slice none 0 0)) 191) (hgn : g ≠ n)
    (hk : key.toList.isEmpty = false) (hx : x.toList.isEmpty = false) (hk0 : 1 < key.size) (hx0 : 1 < x.size) (hk1 : (key.extract 1 key.size).toList.isEmpty = false)
    (hne : ((x[0].toNat : Int) != (key[0].toNat : Int)) = true) (hm1 : m1 < 11) (hm2 : m2 < 11)
    (gs : w.cell? ⟨g, 5, none⟩ = some (.int .i64 11)) (g1 : w.cell? ⟨g, 6 + x[0].toNat, none⟩ = some (.int .u8 m1)) (g2 : w.cell? ⟨g, 6 + key[0].toNat, none⟩ = some (.int .u8 m2)) :
    Calls Tryz.prog 138 #[.pointer (some ⟨n, 0, none⟩), .string key, .string val, .int .i64 pr, .pointer (some ⟨g, 0, none⟩)] w fun e w' => e = .returned (.tuple #[]) ∧ Split n m1 m2 x nb key val pr w w' := by
  have c1 : w.cell? ⟨n, 1, none⟩ = some (.int .i64 0) := hB.cell 1
  have c2 : w.cell? ⟨n, 2, none⟩ = some (.string x) := hB.cell 2
  have c3 : w.cell? ⟨n, 3, none⟩ = some (.pointer (some ⟨nb, 0, none⟩)) := hB.cell 3
  have hc : (key[0].toNat : Int) < 256 := by have := key[0].toNat_lt; omega
  have hd : (x[0].toNat : Int) < 256 := by have := x[0].toNat_lt; omega
  have k1 : (1 : Int) ≤ (key.size : Int) := by omega
  have k2 : (1 : Int) ≤ (x.size : Int) := by omega
  have k3 : (0 : Int) < (key.size : Int) := by omega
  have k4 : (0 : Int) < (x.size : Int) := by omega
  have hx' : (!x.toList.isEmpty) = true := by rw [hx]; rfl
  have HB := Lib.hid hB
  clear hB
  go_enter Tryz.func138, Tryz.ntmps138
  go_wp2_with fail
  go_loopw [10] (fun nv wr => nv = .int .i64 0 ∧ wr = w) (fun _ _ => 0)
  case atStart => exact ⟨rfl, rfl⟩
  case round =>
    obtain ⟨rfl, rfl⟩ := hrel
    go_upto_region 8 with (fail)
    go_still (by kernel_rfl)
    show Exit.then _ _ _ _ wr.drew
    have d2 : wr.drew.cell? ⟨n, 2, none⟩ = some (.string x) := c2
    have d3 : wr.drew.cell? ⟨n, 3, none⟩ = some (.pointer (some ⟨nb, 0, none⟩)) := c3
    have HB1 := Lib.hid HB.out.drew
    have HG0 := Lib.hid (show wr.cell? ⟨g, 5, none⟩ = some (.int .i64 11) ∧ wr.cell? ⟨g, 6 + x[0].toNat, none⟩ = some (.int .u8 m1) ∧ wr.cell? ⟨g, 6 + key[0].toNat, none⟩ = some (.int .u8 m2) from ⟨gs, g1, g2⟩)
    have HGL := Lib.hid (lt_of_cell gs)
    have hZ0 := Lib.hid HB.out.lt
    have HG := Lib.hid (show wr.drew.cell? ⟨g, 5, none⟩ = some (.int .i64 11) ∧ wr.drew.cell? ⟨g, 6 + x[0].toNat, none⟩ = some (.int .u8 m1) ∧ wr.drew.cell? ⟨g, 6 + key[0].toNat, none⟩ = some (.int .u8 m2) from ⟨gs, g1, g2⟩)
    have HZ := Lib.hid (show But n wr wr.drew from (But.refl n wr).drewN 1)
    have HS := Lib.hid (show wr.drew.heap.size = wr.heap.size from rfl)
    clear c1 c2 c3 gs g1 g2 HB
    generalize wr.drew = W1 at d2 d3 HB1 HG HZ HS ⊢
    go_upto_region 15 with (fail)
    go_still_tail 10, (by kernel_rfl)
    change wpList _ _ _ _ _ W1.drew
    have d3 : W1.drew.cell? ⟨n, 3, none⟩ = some (.pointer (some ⟨nb, 0, none⟩)) := d3
    have HB2 := Lib.hid HB1.out.drew
    have HG2 := Lib.hid (show W1.drew.cell? ⟨g, 5, none⟩ = some (.int .i64 11) ∧ W1.drew.cell? ⟨g, 6 + x[0].toNat, none⟩ = some (.int .u8 m1) ∧ W1.drew.cell? ⟨g, 6 + key[0].toNat, none⟩ = some (.int .u8 m2) from HG.out)
    have HZ2 := Lib.hid (show But n wr W1.drew from HZ.out.drewN 1)
    have HS2 := Lib.hid (show W1.drew.heap.size = wr.heap.size from HS.out)
    clear d2 d3 HB1 HG HZ HS
    generalize W1.drew = W2 at HB2 HG2 HZ2 HS2 ⊢
    go_upto_region 16 with (fail)
    have HS3 := Lib.hid (show (W2.alloc (.cells (ND em 0 (x.extract 1 x.size) (.pointer (some ⟨nb, 0, none⟩)) (.slice none 0 0)) 191)).heap.size = W2.heap.size + 1 by simp)
    have HP3 := Lib.hid (Blk.alloc W2 (ND em 0 (x.extract 1 x.size) (.pointer (some ⟨nb, 0, none⟩)) (.slice none 0 0)) 191)
    have HB3 := Lib.hid (HB2.out.alloc_old (.cells (ND em 0 (x.extract 1 x.size) (.pointer (some ⟨nb, 0, none⟩)) (.slice none 0 0)) 191))
    have HZ3 := Lib.hid (HZ2.out.trans (But.of_below ((Below.refl _ _).alloc (Nat.le_refl _) (.cells (ND em 0 (x.extract 1 x.size) (.pointer (some ⟨nb, 0, none⟩)) (.slice none 0 0)) 191))))
    clear HB2 HZ2
    generalize W2.alloc (.cells (ND em 0 (x.extract 1 x.size) (.pointer (some ⟨nb, 0, none⟩)) (.slice none 0 0)) 191) = W3 at HS3 HP3 HB3 HZ3 ⊢
    have hs2 := HS2.out
    generalize W2.heap.size = pb at HS3 HP3 hs2 ⊢
    have HPB := Lib.hid hs2
    clear hs2 HS2 HG2
    go_upto_region 17 with (fail)
    have HS4 := Lib.hid (show (W3.alloc (.cells N0 191)).heap.size = W3.heap.size + 1 by simp)
    have HP4 := Lib.hid (HP3.out.alloc_old (.cells N0 191))
    have HK4 := Lib.hid (Blk.alloc W3 N0 191)
    have HB4 := Lib.hid (HB3.out.alloc_old (.cells N0 191))
    have HZ4 := Lib.hid (HZ3.out.trans (But.of_below ((Below.refl _ _).alloc (Nat.le_refl _) (.cells N0 191))))
    clear HB3 HZ3 HP3
    generalize W3.alloc (.cells N0 191) = W4 at HS4 HP4 HK4 HB4 HZ4 ⊢
    have hs3 := HS3.out
    generalize W3.heap.size = qb at HS4 HK4 hs3 ⊢
    have HQB := Lib.hid hs3
    clear hs3 HS3
    have HGG := Lib.hid (show ∀ W', But n wr W' → W'.cell? ⟨g, 5, none⟩ = some (.int .i64 11) ∧ W'.cell? ⟨g, 6 + x[0].toNat, none⟩ = some (.int .u8 m1) ∧ W'.cell? ⟨g, 6 + key[0].toNat, none⟩ = some (.int .u8 m2) from fun W' hW => by
      have hb := hW.block g HGL.out hgn
      exact ⟨(World.cell?_of_block (w := wr) hb).trans HG0.out.1, (World.cell?_of_block (w := wr) hb).trans HG0.out.2.1, (World.cell?_of_block (w := wr) hb).trans HG0.out.2.2⟩)
    obtain ⟨g5, -⟩ := HGG.out W4 HZ4.out
    have d4 : ∀ o, (W4.alloc o).cell? ⟨n, 4, none⟩ = some (.slice none 0 0) := fun o => (HB4.out.alloc_old o).cell 4
    have d5 : ∀ o, (W4.alloc o).frozen? ⟨n, 4, none⟩ = false := fun o => (HB4.out.alloc_old o).free 4
    have hmk := mk11
    go_upto_region 18 with (fail)
    have hnl := HB4.out.lt
    have hpn : pb ≠ n := by have := HPB.out; have := hZ0.out; omega
    have hqn : qb ≠ n := by have := HQB.out; have := HPB.out; have := HP4.out.lt; have := hZ0.out; omega
    have HT5 := Lib.hid ((Blk.alloc W4 P11 188).setCell_other (a := ⟨n, 4, none⟩) (.slice (some ⟨W4.heap.size, 0, none⟩) 11 11) (Nat.ne_of_gt hnl))
    have HB5 := Lib.hid ((HB4.out.alloc_old (.cells P11 188)).set 4 (.slice (some ⟨W4.heap.size, 0, none⟩) 11 11))
    have HP5 := Lib.hid ((HP4.out.alloc_old (.cells P11 188)).setCell_other (a := ⟨n, 4, none⟩) (.slice (some ⟨W4.heap.size, 0, none⟩) 11 11) hpn)
    have HK5 := Lib.hid ((HK4.out.alloc_old (.cells P11 188)).setCell_other (a := ⟨n, 4, none⟩) (.slice (some ⟨W4.heap.size, 0, none⟩) 11 11) hqn)
    have HZ5 := Lib.hid ((HZ4.out.trans (But.of_below ((Below.refl _ _).alloc (Nat.le_refl _) (.cells P11 188)))).setCell 4 (.slice (some ⟨W4.heap.size, 0, none⟩) 11 11))
    have HS5 := Lib.hid (show ((W4.alloc (.cells P11 188)).setCell ⟨n, 4, none⟩ (.slice (some ⟨W4.heap.size, 0, none⟩) 11 11)).heap.size = W4.heap.size + 1 by simp [World.setCell])
    clear d4 d5 g5 HP4 HK4 HB4 HZ4 hmk hnl
    generalize (W4.alloc (.cells P11 188)).setCell ⟨n, 4, none⟩ (.slice (some ⟨W4.heap.size, 0, none⟩) 11 11) = W5 at HT5 HB5 HP5 HK5 HZ5 HS5 ⊢
    have hs4 := HS4.out
    generalize W4.heap.size = tb at HT5 HB5 HS5 hs4 ⊢
    have HTB := Lib.hid hs4
    clear hs4 HS4
    have e4 : W5.cell? ⟨n, 4, none⟩ = some (.slice (some ⟨tb, 0, none⟩) 11 11) := HB5.out.cell 4
    have e2 : W5.cell? ⟨n, 2, none⟩ = some (.string x) := HB5.out.cell 2
    obtain ⟨-, e6, -⟩ := HGG.out W5 HZ5.out
    have e7 : ∀ j, j < 11 → P11[j]? = some (.pointer none) := fun j hj => by
      have : j = 0 ∨ j = 1 ∨ j = 2 ∨ j = 3 ∨ j = 4 ∨ j = 5 ∨ j = 6 ∨ j = 7 ∨ j = 8 ∨ j = 9 ∨ j = 10 := by omega
      rcases this with rfl | rfl | rfl | rfl | rfl | rfl | rfl | rfl | rfl | rfl | rfl <;> rfl
    have E7 := Lib.hid e7
    have e8 : W5.drew.cell? ⟨tb, m1, none⟩ = some (.pointer none) := (HT5.out.cell m1).trans (e7 m1 hm1)
    have e9 : W5.drew.frozen? ⟨tb, m1, none⟩ = false := HT5.out.free m1
    have i1 : (m1 : Int) < 11 := by omega
    have i2 : (0 : Int) ≤ (m1 : Int) := by omega
    have j1 : (m2 : Int) < 11 := by omega
    have j2 : (0 : Int) ≤ (m2 : Int) := by omega
    clear e7
    go_still_tail 16, (by kernel_rfl)
    change wpList _ _ _ _ _ W5.drew
    clear e4 e2 e6
    have htn : n ≠ tb := by have := HTB.out; have := HQB.out; have := HP5.out.lt; have := HPB.out; have := hZ0.out; omega
    have htp : pb ≠ tb := by have := HTB.out; have := HQB.out; have := HPB.out; omega
    have htq : qb ≠ tb := by have := HTB.out; omega
    have htw : wr.heap.size ≤ tb := by have := HTB.out; have := HQB.out; have := HPB.out; omega
    have hT6 := HT5.out.drew
    have hB6 := HB5.out.drew
    have hP6 := HP5.out.drew
    have hK6 := HK5.out.drew
    have hZ6 : But n wr W5.drew := HZ5.out.drewN 1
    have hS6 : W5.drew.heap.size = tb + 1 := HS5.out
    generalize W5.drew = W6 at hT6 hB6 hP6 hK6 hZ6 hS6 e8 e9 ⊢
    have HS6 := Lib.hid hS6
    clear HT5 HB5 HP5 HK5 HZ5 HS5 hS6
    have HT7 := Lib.hid (hT6.set m1 (.pointer (some ⟨pb, 0, none⟩)))
    have HB7 := Lib.hid (hB6.setCell_other (a := ⟨tb, m1, none⟩) (.pointer (some ⟨pb, 0, none⟩)) htn)
    have HP7 := Lib.hid (hP6.setCell_other (a := ⟨tb, m1, none⟩) (.pointer (some ⟨pb, 0, none⟩)) htp)
    have HK7 := Lib.hid (hK6.setCell_other (a := ⟨tb, m1, none⟩) (.pointer (some ⟨pb, 0, none⟩)) htq)
    have HZ7 := Lib.hid (show But n wr (W6.setCell ⟨tb, m1, none⟩ (.pointer (some ⟨pb, 0, none⟩))) from But.setNew hZ6 htw m1 _)
    clear hT6 hB6 hP6 hK6 hZ6
    go_upto_region 19 with (fail)
    have HS7 := Lib.hid ((size_set W6 ⟨tb, m1, none⟩ (.pointer (some ⟨pb, 0, none⟩))).trans HS6.out)
    clear e8 e9 HS6
    generalize W6.setCell ⟨tb, m1, none⟩ (.pointer (some ⟨pb, 0, none⟩)) = W7 at HT7 HB7 HP7 HK7 HZ7 HS7 ⊢
    obtain ⟨v2, hv2⟩ : ∃ v, (P11.setIfInBounds m1 (.pointer (some ⟨pb, 0, none⟩)))[m2]? = some v := ⟨_, Array.getElem?_eq_getElem (by simp; omega)⟩
    have e4 : W7.cell? ⟨n, 4, none⟩ = some (.slice (some ⟨tb, 0, none⟩) 11 11) := HB7.out.cell 4
    obtain ⟨-, -, e6⟩ := HGG.out W7 HZ7.out
    have e8 : W7.drew.cell? ⟨tb, m2, none⟩ = some v2 := (HT7.out.cell m2).trans hv2
    have e9 : W7.drew.frozen? ⟨tb, m2, none⟩ = false := HT7.out.free m2
    clear hv2
    go_still_tail 13, (by kernel_rfl)
    change wpList _ _ _ _ _ W7.drew
    clear e4 e6
    have hT8 := HT7.out.drew
    have hB8 := HB7.out.drew
    have hP8 := HP7.out.drew
    have hK8 := HK7.out.drew
    have hZ8 : But n wr W7.drew := HZ7.out.drewN 1
    have hS8 : W7.drew.heap.size = tb + 1 := HS7.out
    generalize W7.drew = W8 at hT8 hB8 hP8 hK8 hZ8 hS8 e8 e9 ⊢
    have HS8 := Lib.hid hS8
    clear HT7 HB7 HP7 HK7 HZ7 HS7 hS8
    have HT9 := Lib.hid (hT8.set m2 (.pointer (some ⟨qb, 0, none⟩)))
    have HB9 := Lib.hid (hB8.setCell_other (a := ⟨tb, m2, none⟩) (.pointer (some ⟨qb, 0, none⟩)) htn)
    have HP9 := Lib.hid (hP8.setCell_other (a := ⟨tb, m2, none⟩) (.pointer (some ⟨qb, 0, none⟩)) htp)
    have HK9 := Lib.hid (hK8.setCell_other (a := ⟨tb, m2, none⟩) (.pointer (some ⟨qb, 0, none⟩)) htq)
    have HZ9 := Lib.hid (show But n wr (W8.setCell ⟨tb, m2, none⟩ (.pointer (some ⟨qb, 0, none⟩))) from But.setNew hZ8 htw m2 _)
    have HS9 := Lib.hid ((size_set W8 ⟨tb, m2, none⟩ (.pointer (some ⟨qb, 0, none⟩))).trans HS8.out)
    clear hT8 hB8 hP8 hK8 hZ8 HS8
    go_upto_region 20 with (fail)
    clear e8 e9
    generalize W8.setCell ⟨tb, m2, none⟩ (.pointer (some ⟨qb, 0, none⟩)) = W9 at HT9 HB9 HP9 HK9 HZ9 HS9 ⊢
    have e2 : W9.cell? ⟨n, 2, none⟩ = some (.string x) := HB9.out.cell 2
    have e3 : W9.cell? ⟨n, 3, none⟩ = some (.pointer (some ⟨nb, 0, none⟩)) := HB9.out.cell 3
    have f2 := HB9.out.free 2
    have f3 := HB9.out.free 3
    go_upto_region 22 with (fail)
    clear e2 e3 f2 f3
    have HB10 := Lib.hid ((HB9.out.set 2 (.string em)).set 3 (.pointer none))
    have HT10 := Lib.hid ((HT9.out.setCell_other (a := ⟨n, 2, none⟩) (.string em) (Ne.symm htn)).setCell_other (a := ⟨n, 3, none⟩) (.pointer none) (Ne.symm htn))
    have HP10 := Lib.hid ((HP9.out.setCell_other (a := ⟨n, 2, none⟩) (.string em) hpn).setCell_other (a := ⟨n, 3, none⟩) (.pointer none) hpn)
    have HK10 := Lib.hid ((HK9.out.setCell_other (a := ⟨n, 2, none⟩) (.string em) hqn).setCell_other (a := ⟨n, 3, none⟩) (.pointer none) hqn)
    have HZ10 := Lib.hid ((HZ9.out.setCell 2 (.string em)).setCell 3 (.pointer none))
    have HS10 := Lib.hid (((size_set _ ⟨n, 3, none⟩ (.pointer none)).trans (size_set W9 ⟨n, 2, none⟩ (.string em))).trans HS9.out)
    clear HT9 HB9 HP9 HK9 HZ9 HS9
    generalize (W9.setCell ⟨n, 2, none⟩ (.string em)).setCell ⟨n, 3, none⟩ (.pointer none) = W10 at HT10 HB10 HP10 HK10 HZ10 HS10 ⊢
    go_wp2_with (go_at_call 138; refine (add_fresh qb _ val pr _ _ HK10.out hk1).mono ?_; rintro e w' ⟨rfl, hf⟩; have HF := Lib.hid hf; clear hf)
    first | go_end0 | refine bodyPost_ret (results_none rfl _ _ _) rfl ?_
    obtain ⟨h1, h2, h3, h4⟩ := HF.out
    have hs := HS10.out
    rw [hs] at h1 h2 h3
    have k1 : tb = wr.heap.size + 2 := by have := HTB.out; have := HQB.out; have := HPB.out; omega
    have k2 : qb = wr.heap.size + 1 := by have := HQB.out; have := HPB.out; omega
    have k3 := HPB.out
    have hT := h4.blk HT10.out (Ne.symm htq)
    have hB := h4.blk HB10.out (Ne.symm hqn)
    have hP := h4.blk HP10.out (by omega)
    have hZ := HZ10.out
    clear HF HS10 HT10 HB10 HP10 HK10 HZ10 HTB HQB HPB
    subst k1 k2 k3
    refine ⟨rfl, hB, hP, h1, hT, h2, by omega, ?_⟩
    exact ⟨h4.os.trans hZ.os, h4.tape.trans hZ.tape, h4.output.trans hZ.output, by omega, fun k hk hkn => (h4.block k (by omega) (by omega)).trans (hZ.block k hk hkn)⟩
end Go.Proofs.YtkjgnkmnngaioaaGreat.Q
