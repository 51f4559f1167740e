/- The filler of lines, walked: within, of, after, put, end: that the Go code computes what the plain functions say. -/
import Derived.Test.YthkipbnigokcfaaLnP
import Derived.Test.YthkipbnigokcfaaMem
import Derived.Test.YthkipbnigokcfaaMixL
import Derived.StillTailTactics
import Derived.Outline
namespace Go.Proofs.Ythkipbnigokcfaa.Q
open Go.RowKit Go.IntWalk Go.Proofs.Ythkipbnigokcfaa.Mem Go.Proofs.YthkipbnigokcfaaW.PrintWords Go.Proofs.YthkipbnigokcfaaW.PrintLast Go.Proofs.YthkipbnigokcfaaW.PrintMore
set_option linter.unusedVariables false
set_option linter.unusedSimpArgs false

theorem max2_I (k k' : IntKind) (x y : Int) : Builtin.max2 (.int k x) (.int k' y) = pure (.int k (mxI x y)) := by
  rw [max2_int]; congr 2; unfold mxI; split <;> omega
theorem add_still (a b : Int) (w : World) : Calls Try.prog 25 #[.int .i64 a, .int .i64 b] w fun e w' => e = .returned (.tuple #[.int .i64 (addV a b), .bool (addB a b)]) ∧ w' = w :=
  (add_calls a b w).mono fun e w' ⟨h1, h2⟩ => ⟨h1, h2.symm⟩
def inB (n : Int) : Bool := decide (0 ≤ n) && decide (n ≤ 1099511627776)
theorem within_calls (n : Int) (w : World) : Calls Try.prog 15 #[.int .i64 n] w fun e w' => e = .returned (.bool (inB n)) ∧ w = w' := by
  by_cases h1 : 0 ≤ n
  · by_cases h2 : n ≤ 1099511627776
    · have h3 : inB n = true := by simp [inB, h1, h2]
      rw [h3]
      go_enter Try.func15, Try.ntmps15
      go_wp2
      go_ret
      exact ⟨rfl, rfl⟩
    · have h3 : inB n = false := by simp [inB, h2]
      rw [h3]
      go_enter Try.func15, Try.ntmps15
      go_wp2
      go_ret
      exact ⟨rfl, rfl⟩
  · have h3 : inB n = false := by simp [inB, h1]
    rw [h3]
    go_enter Try.func15, Try.ntmps15
    go_wp2
    go_ret
    exact ⟨rfl, rfl⟩

/-- The filler in memory. -/
def FB (v : Value) (s : St) (room align : Int) : Array Value := #[v, .int .i64 s.op, .int .i64 s.many, .int .i64 s.wide, .int .i64 s.high, .int .i64 s.top, .int .i64 room, .int .i64 align, .bool s.rough]

theorem of_calls (g : Nat) (n : Int) (ex r : Bool) (w : World) (h8 : w.cell? ⟨g, 8, none⟩ = some (.bool r)) (f8 : w.frozen? ⟨g, 8, none⟩ = false) :
    Calls Try.prog 26 #[.pointer (some ⟨g, 0, none⟩), .int .i64 n, .bool ex] w fun e w' => e = .returned (.int .i64 n) ∧ w' = w.setCell ⟨g, 8, none⟩ (.bool (r || !ex)) := by
  cases r <;> cases ex
  all_goals
    go_enter Try.func26, Try.ntmps26
    go_wp2
    go_ret
    exact ⟨rfl, rfl⟩

theorem put_snoc : ∀ (r : List Pc) (s : St) (i : Int) (p : Pc), s.put i (r ++ [p]) = (s.put i r).one (i + r.length) p
  | [], s, i, p => by simp [St.put]
  | q :: r, s, i, p => by
    show (s.one i q).put (i + 1) (r ++ [p]) = ((s.one i q).put (i + 1) r).one _ p
    rw [put_snoc r (s.one i q) (i + 1) p]
    congr 1
    simp; omega
/-- Numbers that may be, of a filler: no sum wraps. -/
structure Fine (s : St) (n : Nat) : Prop where
  len : s.out.length = n
  op : s.op ≤ n
  many0 : 0 ≤ s.many
  manyN : s.many ≤ s.op
  wide : In s.wide
  high : In s.high
  top : In s.top
  out : ∀ x ∈ s.out, In x.f2.f0 ∧ In x.f2.f3
theorem one_fine {s : St} {n : Nat} {i : Int} {p : Pc} (h : Fine s n) (hp : okP p) : Fine (s.one i p) (n + 1) := by
  have hw : In (s.w1 p) := by
    unfold St.w1; split
    · exact addV_ok h.wide hp.2.2
    · exact h.wide
  have h1 := h.op
  have h2 := h.manyN
  refine ⟨by simp [St.one, h.len], by show s.op ≤ n + 1; omega, h.many0, by show s.many ≤ _; exact h2, addV_ok hw hp.1, ?_, h.top, fun x hx => ?_⟩
  · show In (mxI s.high p.f2)
    have a := h.high
    have b := hp.2.1
    unfold In mxI at *; omega
  · rcases List.mem_append.1 hx with hx | hx
    · exact h.out x hx
    · rw [List.mem_singleton] at hx
      subst hx
      exact ⟨hw, hp.2.1⟩
theorem put_fine : ∀ (r : List Pc) {s : St} {n : Nat} {i : Int}, Fine s n → (∀ p ∈ r, okP p) → Fine (s.put i r) (n + r.length)
  | [], s, n, i, h, _ => h
  | p :: r, s, n, i, h, hr => by
    have := put_fine r (i := i + 1) (one_fine (i := i) h (hr p (by simp))) (fun q hq => hr q (by simp [hq]))
    rw [show n + (p :: r).length = n + 1 + r.length from by simp; omega]
    exact this

/-- All is as it was, but for block `g` and blocks of places. -/
structure Kpt (g : Nat) (w w' : World) : Prop where
  size : w.heap.size ≤ w'.heap.size
  block : ∀ b, b < w.heap.size → b ≠ g → (∀ cs fr, w.heap[b]? ≠ some (.cells cs 30 fr)) → w'.heap[b]? = w.heap[b]?
theorem Kpt.refl (g : Nat) (w : World) : Kpt g w w := ⟨Nat.le_refl _, fun _ _ _ _ => rfl⟩
theorem Kpt.trans {g : Nat} {x y z : World} (h : Kpt g x y) (k : Kpt g y z) : Kpt g x z :=
  ⟨Nat.le_trans h.size k.size, fun b h1 h2 h3 => by
    have e := h.block b h1 h2 h3
    rw [k.block b (Nat.lt_of_lt_of_le h1 h.size) h2 (fun cs fr => by rw [e]; exact h3 cs fr), e]⟩
theorem Kpt.below {g : Nat} {x w w' : World} (h : Kpt g x w) (k : Below w.heap.size w w') : Kpt g x w' := h.trans ⟨k.size, fun b h1 _ _ => k.block b h1⟩
theorem Kpt.setCell {g : Nat} {x w : World} (h : Kpt g x w) (i : Nat) (v : Value) : Kpt g x (w.setCell ⟨g, i, none⟩ v) :=
  h.trans ⟨by simp [World.setCell], fun b _ h2 _ => Below.heap_setCell _ _ _ _ h2⟩
theorem Kpt.setRow {g g' : Nat} {x w : World} {cs : Array Value} {fr : Nat × Nat} (h : Kpt g x w) (hr : w.heap[g']? = some (.cells cs 30 fr)) (i : Nat) (v : Value) : Kpt g x (w.setCell ⟨g', i, none⟩ v) :=
  h.trans ⟨by simp [World.setCell], fun b _ _ h3 => Below.heap_setCell _ _ _ _ (fun e => by subst e; exact h3 _ _ hr)⟩
theorem Kpt.grown {g : Nat} {x w w' : World} {base : Nat} {ok : Nat → Prop} {v : Value} {xs : List Pl} (h : Kpt g x w) (hr : Kd.R k30 30 w base ok v xs) (hg : w.grownBy w' v.ownBlock) : Kpt g x w' :=
  h.trans ⟨hg.size, fun b h1 _ h3 => hg.block b h1 (fun e => by
    obtain ⟨inner, ho⟩ := Kd.R_own hr
    rcases ho.2 with ⟨rfl, _⟩ | ⟨q, cap, cur, rfl, _, hq, _⟩
    · cases e
    · simp only [Value.ownBlock, Option.some.injEq] at e
      subst e
      exact h3 _ _ hq)⟩
theorem Kpt.blk {g : Nat} {w w' : World} (h : Kpt g w w') {b : Nat} {cs : Array Value} {T : TypeId} (hb : Blk w b cs T) (hn : b ≠ g) (hT : T ≠ 30) : Blk w' b cs T :=
  hb.of_block (h.block b hb.lt hn (fun cs' fr e => by
    unfold Blk at hb
    rw [hb] at e
    injection e with e
    injection e with _ e2
    exact hT e2))
/-- The filler and its places, in memory that is new since `w0`; since `w1` nothing else has turned. -/
structure FI (g : Nat) (w0 w1 : World) (room align : Int) (s : St) (v : Value) (wr : World) : Prop where
  box : Blk wr g (FB v s room align) 47
  row : Kd.R k30 30 wr w0.heap.size (fun _ => True) v s.out
  below : Below w0.heap.size w0 wr
  ge : w0.heap.size ≤ g
  kept : Kpt g w1 wr
theorem FI.next {g : Nat} {w0 w1 : World} {room align : Int} {s : St} {v : Value} {wr wr' : World} (h : FI g w0 w1 room align s v wr) (hb : Below wr.heap.size wr wr') : FI g w0 w1 room align s v wr' :=
  ⟨h.box.below hb h.box.lt, Kd.R_below h.row hb, h.below.trans (hb.mono h.below.size), h.ge, h.kept.below hb⟩
/-- From now on. -/
theorem FI.now {g : Nat} {w0 w1 : World} {room align : Int} {s : St} {v : Value} {wr : World} (h : FI g w0 w1 room align s v wr) : FI g w0 wr room align s v wr := ⟨h.box, h.row, h.below, h.ge, Kpt.refl _ _⟩
/-- A number of the filler turned. -/
theorem FI.turn {g : Nat} {w0 w1 : World} {room align : Int} {s s' : St} {v : Value} {wr : World} (h : FI g w0 w1 room align s v wr) (j : Nat) (u : Value) (ho : s'.out = s.out) (he : (FB v s room align).setIfInBounds j u = FB v s' room align) :
    FI g w0 w1 room align s' v (wr.setCell ⟨g, j, none⟩ u) :=
  ⟨he ▸ h.box.set j u, by rw [ho]; exact Kd.R_set h.row h.box (by decide) _ _, h.below.setCell h.ge _, h.ge, h.kept.setCell _ _⟩
theorem FI.drew {g : Nat} {w0 w1 : World} {room align : Int} {s : St} {v : Value} {wr : World} (h : FI g w0 w1 room align s v wr) : FI g w0 w1 room align s v wr.drew := h.next (below_drew (Below.refl _ _))
theorem infoPl : (Try.prog.info? 30).map (fun i => (i.zero, i.size, i.bytes)) = some (some (.agg #[.int .i64 0, .int .i64 0, .int .i64 0, .int .i64 0, .int .i64 0, .int .i64 0]), 6, 48) := by kernel_rfl
theorem FI.away' {g : Nat} {w0 w1 : World} {room align : Int} {s : St} {v : Value} {wr : World} (h : FI g w0 w1 room align s v wr) {b : Nat} {cs : Array Value} {T : TypeId} (hb : Blk wr b cs T) (hT : 30 ≠ T) : some b ≠ v.ownBlock := by
  obtain ⟨inner, ho⟩ := Kd.R_own h.row
  exact own_ne ho hb hT
theorem FI.away {g : Nat} {w0 w1 : World} {room align : Int} {s : St} {v : Value} {wr : World} (h : FI g w0 w1 room align s v wr) : some g ≠ v.ownBlock := h.away' h.box (by decide)
attribute [local go_sem] max_two max2_I
set_option maxRecDepth 100000 in
set_option maxHeartbeats 4000000 in
theorem put_calls (g : Nat) (w0 w1 : World) (room align : Int) (s : St) (v : Value) (n : Nat) (from_ : Int) (A : Option Addr) (c : Nat) (r : List Pc) (w : World) (hI : FI g w0 w1 room align s v w) (hF : Fine s n)
    (hC : Kd.C k32 w0 A r.length r) (hok : ∀ p ∈ r, okP p) (hn : n + r.length ≤ 1000000000000) (h0 : 0 ≤ from_) (h1 : from_ ≤ 1000000000000) :
    Calls Try.prog 21 #[.pointer (some ⟨g, 0, none⟩), .int .i64 from_, .slice A r.length c] w fun e w' => e = .returned (.tuple #[]) ∧ ∃ v', FI g w0 w1 room align (s.put from_ r) v' w' := by
  have HI := Lib.hid hI
  have HC := Lib.hid hC
  have HF := Lib.hid hF
  have HOK := Lib.hid hok
  clear hI hC hF hok
  go_enter Try.func21, Try.ntmps21
  go_wp2_with fail
  go_loopw [10] (fun i wr => ∃ (k : Nat) (v' : Value), k ≤ r.length ∧ i = .int .i64 k ∧ Hid (FI g w0 w1 room align (s.put from_ (r.take k)) v' wr)) (fun i wr => r.length - (intOf i).toNat)
  case atStart => exact ⟨0, v, Nat.zero_le _, rfl, HI⟩
  case round =>
    obtain ⟨k, v', hk, rfl, P⟩ := hrel
    by_cases hlt : k < r.length
    · obtain ⟨ad, rfl, e0, e1, e2, e3, e4, e5⟩ := at_T32 (Kd.C_below HC.out P.out.below) (k : Int) (by omega) (by omega)
      have hx : okP (rd_T32 r (k : Int)) := HOK.out _ (by simp [rd_T32, hlt])
      have hS : Hid (s.put from_ (r.take (k + 1)) = (s.put from_ (r.take k)).one (from_ + k) (rd_T32 r (k : Int))) := Lib.hid (by
        rw [List.take_succ_eq_append_getElem hlt, put_snoc]; congr 1
        · simp; omega
        · simp [rd_T32, hlt])
      have hT : Fine (s.put from_ (r.take k)) (n + k) := by
        have := put_fine (r.take k) (i := from_) HF.out (fun p hp => HOK.out p (List.mem_of_mem_take hp))
        rwa [List.length_take, Nat.min_eq_left hk] at this
      generalize s.put from_ (r.take k) = t at *
      generalize rd_T32 r (k : Int) = x at *
      obtain ⟨x0, x1, x2, x3, x4, x5⟩ := x
      simp only [Int.toNat_natCast] at e0 e1 e2 e3 e4 e5
      have HX := Lib.hid hx
      have HT := Lib.hid hT
      clear hx hT
      obtain ⟨A1, c1, rfl⟩ := Kd.R_slice P.out.row
      go_upto_region 3 with (fail)
      have HP1 : Hid (FI g w0 w1 room align t (.slice A1 t.out.length c1) (wr.alloc (.cells #[.int .i64 x0, .int .i64 x1, .int .i64 x2, .int .i64 x3, .string x4, .bool x5] 32))) := Lib.hid (P.out.next ((Below.refl _ _).alloc (Nat.le_refl _) _))
      have HB1 := Lib.hid (Blk.alloc wr #[.int .i64 x0, .int .i64 x1, .int .i64 x2, .int .i64 x3, .string x4, .bool x5] 32)
      have hg1 : g < wr.heap.size := P.out.box.lt
      obtain ⟨pb, hpb⟩ : ∃ pb, pb = wr.heap.size := ⟨_, rfl⟩
      rw [← hpb] at HB1 hg1 ⊢
      generalize wr.alloc (.cells #[.int .i64 x0, .int .i64 x1, .int .i64 x2, .int .i64 x3, .string x4, .bool x5] 32) = W1 at HP1 HB1 ⊢
      clear hpb e0 e1 e2 e3 e4 e5
      -- THE ROUND
      have b0 := HP1.out.box.cell 0
      have b1 := HP1.out.box.cell 1
      simp only [FB, List.getElem?_toArray, List.getElem?_cons_zero, List.getElem?_cons_succ] at b0 b1
      go_still (by kernel_rfl)
      clear b0 b1
      show Exit.then _ _ _ _ W1.drew
      have HP2 := Lib.hid HP1.out.drew
      have HB2 := Lib.hid HB1.out.drew
      generalize W1.drew = W2 at HP2 HB2 ⊢
      clear HP1 HB1
      go_upto_if 24 with (fail)
      go_cut [10, 6] from 10 to 89 (fun i i6 wc => i = .int .i64 k ∧ i6 = .int .i64 k ∧ Hid (FI g w0 w1 room align { t with out := t.out, wide := t.w1 ⟨x0, x1, x2, x3, x4, x5⟩, high := t.high, rough := t.r1 ⟨x0, x1, x2, x3, x4, x5⟩ } (.slice A1 t.out.length c1) wc) ∧ Hid (Blk wc pb #[.int .i64 x0, .int .i64 x1, .int .i64 x2, .int .i64 x3, .string x4, .bool x5] 32))
      case first =>
        by_cases hg : t.op < t.out.length
        · have hg1 : decide (t.op < t.out.length) = true := decide_eq_true hg
          have hgap : t.gap = true := hg1
          have HG := Lib.hid hgap
          clear hgap
          go_upto_region 4 with (fail)
          have HP3 := Lib.hid HP2.out.drew
          have HB3 := Lib.hid HB2.out.drew
          obtain ⟨W3, hW3⟩ : ∃ W_, W_ = W2.drew := ⟨_, rfl⟩
          rw [← hW3] at HP3 HB3
          have HW3 := Lib.hid hW3
          clear hW3
          show (Code.region _ _ _).wp _ _ _ W2
          have b3 := HP3.out.box.cell 3
          have b8 := HP3.out.box.cell 8
          have f3 := HP3.out.box.free 3
          have f8 := HP3.out.box.free 8
          have p3 := HB3.out.cell 3
          simp only [FB, List.getElem?_toArray, List.getElem?_cons_zero, List.getElem?_cons_succ] at b3 b8 p3
          obtain ⟨L1, hL1⟩ : ∃ L1 : List World, L1 = [W3, W3, (W3.setCell ⟨g, 8, none⟩ (.bool (t.rough || !addB t.wide x3))), (W3.setCell ⟨g, 8, none⟩ (.bool (t.rough || !addB t.wide x3))).setCell ⟨g, 3, none⟩ (.int .i64 (addV t.wide x3))] := ⟨_, rfl⟩
          have HL1_0 : Hid (L1[0]? = some (W3)) := Lib.hid (by rw [hL1]; rfl)
          have HL1_1 : Hid (L1[1]? = some (W3)) := Lib.hid (by rw [hL1]; rfl)
          have HL1_2 : Hid (L1[2]? = some ((W3.setCell ⟨g, 8, none⟩ (.bool (t.rough || !addB t.wide x3))))) := Lib.hid (by rw [hL1]; rfl)
          have HL1_3 : Hid (L1[3]? = some ((W3.setCell ⟨g, 8, none⟩ (.bool (t.rough || !addB t.wide x3))).setCell ⟨g, 3, none⟩ (.int .i64 (addV t.wide x3)))) := Lib.hid (by rw [hL1]; rfl)
          clear hL1
          have ne1 := Mix.CL.ne HL1_0.out
          have nx1 := Mix.CL.nx (p := 0) (q := 0) HL1_0.out (Nat.le_refl _)
          have q3 := Mix.CL.at0 HL1_0.out b3
          have q7 := Mix.CL.at0 HL1_0.out p3
          refine Mix.wp_region_mix (C := Mix.CL L1) [8, 11, 14] (by kernel_rfl) (by kernel_rfl) (by rw [← HW3.out]; exact HL1_0.out) ?_
          iterate 5 (refine Mix.mix_still (by decide) (fun K hK => ?_); go_simp; refine hK _ ?_; clear hK K)
          iterate 1 (refine Mix.mix_in 0 0 (by decide) (by kernel_rfl) (fun K hK => ?_); go_simp; refine hK _ ?_; clear hK K)
          iterate 1 (refine Mix.mix_still (by decide) (fun K hK => ?_); go_simp; refine hK _ ?_; clear hK K)
          iterate 1 (refine Mix.mix_in 0 0 (by decide) (by kernel_rfl) (fun K hK => ?_); go_simp; refine hK _ ?_; clear hK K)
          refine Mix.mix_turn (by decide) (fun K hK => ?_)
          go_simp
          refine ⟨(.tuple #[.int .i64 (addV t.wide x3), .bool (addB t.wide x3)]), fun w_ hw_ => ?_, hK _ ?_⟩
          · have e_ := (Mix.CL.eq HL1_0.out hw_).symm
            subst e_
            exact (add_still t.wide x3 _).mono fun e_ w_ ⟨h1_, h2_⟩ => ⟨h1_, by first | exact h2_ ▸ HL1_1.out | (rw [h2_]; exact HL1_1.out)⟩
          clear hK K
          iterate 2 (refine Mix.mix_still (by decide) (fun K hK => ?_); go_simp; refine hK _ ?_; clear hK K)
          refine Mix.mix_turn (by decide) (fun K hK => ?_)
          go_simp
          refine ⟨(.int .i64 (addV t.wide x3)), fun w_ hw_ => ?_, hK _ ?_⟩
          · have e_ := (Mix.CL.eq HL1_1.out hw_).symm
            subst e_
            exact (of_calls g (addV t.wide x3) (addB t.wide x3) t.rough _ b8 f8).mono fun e_ w_ ⟨h1_, h2_⟩ => ⟨h1_, by first | exact h2_ ▸ HL1_2.out | (rw [h2_]; exact HL1_2.out)⟩
          clear hK K
          iterate 2 (refine Mix.mix_still (by decide) (fun K hK => ?_); go_simp; refine hK _ ?_; clear hK K)
          refine Mix.mix_turn (by decide) (fun K hK => ?_)
          go_simp
          refine ⟨⟨undef, fun w_ hw_ => ?_⟩, hK _ ?_⟩
          · have e_ := (Mix.CL.eq HL1_2.out hw_).symm
            subst e_
            have d1_ := (show (W3.setCell ⟨g, 8, none⟩ (.bool (t.rough || !addB t.wide x3))).cell? ⟨g, 3, none⟩ = some (.int .i64 t.wide) by rw [World.cell?_setCell_other _ _ _ _ (by simp)]; exact b3)
            have d2_ := (show (W3.setCell ⟨g, 8, none⟩ (.bool (t.rough || !addB t.wide x3))).frozen? ⟨g, 3, none⟩ = false by rw [World.frozen?_setCell]; exact f3)
            have hs_ := HL1_3.out
            clear ne1 nx1 q3 q7 b3 b8 f3 f8 p3
            generalize (W3.setCell ⟨g, 8, none⟩ (.bool (t.rough || !addB t.wide x3))) = yw_ at d1_ d2_ hs_ ⊢
            go_simp
            all_goals exact hs_
          clear hK K
          refine Mix.mix_nil ?_
          intro w_ hw_
          have e_ := (Mix.CL.eq HL1_3.out hw_).symm
          subst e_
          clear ne1 nx1 q3 q7 hw_
          clear b3 b8 f3 f8 p3
          go_wp2_with fail
          go_meet
          case rel =>
            refine ⟨rfl, rfl, Lib.hid ?_, Lib.hid ?_⟩
            · refine (HP3.out.turn (s' := { t with out := t.out, wide := t.wide, high := t.high, rough := t.r1 ⟨x0, x1, x2, x3, x4, x5⟩ }) 8 _ rfl ?_).turn 3 _ rfl ?_
              · unfold FB St.r1; rw [if_pos HG.out]; rfl
              · unfold FB St.w1; rw [if_pos HG.out]; rfl
            · exact (HB3.out.setCell_other _ (by simp; omega)).setCell_other _ (by simp; omega)
        · have hg1 : decide (t.op < t.out.length) = false := decide_eq_false hg
          have hgap : ¬ t.gap = true := by unfold St.gap; rw [hg1]; simp
          have HG := Lib.hid hgap
          clear hgap
          go_wp2_with fail
          go_meet
          case rel =>
            refine ⟨rfl, rfl, Lib.hid ?_, HB2⟩
            have h := HP2.out
            refine ⟨?_, h.row, h.below, h.ge, h.kept⟩
            have hb := h.box
            unfold FB St.w1 St.r1 at *
            rw [if_neg HG.out, if_neg HG.out]
            exact hb
      case rest =>
        obtain ⟨rfl, rfl, HP4, HB4⟩ := hcut
        clear HP2 HB2
        go_upto_region 5 with (fail)
        have HP5 := Lib.hid HP4.out.drew
        have HB5 := Lib.hid HB4.out.drew
        obtain ⟨W5, hW5⟩ : ∃ W_, W_ = wc.drew := ⟨_, rfl⟩
        rw [← hW5] at HP5 HB5
        have HW5 := Lib.hid hW5
        clear hW5
        have b0 := HP5.out.box.cell 0
        have b2 := HP5.out.box.cell 2
        have b3 := HP5.out.box.cell 3
        have p1 := HB5.out.cell 1
        have p2 := HB5.out.cell 2
        simp only [FB, List.getElem?_toArray, List.getElem?_cons_zero, List.getElem?_cons_succ] at b0 b2 b3 p1 p2
        have hlen := HT.out.len
        have e1_ : IntKind.i64.wrap (from_ + (k : Int)) = from_ + (k : Int) := i64_in _ (by omega)
        obtain ⟨v1, V1, hrun, hR, hBl, hgr⟩ := Mix.app_run k30 (w0 := w0) (W := W5) (P := Try.prog) w0.heap.size 24 24 30 (.agg #[.int .i64 0, .int .i64 0, .int .i64 0, .int .i64 0, .int .i64 0, .int .i64 0]) 48 Try.underlying24 infoPl rfl (by decide) (by omega) (.slice A1 t.out.length c1) t.out (⟨from_ + k, t.many, ⟨(t.w1 ⟨x0, x1, x2, x3, x4, x5⟩), 0, x1, x2⟩⟩ : Pl) [.int .i64 (from_ + k), .int .i64 t.many, .int .i64 (t.w1 ⟨x0, x1, x2, x3, x4, x5⟩), .int .i64 0, .int .i64 x1, .int .i64 x2] (fun _ => True) (fun _ => False) (k30_mkM _ _ _ (⟨from_ + k, t.many, ⟨(t.w1 ⟨x0, x1, x2, x3, x4, x5⟩), 0, x1, x2⟩⟩ : Pl)) (fun _ h => h.elim) (fun _ _ => trivial) HP5.out.row HP5.out.below HP5.out.below.size (by rw [hlen]; omega)
        obtain ⟨A2, c2, rfl⟩ := Kd.R_slice hR
        simp only [List.length_append, List.length_singleton] at hR hrun
        have hbg := blk_grown HP5.out.box hgr HP5.out.away
        have hbp := blk_grown HB5.out hgr (HP5.out.away' HB5.out (by decide))
        have HKG := Lib.hid (HP5.out.kept.grown HP5.out.row hgr)
        have HRUN := Lib.hid hrun
        have HR_ := Lib.hid hR
        have HBL := Lib.hid hBl
        have HBG : Hid (Blk V1 g _ _) := Lib.hid hbg
        have HBP : Hid (Blk V1 pb _ _) := Lib.hid hbp
        have d0 := HBG.out.cell 0
        have d0f := HBG.out.free 0
        simp only [FB, List.getElem?_toArray, List.getElem?_cons_zero] at d0
        clear hrun hR hBl hgr hbg hbp hlen
        obtain ⟨L2, hL2⟩ : ∃ L2 : List World, L2 = [W5, (W5.alloc (.cells ([.int .i64 (from_ + k), .int .i64 t.many, .int .i64 (t.w1 ⟨x0, x1, x2, x3, x4, x5⟩), .int .i64 0, .int .i64 x1, .int .i64 x2]).toArray 30)), V1, V1.setCell ⟨g, 0, none⟩ (.slice A2 (t.out.length + 1) c2)] := ⟨_, rfl⟩
        have HL2_0 : Hid (L2[0]? = some (W5)) := Lib.hid (by rw [hL2]; rfl)
        have HL2_1 : Hid (L2[1]? = some ((W5.alloc (.cells ([.int .i64 (from_ + k), .int .i64 t.many, .int .i64 (t.w1 ⟨x0, x1, x2, x3, x4, x5⟩), .int .i64 0, .int .i64 x1, .int .i64 x2]).toArray 30)))) := Lib.hid (by rw [hL2]; rfl)
        have HL2_2 : Hid (L2[2]? = some (V1)) := Lib.hid (by rw [hL2]; rfl)
        have HL2_3 : Hid (L2[3]? = some (V1.setCell ⟨g, 0, none⟩ (.slice A2 (t.out.length + 1) c2))) := Lib.hid (by rw [hL2]; rfl)
        clear hL2
        have ne2 := Mix.CL.ne HL2_0.out
        have nx2 := Mix.CL.nx (p := 0) (q := 0) HL2_0.out (Nat.le_refl _)
        have ny2 := Mix.CL.nx (p := 0) (q := 1) HL2_0.out (Nat.zero_le _)
        have q11 := Mix.CL.at0 HL2_0.out b2
        have q15 := Mix.CL.at0 HL2_0.out b3
        have q17 := Mix.CL.at0 HL2_0.out p1
        have q19 := Mix.CL.at0 HL2_0.out p2
        have q4 := Mix.CL.at1 HL2_0.out HL2_1.out b0 (pw_cell_below ((Below.refl _ _).alloc (Nat.le_refl _) _) b0)
        refine Mix.wp_region_mix (C := Mix.CL L2) [22, 23, 26] (by kernel_rfl) (by kernel_rfl) (by rw [← HW5.out]; exact HL2_0.out) ?_
        iterate 4 (refine Mix.mix_still (by decide) (fun K hK => ?_); go_simp; refine hK _ ?_; clear hK K)
        iterate 1 (refine Mix.mix_in 0 1 (by decide) (by kernel_rfl) (fun K hK => ?_); go_simp; refine hK _ ?_; clear hK K)
        iterate 6 (refine Mix.mix_still (by decide) (fun K hK => ?_); go_simp; refine hK _ ?_; clear hK K)
        iterate 1 (refine Mix.mix_in 0 0 (by decide) (by kernel_rfl) (fun K hK => ?_); go_simp; refine hK _ ?_; clear hK K)
        iterate 3 (refine Mix.mix_still (by decide) (fun K hK => ?_); go_simp; refine hK _ ?_; clear hK K)
        iterate 1 (refine Mix.mix_in 0 0 (by decide) (by kernel_rfl) (fun K hK => ?_); go_simp; refine hK _ ?_; clear hK K)
        iterate 1 (refine Mix.mix_still (by decide) (fun K hK => ?_); go_simp; refine hK _ ?_; clear hK K)
        iterate 1 (refine Mix.mix_in 0 0 (by decide) (by kernel_rfl) (fun K hK => ?_); go_simp; refine hK _ ?_; clear hK K)
        iterate 1 (refine Mix.mix_still (by decide) (fun K hK => ?_); go_simp; refine hK _ ?_; clear hK K)
        iterate 1 (refine Mix.mix_in 0 0 (by decide) (by kernel_rfl) (fun K hK => ?_); go_simp; refine hK _ ?_; clear hK K)
        iterate 2 (refine Mix.mix_still (by decide) (fun K hK => ?_); go_simp; refine hK _ ?_; clear hK K)
        refine Mix.mix_turn (by decide) (fun K hK => ?_)
        go_simp
        refine ⟨.slice (some ⟨W5.heap.size, 0, none⟩) 1 1, fun w_ hw_ => ?_, hK _ ?_⟩
        · have e_ := (Mix.CL.eq HL2_0.out hw_).symm
          subst e_
          go_simp
          exact HL2_1.out
        clear hK K
        refine Mix.mix_append (.tmp 43) (.tmp 61) 24 (by decide) (by rfl) (by rfl) (by rfl) (by rfl) HL2_1.out HL2_2.out HRUN.out ?_
        simp only [Act.put, List.setIfInBounds_toArray, List.set_cons_zero, List.set_cons_succ]
        iterate 2 (refine Mix.mix_still (by decide) (fun K hK => ?_); go_simp; refine hK _ ?_; clear hK K)
        refine Mix.mix_turn (by decide) (fun K hK => ?_)
        go_simp
        refine ⟨⟨undef, fun w_ hw_ => ?_⟩, hK _ ?_⟩
        · have e_ := (Mix.CL.eq HL2_2.out hw_).symm
          subst e_
          have d1_ := d0
          have d2_ := d0f
          have hs_ := HL2_3.out
          clear ne2 nx2 ny2 q11 q15 q17 q19 q4 b0 b2 b3 p1 p2 d0 d0f
          generalize V1 = yw_ at d1_ d2_ hs_ ⊢
          go_simp
          all_goals exact hs_
        clear hK K
        refine Mix.mix_nil ?_
        intro w_ hw_
        have e_ := (Mix.CL.eq HL2_3.out hw_).symm
        subst e_
        clear ne2 nx2 ny2 q11 q15 q17 q19 q4 hw_
        clear e1_ d0 d0f b0 b2 b3 p1 p2
        have HP6 : Hid (FI g w0 w1 room align { t with out := (t.out ++ [(⟨from_ + k, t.many, ⟨(t.w1 ⟨x0, x1, x2, x3, x4, x5⟩), 0, x1, x2⟩⟩ : Pl)]), wide := t.w1 ⟨x0, x1, x2, x3, x4, x5⟩, high := t.high, rough := t.r1 ⟨x0, x1, x2, x3, x4, x5⟩ } (.slice A2 (t.out.length + 1) c2) (V1.setCell ⟨g, 0, none⟩ (.slice A2 (t.out.length + 1) c2))) := Lib.hid ⟨HBG.out.set 0 _, by rw [show ((.slice A2 (t.out.length + 1) c2) : Value) = .slice A2 (t.out ++ [(⟨from_ + k, t.many, ⟨(t.w1 ⟨x0, x1, x2, x3, x4, x5⟩), 0, x1, x2⟩⟩ : Pl)]).length c2 by simp]; exact Kd.R_set (by have h := HR_.out; simp only [List.length_append, List.length_singleton] at h ⊢; exact h) HBG.out (by decide) _ _, HBL.out.setCell HP5.out.ge _, HP5.out.ge, HKG.out.setCell _ _⟩
        have HB6 : Hid (Blk (V1.setCell ⟨g, 0, none⟩ (.slice A2 (t.out.length + 1) c2)) pb #[.int .i64 x0, .int .i64 x1, .int .i64 x2, .int .i64 x3, .string x4, .bool x5] 32) := Lib.hid (HBP.out.setCell_other _ (by simp; omega))
        clear HKG HBG HBP HBL HR_ HRUN HP5 HB5 HP4 HB4 HW5
        generalize V1.setCell ⟨g, 0, none⟩ (.slice A2 (t.out.length + 1) c2) = W6 at HP6 HB6 ⊢
        go_upto_region 6 with (fail)
        have HP7 := Lib.hid HP6.out.drew
        have HB7 := Lib.hid HB6.out.drew
        obtain ⟨W7, hW7⟩ : ∃ W_, W_ = W6.drew := ⟨_, rfl⟩
        rw [← hW7] at HP7 HB7
        have HW7 := Lib.hid hW7
        clear hW7
        have b3 := HP7.out.box.cell 3
        have b8 := HP7.out.box.cell 8
        have f3 := HP7.out.box.free 3
        have f8 := HP7.out.box.free 8
        have p1 := HB7.out.cell 1
        simp only [FB, List.getElem?_toArray, List.getElem?_cons_zero, List.getElem?_cons_succ] at b3 b8 p1
        obtain ⟨L3, hL3⟩ : ∃ L3 : List World, L3 = [W7, W7, (W7.setCell ⟨g, 8, none⟩ (.bool ((t.r1 ⟨x0, x1, x2, x3, x4, x5⟩) || !addB (t.w1 ⟨x0, x1, x2, x3, x4, x5⟩) x1))), (W7.setCell ⟨g, 8, none⟩ (.bool ((t.r1 ⟨x0, x1, x2, x3, x4, x5⟩) || !addB (t.w1 ⟨x0, x1, x2, x3, x4, x5⟩) x1))).setCell ⟨g, 3, none⟩ (.int .i64 (addV (t.w1 ⟨x0, x1, x2, x3, x4, x5⟩) x1))] := ⟨_, rfl⟩
        have HL3_0 : Hid (L3[0]? = some (W7)) := Lib.hid (by rw [hL3]; rfl)
        have HL3_1 : Hid (L3[1]? = some (W7)) := Lib.hid (by rw [hL3]; rfl)
        have HL3_2 : Hid (L3[2]? = some ((W7.setCell ⟨g, 8, none⟩ (.bool ((t.r1 ⟨x0, x1, x2, x3, x4, x5⟩) || !addB (t.w1 ⟨x0, x1, x2, x3, x4, x5⟩) x1))))) := Lib.hid (by rw [hL3]; rfl)
        have HL3_3 : Hid (L3[3]? = some ((W7.setCell ⟨g, 8, none⟩ (.bool ((t.r1 ⟨x0, x1, x2, x3, x4, x5⟩) || !addB (t.w1 ⟨x0, x1, x2, x3, x4, x5⟩) x1))).setCell ⟨g, 3, none⟩ (.int .i64 (addV (t.w1 ⟨x0, x1, x2, x3, x4, x5⟩) x1)))) := Lib.hid (by rw [hL3]; rfl)
        clear hL3
        have ne3 := Mix.CL.ne HL3_0.out
        have nx3 := Mix.CL.nx (p := 0) (q := 0) HL3_0.out (Nat.le_refl _)
        have q3 := Mix.CL.at0 HL3_0.out b3
        have q7 := Mix.CL.at0 HL3_0.out p1
        refine Mix.wp_region_mix (C := Mix.CL L3) [8, 11, 14] (by kernel_rfl) (by kernel_rfl) (by rw [← HW7.out]; exact HL3_0.out) ?_
        iterate 5 (refine Mix.mix_still (by decide) (fun K hK => ?_); go_simp; refine hK _ ?_; clear hK K)
        iterate 1 (refine Mix.mix_in 0 0 (by decide) (by kernel_rfl) (fun K hK => ?_); go_simp; refine hK _ ?_; clear hK K)
        iterate 1 (refine Mix.mix_still (by decide) (fun K hK => ?_); go_simp; refine hK _ ?_; clear hK K)
        iterate 1 (refine Mix.mix_in 0 0 (by decide) (by kernel_rfl) (fun K hK => ?_); go_simp; refine hK _ ?_; clear hK K)
        refine Mix.mix_turn (by decide) (fun K hK => ?_)
        go_simp
        refine ⟨(.tuple #[.int .i64 (addV (t.w1 ⟨x0, x1, x2, x3, x4, x5⟩) x1), .bool (addB (t.w1 ⟨x0, x1, x2, x3, x4, x5⟩) x1)]), fun w_ hw_ => ?_, hK _ ?_⟩
        · have e_ := (Mix.CL.eq HL3_0.out hw_).symm
          subst e_
          exact (add_still (t.w1 ⟨x0, x1, x2, x3, x4, x5⟩) x1 _).mono fun e_ w_ ⟨h1_, h2_⟩ => ⟨h1_, by first | exact h2_ ▸ HL3_1.out | (rw [h2_]; exact HL3_1.out)⟩
        clear hK K
        iterate 2 (refine Mix.mix_still (by decide) (fun K hK => ?_); go_simp; refine hK _ ?_; clear hK K)
        refine Mix.mix_turn (by decide) (fun K hK => ?_)
        go_simp
        refine ⟨(.int .i64 (addV (t.w1 ⟨x0, x1, x2, x3, x4, x5⟩) x1)), fun w_ hw_ => ?_, hK _ ?_⟩
        · have e_ := (Mix.CL.eq HL3_1.out hw_).symm
          subst e_
          exact (of_calls g (addV (t.w1 ⟨x0, x1, x2, x3, x4, x5⟩) x1) (addB (t.w1 ⟨x0, x1, x2, x3, x4, x5⟩) x1) (t.r1 ⟨x0, x1, x2, x3, x4, x5⟩) _ b8 f8).mono fun e_ w_ ⟨h1_, h2_⟩ => ⟨h1_, by first | exact h2_ ▸ HL3_2.out | (rw [h2_]; exact HL3_2.out)⟩
        clear hK K
        iterate 2 (refine Mix.mix_still (by decide) (fun K hK => ?_); go_simp; refine hK _ ?_; clear hK K)
        refine Mix.mix_turn (by decide) (fun K hK => ?_)
        go_simp
        refine ⟨⟨undef, fun w_ hw_ => ?_⟩, hK _ ?_⟩
        · have e_ := (Mix.CL.eq HL3_2.out hw_).symm
          subst e_
          have d1_ := (show (W7.setCell ⟨g, 8, none⟩ (.bool ((t.r1 ⟨x0, x1, x2, x3, x4, x5⟩) || !addB (t.w1 ⟨x0, x1, x2, x3, x4, x5⟩) x1))).cell? ⟨g, 3, none⟩ = some (.int .i64 (t.w1 ⟨x0, x1, x2, x3, x4, x5⟩)) by rw [World.cell?_setCell_other _ _ _ _ (by simp)]; exact b3)
          have d2_ := (show (W7.setCell ⟨g, 8, none⟩ (.bool ((t.r1 ⟨x0, x1, x2, x3, x4, x5⟩) || !addB (t.w1 ⟨x0, x1, x2, x3, x4, x5⟩) x1))).frozen? ⟨g, 3, none⟩ = false by rw [World.frozen?_setCell]; exact f3)
          have hs_ := HL3_3.out
          clear ne3 nx3 q3 q7 b3 b8 f3 f8 p1
          generalize (W7.setCell ⟨g, 8, none⟩ (.bool ((t.r1 ⟨x0, x1, x2, x3, x4, x5⟩) || !addB (t.w1 ⟨x0, x1, x2, x3, x4, x5⟩) x1))) = yw_ at d1_ d2_ hs_ ⊢
          go_simp
          all_goals exact hs_
        clear hK K
        refine Mix.mix_nil ?_
        intro w_ hw_
        have e_ := (Mix.CL.eq HL3_3.out hw_).symm
        subst e_
        clear ne3 nx3 q3 q7 hw_
        clear b3 b8 f3 f8 p1
        have HP8 : Hid (FI g w0 w1 room align { t with out := (t.out ++ [(⟨from_ + k, t.many, ⟨(t.w1 ⟨x0, x1, x2, x3, x4, x5⟩), 0, x1, x2⟩⟩ : Pl)]), wide := (addV (t.w1 ⟨x0, x1, x2, x3, x4, x5⟩) x1), high := t.high, rough := ((t.r1 ⟨x0, x1, x2, x3, x4, x5⟩) || !addB (t.w1 ⟨x0, x1, x2, x3, x4, x5⟩) x1) } (.slice A2 (t.out.length + 1) c2) _) := Lib.hid ((HP7.out.turn (s' := { t with out := (t.out ++ [(⟨from_ + k, t.many, ⟨(t.w1 ⟨x0, x1, x2, x3, x4, x5⟩), 0, x1, x2⟩⟩ : Pl)]), wide := (t.w1 ⟨x0, x1, x2, x3, x4, x5⟩), high := t.high, rough := ((t.r1 ⟨x0, x1, x2, x3, x4, x5⟩) || !addB (t.w1 ⟨x0, x1, x2, x3, x4, x5⟩) x1) }) 8 _ rfl rfl).turn (s' := { t with out := (t.out ++ [(⟨from_ + k, t.many, ⟨(t.w1 ⟨x0, x1, x2, x3, x4, x5⟩), 0, x1, x2⟩⟩ : Pl)]), wide := (addV (t.w1 ⟨x0, x1, x2, x3, x4, x5⟩) x1), high := t.high, rough := ((t.r1 ⟨x0, x1, x2, x3, x4, x5⟩) || !addB (t.w1 ⟨x0, x1, x2, x3, x4, x5⟩) x1) }) 3 _ rfl rfl)
        have HB8 : Hid (Blk _ pb _ _) := Lib.hid ((HB7.out.setCell_other (a := ⟨g, 8, none⟩) (.bool ((t.r1 ⟨x0, x1, x2, x3, x4, x5⟩) || !addB (t.w1 ⟨x0, x1, x2, x3, x4, x5⟩) x1)) (by simp; omega)).setCell_other (a := ⟨g, 3, none⟩) (.int .i64 (addV (t.w1 ⟨x0, x1, x2, x3, x4, x5⟩) x1)) (by simp; omega))
        clear HP6 HB6 HP7 HB7 HW7
        generalize (W7.setCell ⟨g, 8, none⟩ (.bool ((t.r1 ⟨x0, x1, x2, x3, x4, x5⟩) || !addB (t.w1 ⟨x0, x1, x2, x3, x4, x5⟩) x1))).setCell ⟨g, 3, none⟩ (.int .i64 (addV (t.w1 ⟨x0, x1, x2, x3, x4, x5⟩) x1)) = W8 at HP8 HB8 ⊢
        go_upto_region 7 with (fail)
        have HP9 := Lib.hid HP8.out.drew
        have HB9 := Lib.hid HB8.out.drew
        obtain ⟨W9, hW9⟩ : ∃ W_, W_ = W8.drew := ⟨_, rfl⟩
        rw [← hW9] at HP9 HB9
        have HW9 := Lib.hid hW9
        clear hW9
        have b4 := HP9.out.box.cell 4
        have f4 := HP9.out.box.free 4
        have p2 := HB9.out.cell 2
        simp only [FB, List.getElem?_toArray, List.getElem?_cons_zero, List.getElem?_cons_succ] at b4 p2
        obtain ⟨L4, hL4⟩ : ∃ L4 : List World, L4 = [W9, W9.setCell ⟨g, 4, none⟩ (.int .i64 (mxI t.high x2))] := ⟨_, rfl⟩
        have HL4_0 : Hid (L4[0]? = some (W9)) := Lib.hid (by rw [hL4]; rfl)
        have HL4_1 : Hid (L4[1]? = some (W9.setCell ⟨g, 4, none⟩ (.int .i64 (mxI t.high x2)))) := Lib.hid (by rw [hL4]; rfl)
        clear hL4
        have ne4 := Mix.CL.ne HL4_0.out
        have nx4 := Mix.CL.nx (p := 0) (q := 0) HL4_0.out (Nat.le_refl _)
        have q4 := Mix.CL.at0 HL4_0.out b4
        have q6 := Mix.CL.at0 HL4_0.out p2
        refine Mix.wp_region_mix (C := Mix.CL L4) [10] (by kernel_rfl) (by kernel_rfl) (by rw [← HW9.out]; exact HL4_0.out) ?_
        iterate 4 (refine Mix.mix_still (by decide) (fun K hK => ?_); go_simp; refine hK _ ?_; clear hK K)
        iterate 1 (refine Mix.mix_in 0 0 (by decide) (by kernel_rfl) (fun K hK => ?_); go_simp; refine hK _ ?_; clear hK K)
        iterate 1 (refine Mix.mix_still (by decide) (fun K hK => ?_); go_simp; refine hK _ ?_; clear hK K)
        iterate 1 (refine Mix.mix_in 0 0 (by decide) (by kernel_rfl) (fun K hK => ?_); go_simp; refine hK _ ?_; clear hK K)
        iterate 3 (refine Mix.mix_still (by decide) (fun K hK => ?_); go_simp; refine hK _ ?_; clear hK K)
        refine Mix.mix_turn (by decide) (fun K hK => ?_)
        go_simp
        refine ⟨⟨undef, fun w_ hw_ => ?_⟩, hK _ ?_⟩
        · have e_ := (Mix.CL.eq HL4_0.out hw_).symm
          subst e_
          have d1_ := b4
          have d2_ := f4
          have hs_ := HL4_1.out
          clear ne4 nx4 q4 q6 b4 f4 p2
          generalize W9 = yw_ at d1_ d2_ hs_ ⊢
          go_simp
          all_goals exact hs_
        clear hK K
        refine Mix.mix_nil ?_
        intro w_ hw_
        have e_ := (Mix.CL.eq HL4_1.out hw_).symm
        subst e_
        clear ne4 nx4 q4 q6 hw_
        clear b4 f4 p2
        have HP10 : Hid (FI g w0 w1 room align (t.one (from_ + k) ⟨x0, x1, x2, x3, x4, x5⟩) (.slice A2 (t.out.length + 1) c2) (W9.setCell ⟨g, 4, none⟩ (.int .i64 (mxI t.high x2)))) := Lib.hid (HP9.out.turn (s' := t.one (from_ + k) ⟨x0, x1, x2, x3, x4, x5⟩) 4 _ rfl rfl)
        clear HP8 HB8 HP9 HB9 HW9
        generalize W9.setCell ⟨g, 4, none⟩ (.int .i64 (mxI t.high x2)) = W10 at HP10 ⊢
        go_wp2_with fail
        go_roundw
        case rel =>
          exact ⟨k + 1, _, by omega, by go_num, Lib.hid (by rw [hS.out]; exact HP10.out)⟩
        case measure => simp [intOf]; omega
    · have hkl : Hid (r.take k = r) := Lib.hid (by rw [List.take_of_length_le (by omega)])
      go_wp2_with fail
      go_end0
      exact ⟨rfl, v', by rw [← hkl.out]; exact P.out⟩
end Go.Proofs.Ythkipbnigokcfaa.Q
