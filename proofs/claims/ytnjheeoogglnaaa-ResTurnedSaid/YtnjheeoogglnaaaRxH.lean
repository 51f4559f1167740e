/- Written by a program of this session (wip/xprint.py): plain Lean functions, and that the Go functions compute them. -/
import Derived.Test.YtnjheeoogglnaaaRx0
import Derived.Test.YtnjheeoogglnaaaRx5
import Derived.Test.YtnjheeoogglnaaaRx6
import Derived.Test.YtnjheeoogglnaaaRx8
import Derived.Test.YtnjheeoogglnaaaRsF
import Derived.Test.YtnjheeoogglnaaaRsP
import Derived.Test.YtnjheeoogglnaaaRsO
import Derived.Test.YtnjheeoogglnaaaRsA
import Derived.Test.YtnjheeoogglnaaaRsM
namespace Go.Proofs.Ytnjheeoogglnaaa.R
open Go.RowKit Go.Proofs.YtnjheeoogglnaaaW.PrintWords Go.Proofs.YtnjheeoogglnaaaW.PrintLast Go.Proofs.YtnjheeoogglnaaaW.PrintMore
attribute [local go_sem] max2_int min2_int max_two min_two max_three min_three max_four min_four   -- for this text's walks alone
set_option linter.unusedVariables false
set_option linter.unusedSimpArgs false

/-! ### scrimlaw13_ResHides: function 4 -/
mutual
def scrimlaw13_ResHides.j0 : Nat → ByteArray → Bool → List (S47) → Int → Bool → List (S47) → Int → Bool → Option (Bool)
  | 0, _, _, _, _, _, _, _, _ => none
  | k + 1, x2, x28, x208000, x208001, x208002, x209000, x209001, x209002 => if x28 = true then (some true) else ((res_Public.f x208000 x208001 x208002).bind fun bt210 => ((res_Size.f x208000 x208001 x208002 x2).bind fun bt216 => ((res_Size.f bt210.1 bt210.2.1 bt210.2.2 x2).bind fun bt219 => ((res_Alike.f k x208000 x208001 x208002 bt210.1 bt210.2.1 bt210.2.2).bind fun t222 => (if t222 = true then ((res_Public.f bt210.1 bt210.2.1 bt210.2.2).bind fun bt223 => ((scrimlaw13_own.f k bt223.1 bt223.2.1 bt223.2.2).bind fun bt228 => ((scrimlaw13_own.f k bt210.1 bt210.2.1 bt210.2.2).bind fun bt233 => ((scrimref13_Same.f k bt228.1 bt228.2.1 bt228.2.2 bt233.1 bt233.2.1 bt233.2.2).bind fun t238 => (if t238 = true then (if bt216.1 = bt219.1 then (if bt216.2.1 = bt219.2.1 then (if (bt216.2.2 != bt219.2.2) = true then (scrimlaw13_ResHides.j1 k x2 bt216.1 bt216.2.1 bt216.2.2 true x208000 x208001 x208002 x209000 x209001 x209002) else ((res_Advance.f x208000 x208001 x208002).bind fun t239 => ((res_Advance.f bt210.1 bt210.2.1 bt210.2.2).bind fun t240 => (scrimlaw13_ResHides.j1 k x2 bt216.1 bt216.2.1 bt216.2.2 (t239 != t240) x208000 x208001 x208002 x209000 x209001 x209002)))) else (scrimlaw13_ResHides.j1 k x2 bt216.1 bt216.2.1 bt216.2.2 true x208000 x208001 x208002 x209000 x209001 x209002)) else (scrimlaw13_ResHides.j1 k x2 bt216.1 bt216.2.1 bt216.2.2 true x208000 x208001 x208002 x209000 x209001 x209002)) else (scrimlaw13_ResHides.j1 k x2 bt216.1 bt216.2.1 bt216.2.2 true x208000 x208001 x208002 x209000 x209001 x209002)))))) else (scrimlaw13_ResHides.j1 k x2 bt216.1 bt216.2.1 bt216.2.2 true x208000 x208001 x208002 x209000 x209001 x209002))))))
def scrimlaw13_ResHides.j1 : Nat → ByteArray → Int → Int → Bool → Bool → List (S47) → Int → Bool → List (S47) → Int → Bool → Option (Bool)
  | 0, _, _, _, _, _, _, _, _, _, _, _ => none
  | k + 1, x2, x8, x9, x10, x79, x208000, x208001, x208002, x209000, x209001, x209002 => if x79 = true then (some false) else ((res_Alike.f k x208000 x208001 x208002 x209000 x209001 x209002).bind fun t241 => (if t241 = true then ((res_Size.f x209000 x209001 x209002 x2).bind fun bt243 => (if x8 = bt243.1 then (if x9 = bt243.2.1 then (if (x10 == bt243.2.2) = true then ((res_Advance.f x208000 x208001 x208002).bind fun t246 => ((res_Advance.f x209000 x209001 x209002).bind fun t247 => (if t246 = t247 then ((res_Alike.f k x209000 x209001 x209002 x208000 x208001 x208002).bind fun t248 => (some t248)) else (some false)))) else (some false)) else (some false)) else (some false))) else ((res_Alike.f k x209000 x209001 x209002 x208000 x208001 x208002).bind fun t242 => (some (!t242)))))
end
def scrimlaw13_ResHides.f (k : Nat) (l0_0 : List (S47)) (a0_1 : Int) (a0_2 : Bool) (l1_0 : List (S47)) (a1_1 : Int) (a1_2 : Bool) (a2 : ByteArray) : Option (Bool) := (scrimlaw13_awake.f).bind fun t209 => (if t209 = true then (if (l0_0.length : Int) > 100 then (scrimlaw13_ResHides.j0 k a2 true l0_0 a0_1 a0_2 l1_0 a1_1 a1_2) else (scrimlaw13_ResHides.j0 k a2 (decide ((l1_0.length : Int) > 100)) l0_0 a0_1 a0_2 l1_0 a1_1 a1_2)) else (some false))
theorem scrimlaw13_ResHides.mono_l : ∀ k, (∀ y0 y1 y2 y3 y4 y5 y6 y7, LeO (scrimlaw13_ResHides.j0 k y0 y1 y2 y3 y4 y5 y6 y7) (scrimlaw13_ResHides.j0 (k + 1) y0 y1 y2 y3 y4 y5 y6 y7)) ∧ (∀ y0 y1 y2 y3 y4 y5 y6 y7 y8 y9 y10, LeO (scrimlaw13_ResHides.j1 k y0 y1 y2 y3 y4 y5 y6 y7 y8 y9 y10) (scrimlaw13_ResHides.j1 (k + 1) y0 y1 y2 y3 y4 y5 y6 y7 y8 y9 y10))
  | 0 => ⟨fun _ _ _ _ _ _ _ _ r h => by simp [scrimlaw13_ResHides.j0] at h, fun _ _ _ _ _ _ _ _ _ _ _ r h => by simp [scrimlaw13_ResHides.j1] at h⟩
  | k + 1 => by
    obtain ⟨ih0, ih1⟩ := scrimlaw13_ResHides.mono_l k
    refine ⟨?_, ?_⟩
    · intro y0 y1 y2 y3 y4 y5 y6 y7
      unfold scrimlaw13_ResHides.j0
      repeat' first
      | (with_reducible exact ih0 _ _ _ _ _ _ _ _)
      | (with_reducible exact ih1 _ _ _ _ _ _ _ _ _ _ _)
      | (with_reducible exact res_Alike.mono _ _ _ _ _ _ _)
      | (with_reducible exact scrimlaw13_own.mono _ _ _ _)
      | (with_reducible exact scrimref13_Same.mono _ _ _ _ _ _ _)
      | (with_reducible exact LeO.refl _)
      | (with_reducible exact LeO.none _)
      | (with_reducible refine LeO.ite ?_ ?_)
      | (with_reducible refine LeO.bind ?_ (fun _ => ?_))
      | exact ih0 _ _ _ _ _ _ _ _
      | exact ih1 _ _ _ _ _ _ _ _ _ _ _
      | exact res_Alike.mono _ _ _ _ _ _ _
      | exact scrimlaw13_own.mono _ _ _ _
      | exact scrimref13_Same.mono _ _ _ _ _ _ _
      | exact LeO.none _
      | refine LeO.ite ?_ ?_
      | refine LeO.bind ?_ (fun _ => ?_)
    · intro y0 y1 y2 y3 y4 y5 y6 y7 y8 y9 y10
      unfold scrimlaw13_ResHides.j1
      repeat' first
      | (with_reducible exact ih0 _ _ _ _ _ _ _ _)
      | (with_reducible exact ih1 _ _ _ _ _ _ _ _ _ _ _)
      | (with_reducible exact res_Alike.mono _ _ _ _ _ _ _)
      | (with_reducible exact scrimlaw13_own.mono _ _ _ _)
      | (with_reducible exact scrimref13_Same.mono _ _ _ _ _ _ _)
      | (with_reducible exact LeO.refl _)
      | (with_reducible exact LeO.none _)
      | (with_reducible refine LeO.ite ?_ ?_)
      | (with_reducible refine LeO.bind ?_ (fun _ => ?_))
      | exact ih0 _ _ _ _ _ _ _ _
      | exact ih1 _ _ _ _ _ _ _ _ _ _ _
      | exact res_Alike.mono _ _ _ _ _ _ _
      | exact scrimlaw13_own.mono _ _ _ _
      | exact scrimref13_Same.mono _ _ _ _ _ _ _
      | exact LeO.none _
      | refine LeO.ite ?_ ?_
      | refine LeO.bind ?_ (fun _ => ?_)
theorem scrimlaw13_ResHides.mono : ∀ a0 a1 a2 a3 a4 a5 a6 k, LeO (scrimlaw13_ResHides.f k a0 a1 a2 a3 a4 a5 a6) (scrimlaw13_ResHides.f (k + 1) a0 a1 a2 a3 a4 a5 a6) := by
  intro a0 a1 a2 a3 a4 a5 a6 k
  obtain ⟨ih0, ih1⟩ := scrimlaw13_ResHides.mono_l k
  unfold scrimlaw13_ResHides.f
  repeat' first
      | (with_reducible exact ih0 _ _ _ _ _ _ _ _)
      | (with_reducible exact ih1 _ _ _ _ _ _ _ _ _ _ _)
      | (with_reducible exact res_Alike.mono _ _ _ _ _ _ _)
      | (with_reducible exact scrimlaw13_own.mono _ _ _ _)
      | (with_reducible exact scrimref13_Same.mono _ _ _ _ _ _ _)
      | (with_reducible exact LeO.refl _)
      | (with_reducible exact LeO.none _)
      | (with_reducible refine LeO.ite ?_ ?_)
      | (with_reducible refine LeO.bind ?_ (fun _ => ?_))
      | exact ih0 _ _ _ _ _ _ _ _
      | exact ih1 _ _ _ _ _ _ _ _ _ _ _
      | exact res_Alike.mono _ _ _ _ _ _ _
      | exact scrimlaw13_own.mono _ _ _ _
      | exact scrimref13_Same.mono _ _ _ _ _ _ _
      | exact LeO.none _
      | refine LeO.ite ?_ ?_
      | refine LeO.bind ?_ (fun _ => ?_)
def scrimlaw13_ResHides.T8 : Bool × List (List Nat × List Nat) := (true, [([], []), ([], []), ([0, 1], [0, 1]), ([2], [2]), ([3, 2], [3]), ([4], [4]), ([5, 4, 4], [4, 5]), ([6, 6, 4], [4, 6]), ([4], [4]), ([8, 7, 4], [4, 8]), ([7, 9, 9, 4], [4, 7, 9]), ([10, 4], [4, 10]), ([4, 11], [4, 11]), ([12, 10], [12]), ([13], [13]), ([13], [13]), ([14, 15, 13], [13, 14, 15]), ([13, 16], [13, 16]), ([17, 13], [17]), ([18], [18]), ([18], [18]), ([19, 20, 18], [18, 19, 20]), ([18, 21], [18, 21]), ([22, 18], [22]), ([23], [23]), ([23], [23]), ([24, 25, 23], [23, 24, 25]), ([23, 26], [23, 26]), ([27, 23], [27]), ([28], [28]), ([29, 28, 28], [28, 29]), ([28], [28]), ([31, 30, 28], [28, 31]), ([30, 32, 28], [28, 30, 32]), ([28, 33], [28, 33])])
def scrimlaw13_ResHides.B8 : List Nat := [0, 0, 3, 7, 15, 31, 63, 127, 31, 511, 1023, 2047, 4095, 8191, 16383, 16383, 65535, 131071, 262143, 524287, 524287, 2097151, 4194303, 8388607, 16777215, 16777215, 67108863, 134217727, 268435455, 536870911, 1073741823, 536870911, 4294967295, 8589934591, 17179869183]
theorem scrimlaw13_ResHides.tab8 : rtab .any (opsOf Try.f4 8) = scrimlaw13_ResHides.T8 := by kernel_rfl
theorem scrimlaw13_ResHides.bits8 : waitsOk scrimlaw13_ResHides.T8.2 scrimlaw13_ResHides.B8 = true := by kernel_rfl
def scrimlaw13_ResHides.T13 : Bool × List (List Nat × List Nat) := (true, [([], []), ([], []), ([0, 1], [0, 1]), ([2], [2]), ([3], [3]), ([3], [3]), ([4, 5, 3], [3, 4, 5]), ([3, 6], [3, 6]), ([7, 3], [7]), ([8], [8]), ([8], [8]), ([9, 10, 8], [8, 9, 10]), ([8, 11], [8, 11]), ([12, 8], [12]), ([13], [13]), ([14, 13, 13], [13, 14]), ([13], [13]), ([16, 15, 13], [13, 16]), ([15, 17, 13], [13, 15, 17]), ([13, 18], [13, 18]), ([19, 17], [19]), ([20], [20]), ([20], [20]), ([21, 22, 20, 20], [20, 21, 22]), ([20, 23], [20, 23]), ([24, 23, 0, 1, 2, 3, 4, 5, 6, 7, 8, 9, 10, 11, 12, 13, 14, 15, 16, 17, 18, 19, 20, 21, 22, 23, 24], [24])])
def scrimlaw13_ResHides.B13 : List Nat := [0, 0, 3, 7, 15, 15, 63, 127, 255, 511, 511, 2047, 4095, 8191, 16383, 32767, 16383, 131071, 262143, 524287, 1048575, 2097151, 2097151, 8388607, 16777215, 33554431]
theorem scrimlaw13_ResHides.tab13 : rtab .any (opsOf Try.f4 13) = scrimlaw13_ResHides.T13 := by kernel_rfl
theorem scrimlaw13_ResHides.bits13 : waitsOk scrimlaw13_ResHides.T13.2 scrimlaw13_ResHides.B13 = true := by kernel_rfl
set_option maxHeartbeats 8000000 in
set_option maxRecDepth 100000 in
theorem scrimlaw13_ResHides.calls (k : Nat) (A0_0 : Option Addr) (c0_0 : Nat) (l0_0 : List (S47)) (a0_1 : Int) (a0_2 : Bool) (A1_0 : Option Addr) (c1_0 : Nat) (l1_0 : List (S47)) (a1_1 : Int) (a1_2 : Bool) (a2 : ByteArray) (r : Bool) (w : World) (hr0_0 : Kd.C k47 w A0_0 l0_0.length l0_0) (hc0_0 : l0_0.length ≤ c0_0) (hr1_0 : Kd.C k47 w A1_0 l1_0.length l1_0) (hc1_0 : l1_0.length ≤ c1_0) (h : scrimlaw13_ResHides.f k l0_0 a0_1 a0_2 l1_0 a1_1 a1_2 a2 = some r) :
    Calls Try.prog 4 #[.agg #[.slice A0_0 l0_0.length c0_0, .int .i64 a0_1, .bool a0_2], .agg #[.slice A1_0 l1_0.length c1_0, .int .i64 a1_1, .bool a1_2], .string a2] w fun e w' => e = .returned (.bool r) ∧ Below w.heap.size w w' := by
  have hu26 := Try.underlying26
  have HR0_0 := Aside0.mk hr0_0
  have HC0_0 := Aside0.mk hc0_0
  clear hr0_0 hc0_0
  have HR1_0 := Aside0.mk hr1_0
  have HC1_0 := Aside0.mk hc1_0
  clear hr1_0 hc1_0
  have HB := Aside0.mk (Below.refl w.heap.size w)
  have H : ((scrimlaw13_awake.f).bind fun t209 => (if t209 = true then (if (l0_0.length : Int) > 100 then (scrimlaw13_ResHides.j0 k a2 true l0_0 a0_1 a0_2 l1_0 a1_1 a1_2) else (scrimlaw13_ResHides.j0 k a2 (decide ((l1_0.length : Int) > 100)) l0_0 a0_1 a0_2 l1_0 a1_1 a1_2)) else (some false))) = some r := h
  clear h
  replace H := Option.bind_eq_some_iff.mp H
  obtain ⟨t209, A40, H⟩ := H
  replace H : (if t209 = true then (if (l0_0.length : Int) > 100 then (scrimlaw13_ResHides.j0 k a2 true l0_0 a0_1 a0_2 l1_0 a1_1 a1_2) else (scrimlaw13_ResHides.j0 k a2 (decide ((l1_0.length : Int) > 100)) l0_0 a0_1 a0_2 l1_0 a1_1 a1_2)) else (some false)) = some r := H
  have A4 := Aside0.mk A40
  clear A40
  by_cases c5 : t209 = true
  · subst c5
    have H1 : (if (l0_0.length : Int) > 100 then (scrimlaw13_ResHides.j0 k a2 true l0_0 a0_1 a0_2 l1_0 a1_1 a1_2) else (scrimlaw13_ResHides.j0 k a2 (decide ((l1_0.length : Int) > 100)) l0_0 a0_1 a0_2 l1_0 a1_1 a1_2)) = some r := by rw [if_pos rfl] at H; exact H
    clear H
    have H := H1
    clear H1
    have HC6 := Aside0.mk H
    clear H
    go_enter Try.func4, Try.ntmps4
    go_upto_region 3 with (first | ((with_reducible refine gate_dst (N := 3) rfl ?_); (try (refine gate_guard (by rfl) ?_; dsimp only)); refine box_event ?hg (N := 3) ?hd (cs := #[.slice A0_0 l0_0.length c0_0, .int .i64 a0_1, .bool a0_2]) (t := 26) ?hr ?_; (case hd => rfl); (case hg => rfl); (case hr => first | (go_simp; done) | (go_simp; rfl)); intro gb207 hg w7 hbox hb; have n0_ := Aside0.mk (below_step (by repeat (first | (with_reducible first | exact HB.out | apply below_alloc | apply pw_below_drewN | apply below_drew1) | exact HB.out)) hb); have n1_ := Aside0.mk (hbox); have n2_ := Aside0.mk ((by rw [hg]; exact (below_size (by repeat (first | (with_reducible first | exact HB.out | apply below_alloc | apply pw_below_drewN | apply below_drew1) | exact HB.out))) : w.heap.size ≤ gb207)); have n3_ := Aside0.mk ((by rw [hg]; exact (below_size (by repeat (first | (with_reducible first | exact HB.out | apply below_alloc | apply pw_below_drewN | apply below_drew1) | exact HB.out))) : w.heap.size ≤ gb207)); clear HB; have HB := n0_; have BK207 := n1_; have GW207 := n2_; have GE207 := n3_; clear n0_ n1_ n2_ n3_; clear hb hbox hg) | ((with_reducible refine gate_dst (N := 4) rfl ?_); (try (refine gate_guard (by rfl) ?_; dsimp only)); refine box_event ?hg (N := 4) ?hd (cs := #[.slice A1_0 l1_0.length c1_0, .int .i64 a1_1, .bool a1_2]) (t := 26) ?hr ?_; (case hd => rfl); (case hg => rfl); (case hr => first | (go_simp; done) | (go_simp; rfl)); intro gb208 hg w8 hbox hb; have n0_ := Aside0.mk (blk_below (g := gb207) (o := .cells #[.slice A0_0 l0_0.length c0_0, .int .i64 a0_1, .bool a0_2] 26 (0, 0)) (by (with_reducible repeat (first | refine blk_drewN ?_ _ | refine blk_drew ?_ | refine blk_alloc ?_ _)); exact BK207.out) hb); have n1_ := Aside0.mk (below_step (by repeat (first | (with_reducible first | exact HB.out | apply below_alloc | apply pw_below_drewN | apply below_drew1 | refine below_set ?_ GE207.out) | exact HB.out)) hb); have n2_ := Aside0.mk (hbox); have n3_ := Aside0.mk ((by rw [hg]; exact (below_size (by repeat (first | (with_reducible first | exact HB.out | apply below_alloc | apply pw_below_drewN | apply below_drew1 | refine below_set ?_ GE207.out) | exact HB.out))) : w.heap.size ≤ gb208)); have n4_ := Aside0.mk ((by rw [hg]; exact (below_size (by repeat (first | (with_reducible first | exact HB.out | apply below_alloc | apply pw_below_drewN | apply below_drew1 | refine below_set ?_ GE207.out) | exact HB.out))) : w.heap.size ≤ gb208)); have n5_ := Aside0.mk ((by rw [hg]; exact Nat.ne_of_lt (blk_lt (g := gb207) (o := .cells #[.slice A0_0 l0_0.length c0_0, .int .i64 a0_1, .bool a0_2] 26 (0, 0)) (by (with_reducible repeat (first | refine blk_drewN ?_ _ | refine blk_drew ?_ | refine blk_alloc ?_ _)); exact BK207.out)) : gb207 ≠ gb208)); have n6_ := Aside0.mk ((by rw [hg]; exact Nat.ne_of_gt (blk_lt (g := gb207) (o := .cells #[.slice A0_0 l0_0.length c0_0, .int .i64 a0_1, .bool a0_2] 26 (0, 0)) (by (with_reducible repeat (first | refine blk_drewN ?_ _ | refine blk_drew ?_ | refine blk_alloc ?_ _)); exact BK207.out)) : gb208 ≠ gb207)); clear BK207; clear HB; have BK207 := n0_; have HB := n1_; have BK208 := n2_; have GW208 := n3_; have GE208 := n4_; have NB207_208 := n5_; have NB208_207 := n6_; clear n0_ n1_ n2_ n3_ n4_ n5_ n6_; clear hb hbox hg) | ((with_reducible refine gate_callee (f := 11) rfl ?_); refine goesL_ (some 17) rfl rfl Try.func11 (by kernel_rfl) rfl #[] rfl (by (try simp only [List.map_toArray, List.map_cons, List.map_nil]); first | done | rfl | (simp only [List.length_drop, List.length_take]; rfl)) ?_; (with_reducible refine (scrimlaw13_awake.calls  true _ A4.out).mono ?_); rintro e w9 ⟨rfl, hb⟩; refine ⟨_, rfl, ?_⟩; have n0_ := Aside0.mk (blk_below (g := gb207) (o := .cells #[.slice A0_0 l0_0.length c0_0, .int .i64 a0_1, .bool a0_2] 26 (0, 0)) (by (with_reducible repeat (first | refine blk_drewN ?_ _ | refine blk_drew ?_ | refine blk_alloc ?_ _)); exact BK207.out) hb); have n1_ := Aside0.mk (blk_below (g := gb208) (o := .cells #[.slice A1_0 l1_0.length c1_0, .int .i64 a1_1, .bool a1_2] 26 (0, 0)) (by (with_reducible repeat (first | refine blk_drewN ?_ _ | refine blk_drew ?_ | refine blk_alloc ?_ _)); exact BK208.out) hb); have n2_ := Aside0.mk (below_step (by repeat (first | (with_reducible first | exact HB.out | apply below_alloc | apply pw_below_drewN | apply below_drew1 | refine below_set ?_ GE207.out | refine below_set ?_ GE208.out) | exact HB.out)) hb); clear BK207; clear BK208; clear HB; have BK207 := n0_; have BK208 := n1_; have HB := n2_; clear n0_ n1_ n2_; (try clear hb); (try clear hb2); (try clear hk); (try clear hi)))
    (try simp only [Act.put, List.setIfInBounds_toArray, List.set_cons_zero, List.set_cons_succ])
    go_cut [28] (fun v28 wc => ∃ (kq : Nat) (x28_5 : Bool), v28 = .bool x28_5 ∧ Aside0 (scrimlaw13_ResHides.j0 kq a2 x28_5 l0_0 a0_1 a0_2 l1_0 a1_1 a1_2 = some r) ∧ Aside0 (kq ≤ k) ∧ Aside0 (wc.heap[gb207]? = some (.cells #[(.slice A0_0 l0_0.length c0_0), .int .i64 a0_1, .bool a0_2] 26 (0, 0))) ∧ Aside0 (wc.heap[gb208]? = some (.cells #[(.slice A1_0 l1_0.length c1_0), .int .i64 a1_1, .bool a1_2] 26 (0, 0))) ∧ Aside0 (Below w.heap.size w wc))
    case first =>
      have H := HC6.out
      clear HC6
      by_cases c10 : (l0_0.length : Int) > 100
      · rw [if_pos c10] at H
        have c10b0 : decide (100 < (l0_0.length : Int)) = true := decide_eq_true c10
        have c10b1 : decide (100 < l0_0.length) = true := decide_eq_true (by omega)
        clear c10
        (first | rw [c10b0] | (simp only [i64_w, i32_w]; rw [c10b0]) | skip)
        have H' := Aside0.mk H
        clear H
        have hnb11 := NB207_208.out
        have hnc11 := NB208_207.out
        have hcz12_0 : w9.cell? ⟨gb207, 0, none⟩ = some (.slice A0_0 l0_0.length c0_0) := (blk_cell BK207.out 0).trans rfl
        have hcz12_1 : w9.cell? ⟨gb207, 1, none⟩ = some (.int .i64 a0_1) := (blk_cell BK207.out 1).trans rfl
        have hcz12_2 : w9.cell? ⟨gb207, 2, none⟩ = some (.bool a0_2) := (blk_cell BK207.out 2).trans rfl
        have hfz12_0 := blk_frozen BK207.out 0
        have hfz12_1 := blk_frozen BK207.out 1
        have hfz12_2 := blk_frozen BK207.out 2
        go_wp2
        go_meet
        case rel => exact ⟨_, (true), (by first | rfl | (simp; done) | (simp [*]; done)), H', ⟨by first | omega | exact Nat.le_refl _⟩, ⟨by (with_reducible repeat (first | refine blk_drewN ?_ _ | refine blk_drew ?_ | refine blk_alloc ?_ _)); exact BK207.out⟩, ⟨by (with_reducible repeat (first | refine blk_drewN ?_ _ | refine blk_drew ?_ | refine blk_alloc ?_ _)); exact BK208.out⟩, ⟨by repeat (first | (with_reducible first | exact HB.out | apply below_alloc | apply pw_below_drewN | apply below_drew1 | refine below_set ?_ GE207.out | refine below_set ?_ GE208.out) | exact HB.out)⟩⟩
      · rw [if_neg c10] at H
        have c10b0 : decide (100 < (l0_0.length : Int)) = false := decide_eq_false c10
        have c10b1 : decide (100 < l0_0.length) = false := decide_eq_false (by omega)
        clear c10
        (first | rw [c10b0] | (simp only [i64_w, i32_w]; rw [c10b0]) | skip)
        have H' := Aside0.mk H
        clear H
        have hnb13 := NB207_208.out
        have hnc13 := NB208_207.out
        have hcz14_0 : w9.cell? ⟨gb207, 0, none⟩ = some (.slice A0_0 l0_0.length c0_0) := (blk_cell BK207.out 0).trans rfl
        have hcz14_1 : w9.cell? ⟨gb207, 1, none⟩ = some (.int .i64 a0_1) := (blk_cell BK207.out 1).trans rfl
        have hcz14_2 : w9.cell? ⟨gb207, 2, none⟩ = some (.bool a0_2) := (blk_cell BK207.out 2).trans rfl
        have hfz14_0 := blk_frozen BK207.out 0
        have hfz14_1 := blk_frozen BK207.out 1
        have hfz14_2 := blk_frozen BK207.out 2
        have hcz15_0 : w9.cell? ⟨gb208, 0, none⟩ = some (.slice A1_0 l1_0.length c1_0) := (blk_cell BK208.out 0).trans rfl
        have hcz15_1 : w9.cell? ⟨gb208, 1, none⟩ = some (.int .i64 a1_1) := (blk_cell BK208.out 1).trans rfl
        have hcz15_2 : w9.cell? ⟨gb208, 2, none⟩ = some (.bool a1_2) := (blk_cell BK208.out 2).trans rfl
        have hfz15_0 := blk_frozen BK208.out 0
        have hfz15_1 := blk_frozen BK208.out 1
        have hfz15_2 := blk_frozen BK208.out 2
        go_wp2
        go_meet
        case rel => exact ⟨_, (decide ((l1_0.length : Int) > 100)), (by first | rfl | (simp; done) | (simp [*]; done)), H', ⟨by first | omega | exact Nat.le_refl _⟩, ⟨by (with_reducible repeat (first | refine blk_drewN ?_ _ | refine blk_drew ?_ | refine blk_alloc ?_ _)); exact BK207.out⟩, ⟨by (with_reducible repeat (first | refine blk_drewN ?_ _ | refine blk_drew ?_ | refine blk_alloc ?_ _)); exact BK208.out⟩, ⟨by repeat (first | (with_reducible first | exact HB.out | apply below_alloc | apply pw_below_drewN | apply below_drew1 | refine below_set ?_ GE207.out | refine below_set ?_ GE208.out) | exact HB.out)⟩⟩
    case rest =>
      clear HC6
      try clear c1
      try clear p2
      try clear c4
      try clear c5
      try clear c10
      try clear c10b0
      try clear c10b1
      try clear c11
      try clear c13
      try clear hcz12_0
      try clear hcz12_1
      try clear hcz12_2
      try clear hcz14_0
      try clear hcz14_1
      try clear hcz14_2
      try clear hcz15_0
      try clear hcz15_1
      try clear hcz15_2
      try clear hfz12_0
      try clear hfz12_1
      try clear hfz12_2
      try clear hfz14_0
      try clear hfz14_1
      try clear hfz14_2
      try clear hfz15_0
      try clear hfz15_1
      try clear hfz15_2
      obtain ⟨kq, x28_5, rfl, HA, HJ5, BK207, BK208, HB⟩ := hcut
      cases kq with
      | zero => exact absurd HA.out (by simp [scrimlaw13_ResHides.j0])
      | succ kj5 =>
        have H := HA.out
        clear HA
        simp only [scrimlaw13_ResHides.j0] at H
        by_cases c16 : x28_5 = true
        · subst c16
          have H1 : (some true) = some r := by rw [if_pos rfl] at H; exact H
          clear H
          have H := H1
          clear H1
          obtain rfl := Option.some.inj H
          go_wp2
          go_ret
          exact ⟨by first | rfl | (simp [errW_none, errW_some] <;> rfl) | (simp [*, errW_none, errW_some] <;> rfl), by repeat (first | (with_reducible first | exact HB.out | apply below_alloc | apply pw_below_drewN | apply below_drew1 | refine below_set ?_ GE207.out | refine below_set ?_ GE208.out) | exact HB.out)⟩
        · replace c16 := Bool.eq_false_iff.mpr c16
          subst c16
          have H1 : ((res_Public.f l0_0 a0_1 a0_2).bind fun bt210 => ((res_Size.f l0_0 a0_1 a0_2 a2).bind fun bt216 => ((res_Size.f bt210.1 bt210.2.1 bt210.2.2 a2).bind fun bt219 => ((res_Alike.f kj5 l0_0 a0_1 a0_2 bt210.1 bt210.2.1 bt210.2.2).bind fun t222 => (if t222 = true then ((res_Public.f bt210.1 bt210.2.1 bt210.2.2).bind fun bt223 => ((scrimlaw13_own.f kj5 bt223.1 bt223.2.1 bt223.2.2).bind fun bt228 => ((scrimlaw13_own.f kj5 bt210.1 bt210.2.1 bt210.2.2).bind fun bt233 => ((scrimref13_Same.f kj5 bt228.1 bt228.2.1 bt228.2.2 bt233.1 bt233.2.1 bt233.2.2).bind fun t238 => (if t238 = true then (if bt216.1 = bt219.1 then (if bt216.2.1 = bt219.2.1 then (if (bt216.2.2 != bt219.2.2) = true then (scrimlaw13_ResHides.j1 kj5 a2 bt216.1 bt216.2.1 bt216.2.2 true l0_0 a0_1 a0_2 l1_0 a1_1 a1_2) else ((res_Advance.f l0_0 a0_1 a0_2).bind fun t239 => ((res_Advance.f bt210.1 bt210.2.1 bt210.2.2).bind fun t240 => (scrimlaw13_ResHides.j1 kj5 a2 bt216.1 bt216.2.1 bt216.2.2 (t239 != t240) l0_0 a0_1 a0_2 l1_0 a1_1 a1_2)))) else (scrimlaw13_ResHides.j1 kj5 a2 bt216.1 bt216.2.1 bt216.2.2 true l0_0 a0_1 a0_2 l1_0 a1_1 a1_2)) else (scrimlaw13_ResHides.j1 kj5 a2 bt216.1 bt216.2.1 bt216.2.2 true l0_0 a0_1 a0_2 l1_0 a1_1 a1_2)) else (scrimlaw13_ResHides.j1 kj5 a2 bt216.1 bt216.2.1 bt216.2.2 true l0_0 a0_1 a0_2 l1_0 a1_1 a1_2)))))) else (scrimlaw13_ResHides.j1 kj5 a2 bt216.1 bt216.2.1 bt216.2.2 true l0_0 a0_1 a0_2 l1_0 a1_1 a1_2)))))) = some r := by rw [if_neg (show ¬ (false = true) by decide)] at H; exact H
          clear H
          have H := H1
          clear H1
          replace H := Option.bind_eq_some_iff.mp H
          obtain ⟨⟨t210, t213, t214⟩, A170, H⟩ := H
          replace H : ((res_Size.f l0_0 a0_1 a0_2 a2).bind fun bt216 => ((res_Size.f t210 t213 t214 a2).bind fun bt219 => ((res_Alike.f kj5 l0_0 a0_1 a0_2 t210 t213 t214).bind fun t222 => (if t222 = true then ((res_Public.f t210 t213 t214).bind fun bt223 => ((scrimlaw13_own.f kj5 bt223.1 bt223.2.1 bt223.2.2).bind fun bt228 => ((scrimlaw13_own.f kj5 t210 t213 t214).bind fun bt233 => ((scrimref13_Same.f kj5 bt228.1 bt228.2.1 bt228.2.2 bt233.1 bt233.2.1 bt233.2.2).bind fun t238 => (if t238 = true then (if bt216.1 = bt219.1 then (if bt216.2.1 = bt219.2.1 then (if (bt216.2.2 != bt219.2.2) = true then (scrimlaw13_ResHides.j1 kj5 a2 bt216.1 bt216.2.1 bt216.2.2 true l0_0 a0_1 a0_2 l1_0 a1_1 a1_2) else ((res_Advance.f l0_0 a0_1 a0_2).bind fun t239 => ((res_Advance.f t210 t213 t214).bind fun t240 => (scrimlaw13_ResHides.j1 kj5 a2 bt216.1 bt216.2.1 bt216.2.2 (t239 != t240) l0_0 a0_1 a0_2 l1_0 a1_1 a1_2)))) else (scrimlaw13_ResHides.j1 kj5 a2 bt216.1 bt216.2.1 bt216.2.2 true l0_0 a0_1 a0_2 l1_0 a1_1 a1_2)) else (scrimlaw13_ResHides.j1 kj5 a2 bt216.1 bt216.2.1 bt216.2.2 true l0_0 a0_1 a0_2 l1_0 a1_1 a1_2)) else (scrimlaw13_ResHides.j1 kj5 a2 bt216.1 bt216.2.1 bt216.2.2 true l0_0 a0_1 a0_2 l1_0 a1_1 a1_2)))))) else (scrimlaw13_ResHides.j1 kj5 a2 bt216.1 bt216.2.1 bt216.2.2 true l0_0 a0_1 a0_2 l1_0 a1_1 a1_2))))) = some r := H
          have A17 := Aside0.mk A170
          clear A170
          replace H := Option.bind_eq_some_iff.mp H
          obtain ⟨⟨t216, t217, t218⟩, A180, H⟩ := H
          replace H : ((res_Size.f t210 t213 t214 a2).bind fun bt219 => ((res_Alike.f kj5 l0_0 a0_1 a0_2 t210 t213 t214).bind fun t222 => (if t222 = true then ((res_Public.f t210 t213 t214).bind fun bt223 => ((scrimlaw13_own.f kj5 bt223.1 bt223.2.1 bt223.2.2).bind fun bt228 => ((scrimlaw13_own.f kj5 t210 t213 t214).bind fun bt233 => ((scrimref13_Same.f kj5 bt228.1 bt228.2.1 bt228.2.2 bt233.1 bt233.2.1 bt233.2.2).bind fun t238 => (if t238 = true then (if t216 = bt219.1 then (if t217 = bt219.2.1 then (if (t218 != bt219.2.2) = true then (scrimlaw13_ResHides.j1 kj5 a2 t216 t217 t218 true l0_0 a0_1 a0_2 l1_0 a1_1 a1_2) else ((res_Advance.f l0_0 a0_1 a0_2).bind fun t239 => ((res_Advance.f t210 t213 t214).bind fun t240 => (scrimlaw13_ResHides.j1 kj5 a2 t216 t217 t218 (t239 != t240) l0_0 a0_1 a0_2 l1_0 a1_1 a1_2)))) else (scrimlaw13_ResHides.j1 kj5 a2 t216 t217 t218 true l0_0 a0_1 a0_2 l1_0 a1_1 a1_2)) else (scrimlaw13_ResHides.j1 kj5 a2 t216 t217 t218 true l0_0 a0_1 a0_2 l1_0 a1_1 a1_2)) else (scrimlaw13_ResHides.j1 kj5 a2 t216 t217 t218 true l0_0 a0_1 a0_2 l1_0 a1_1 a1_2)))))) else (scrimlaw13_ResHides.j1 kj5 a2 t216 t217 t218 true l0_0 a0_1 a0_2 l1_0 a1_1 a1_2)))) = some r := H
          have A18 := Aside0.mk A180
          clear A180
          replace H := Option.bind_eq_some_iff.mp H
          obtain ⟨⟨t219, t220, t221⟩, A190, H⟩ := H
          replace H : ((res_Alike.f kj5 l0_0 a0_1 a0_2 t210 t213 t214).bind fun t222 => (if t222 = true then ((res_Public.f t210 t213 t214).bind fun bt223 => ((scrimlaw13_own.f kj5 bt223.1 bt223.2.1 bt223.2.2).bind fun bt228 => ((scrimlaw13_own.f kj5 t210 t213 t214).bind fun bt233 => ((scrimref13_Same.f kj5 bt228.1 bt228.2.1 bt228.2.2 bt233.1 bt233.2.1 bt233.2.2).bind fun t238 => (if t238 = true then (if t216 = t219 then (if t217 = t220 then (if (t218 != t221) = true then (scrimlaw13_ResHides.j1 kj5 a2 t216 t217 t218 true l0_0 a0_1 a0_2 l1_0 a1_1 a1_2) else ((res_Advance.f l0_0 a0_1 a0_2).bind fun t239 => ((res_Advance.f t210 t213 t214).bind fun t240 => (scrimlaw13_ResHides.j1 kj5 a2 t216 t217 t218 (t239 != t240) l0_0 a0_1 a0_2 l1_0 a1_1 a1_2)))) else (scrimlaw13_ResHides.j1 kj5 a2 t216 t217 t218 true l0_0 a0_1 a0_2 l1_0 a1_1 a1_2)) else (scrimlaw13_ResHides.j1 kj5 a2 t216 t217 t218 true l0_0 a0_1 a0_2 l1_0 a1_1 a1_2)) else (scrimlaw13_ResHides.j1 kj5 a2 t216 t217 t218 true l0_0 a0_1 a0_2 l1_0 a1_1 a1_2)))))) else (scrimlaw13_ResHides.j1 kj5 a2 t216 t217 t218 true l0_0 a0_1 a0_2 l1_0 a1_1 a1_2))) = some r := H
          have A19 := Aside0.mk A190
          clear A190
          have HC20 := Aside0.mk H
          clear H
          have hnb21 := NB207_208.out
          have hnc21 := NB208_207.out
          have hcz22_0 : wc.cell? ⟨gb207, 0, none⟩ = some (.slice A0_0 l0_0.length c0_0) := (blk_cell BK207.out 0).trans rfl
          have hcz22_1 : wc.cell? ⟨gb207, 1, none⟩ = some (.int .i64 a0_1) := (blk_cell BK207.out 1).trans rfl
          have hcz22_2 : wc.cell? ⟨gb207, 2, none⟩ = some (.bool a0_2) := (blk_cell BK207.out 2).trans rfl
          have hfz22_0 := blk_frozen BK207.out 0
          have hfz22_1 := blk_frozen BK207.out 1
          have hfz22_2 := blk_frozen BK207.out 2
          go_upto_region 8 with (first | ((with_reducible refine gate_callee (f := 22) rfl ?_); refine goesL_ (some 30) rfl rfl Try.func22 (by kernel_rfl) rfl #[.agg #[.slice A0_0 l0_0.length c0_0, .int .i64 a0_1, .bool a0_2]] rfl (by (try simp only [List.map_toArray, List.map_cons, List.map_nil]); first | done | rfl | (simp only [List.length_drop, List.length_take]; rfl)) ?_; (with_reducible refine (res_Public.calls _ _ l0_0 a0_1 a0_2 t210 t213 t214 _ ?side1 ?side2 A17.out).mono ?_); (case side1 => repeat (first | exact (Kd.C_below HR0_0.out HB.out) | (with_reducible refine Kd.C_alloc ?_ _) | (with_reducible refine Kd.C_drewN ?_ _) | (with_reducible refine Kd.C_drew ?_))); (case side2 => exact HC0_0.out); rintro e w23 ⟨v211, rfl, ho0, hb⟩; refine ⟨_, rfl, ?_⟩; have n0_ := Aside0.mk (Kd.R_lower ho0 (below_size (by repeat (first | (with_reducible first | exact HB.out | apply below_alloc | apply pw_below_drewN | apply below_drew1 | refine below_set ?_ GE207.out | refine below_set ?_ GE208.out) | exact HB.out)))); have n1_ := Aside0.mk (blk_below (g := gb207) (o := .cells #[.slice A0_0 l0_0.length c0_0, .int .i64 a0_1, .bool a0_2] 26 (0, 0)) (by (with_reducible repeat (first | refine blk_drewN ?_ _ | refine blk_drew ?_ | refine blk_alloc ?_ _)); exact BK207.out) hb); have n2_ := Aside0.mk (blk_below (g := gb208) (o := .cells #[.slice A1_0 l1_0.length c1_0, .int .i64 a1_1, .bool a1_2] 26 (0, 0)) (by (with_reducible repeat (first | refine blk_drewN ?_ _ | refine blk_drew ?_ | refine blk_alloc ?_ _)); exact BK208.out) hb); have n3_ := Aside0.mk (below_step (by repeat (first | (with_reducible first | exact HB.out | apply below_alloc | apply pw_below_drewN | apply below_drew1 | refine below_set ?_ GE207.out | refine below_set ?_ GE208.out) | exact HB.out)) hb); clear BK207; clear BK208; clear HB; have HO212 := n0_; have BK207 := n1_; have BK208 := n2_; have HB := n3_; clear n0_ n1_ n2_ n3_; (try clear hb); (try clear hb2); (try clear hk); (try clear hi); (try clear ho0)) | ((with_reducible refine gate_dst (N := 7) rfl ?_); (try (refine gate_guard (by rfl) ?_; dsimp only)); refine box_event ?hg (N := 7) ?hd (cs := #[.slice none 0 0, .int .i64 0, .bool false]) (t := 26) ?hr ?_; (case hd => rfl); (case hg => rfl); (case hr => first | (go_simp; done) | (go_simp; rfl)); intro gb215 hg w24 hbox hb; have n0_ := Aside0.mk (Kd.R_below (by (with_reducible repeat (first | apply Kd.R_alloc | apply Kd.R_drewN | apply Kd.R_drew)); exact HO212.out) hb); have n1_ := Aside0.mk (blk_below (g := gb207) (o := .cells #[.slice A0_0 l0_0.length c0_0, .int .i64 a0_1, .bool a0_2] 26 (0, 0)) (by (with_reducible repeat (first | refine blk_drewN ?_ _ | refine blk_drew ?_ | refine blk_alloc ?_ _)); exact BK207.out) hb); have n2_ := Aside0.mk (blk_below (g := gb208) (o := .cells #[.slice A1_0 l1_0.length c1_0, .int .i64 a1_1, .bool a1_2] 26 (0, 0)) (by (with_reducible repeat (first | refine blk_drewN ?_ _ | refine blk_drew ?_ | refine blk_alloc ?_ _)); exact BK208.out) hb); have n3_ := Aside0.mk (below_step (by repeat (first | (with_reducible first | exact HB.out | apply below_alloc | apply pw_below_drewN | apply below_drew1 | refine below_set ?_ GE207.out | refine below_set ?_ GE208.out) | exact HB.out)) hb); have n4_ := Aside0.mk (hbox); have n5_ := Aside0.mk ((by rw [hg]; exact (below_size (by repeat (first | (with_reducible first | exact HB.out | apply below_alloc | apply pw_below_drewN | apply below_drew1 | refine below_set ?_ GE207.out | refine below_set ?_ GE208.out) | exact HB.out))) : w.heap.size ≤ gb215)); have n6_ := Aside0.mk ((by rw [hg]; exact (below_size (by repeat (first | (with_reducible first | exact HB.out | apply below_alloc | apply pw_below_drewN | apply below_drew1 | refine below_set ?_ GE207.out | refine below_set ?_ GE208.out) | exact HB.out))) : w.heap.size ≤ gb215)); have n7_ := Aside0.mk ((by rw [hg]; exact Nat.ne_of_lt (blk_lt (g := gb207) (o := .cells #[.slice A0_0 l0_0.length c0_0, .int .i64 a0_1, .bool a0_2] 26 (0, 0)) (by (with_reducible repeat (first | refine blk_drewN ?_ _ | refine blk_drew ?_ | refine blk_alloc ?_ _)); exact BK207.out)) : gb207 ≠ gb215)); have n8_ := Aside0.mk ((by rw [hg]; exact Nat.ne_of_gt (blk_lt (g := gb207) (o := .cells #[.slice A0_0 l0_0.length c0_0, .int .i64 a0_1, .bool a0_2] 26 (0, 0)) (by (with_reducible repeat (first | refine blk_drewN ?_ _ | refine blk_drew ?_ | refine blk_alloc ?_ _)); exact BK207.out)) : gb215 ≠ gb207)); have n9_ := Aside0.mk ((by rw [hg]; exact Nat.ne_of_lt (blk_lt (g := gb208) (o := .cells #[.slice A1_0 l1_0.length c1_0, .int .i64 a1_1, .bool a1_2] 26 (0, 0)) (by (with_reducible repeat (first | refine blk_drewN ?_ _ | refine blk_drew ?_ | refine blk_alloc ?_ _)); exact BK208.out)) : gb208 ≠ gb215)); have n10_ := Aside0.mk ((by rw [hg]; exact Nat.ne_of_gt (blk_lt (g := gb208) (o := .cells #[.slice A1_0 l1_0.length c1_0, .int .i64 a1_1, .bool a1_2] 26 (0, 0)) (by (with_reducible repeat (first | refine blk_drewN ?_ _ | refine blk_drew ?_ | refine blk_alloc ?_ _)); exact BK208.out)) : gb215 ≠ gb208)); clear HO212; clear BK207; clear BK208; clear HB; have HO212 := n0_; have BK207 := n1_; have BK208 := n2_; have HB := n3_; have BK215 := n4_; have GW215 := n5_; have GE215 := n6_; have NB207_215 := n7_; have NB215_207 := n8_; have NB208_215 := n9_; have NB215_208 := n10_; clear n0_ n1_ n2_ n3_ n4_ n5_ n6_ n7_ n8_ n9_ n10_; clear hb hbox hg; obtain ⟨Ao25, co25, eo25⟩ := Kd.R_slice HO212.out; subst eo25; have hnb26 := NB215_207.out; have hnc26 := NB207_215.out; have hnb27 := NB215_208.out; have hnc27 := NB208_215.out; have hcz28_0 : w24.cell? ⟨gb215, 0, none⟩ = some (.slice none 0 0) := (blk_cell BK215.out 0).trans rfl; have hcz28_1 : w24.cell? ⟨gb215, 1, none⟩ = some (.int .i64 0) := (blk_cell BK215.out 1).trans rfl; have hcz28_2 : w24.cell? ⟨gb215, 2, none⟩ = some (.bool false) := (blk_cell BK215.out 2).trans rfl; have hfz28_0 := blk_frozen BK215.out 0; have hfz28_1 := blk_frozen BK215.out 1; have hfz28_2 := blk_frozen BK215.out 2; have hcz29_0 : w24.cell? ⟨gb207, 0, none⟩ = some (.slice A0_0 l0_0.length c0_0) := (blk_cell BK207.out 0).trans rfl; have hcz29_1 : w24.cell? ⟨gb207, 1, none⟩ = some (.int .i64 a0_1) := (blk_cell BK207.out 1).trans rfl; have hcz29_2 : w24.cell? ⟨gb207, 2, none⟩ = some (.bool a0_2) := (blk_cell BK207.out 2).trans rfl; have hfz29_0 := blk_frozen BK207.out 0; have hfz29_1 := blk_frozen BK207.out 1; have hfz29_2 := blk_frozen BK207.out 2) | ((with_reducible refine gate_callee (f := 13) rfl ?_); refine goesL_ (some 34) rfl rfl Try.func13 (by kernel_rfl) rfl #[.agg #[.slice A0_0 l0_0.length c0_0, .int .i64 a0_1, .bool a0_2], .string a2] rfl (by (try simp only [List.map_toArray, List.map_cons, List.map_nil]); first | done | rfl | (simp only [List.length_drop, List.length_take]; rfl)) ?_; (with_reducible refine (res_Size.calls _ _ l0_0 a0_1 a0_2 a2 t216 t217 t218 _ ?side1 ?side2 A18.out).mono ?_); (case side1 => exact Kd.C_below HR0_0.out (by repeat (first | (with_reducible first | exact HB.out | apply below_alloc | apply pw_below_drewN | apply below_drew1 | refine below_set ?_ GE207.out | refine below_set ?_ GE208.out | refine below_set ?_ GE215.out) | exact HB.out))); (case side2 => exact HC0_0.out); rintro e w30 ⟨rfl, hb⟩; refine ⟨_, rfl, ?_⟩; have n0_ := Aside0.mk (Kd.R_below (by (with_reducible repeat (first | apply Kd.R_alloc | apply Kd.R_drewN | apply Kd.R_drew)); exact (Kd.R_mono (Kd.R_far (p := ⟨gb215, 2, none⟩) (Kd.R_far (p := ⟨gb215, 1, none⟩) (Kd.R_far (p := ⟨gb215, 0, none⟩) (Kd.R_types HO212.out BK215.out (by decide)) (fun _ hk => hk.2) (.slice Ao25 t210.length co25)) (fun _ hk => hk.2) (.int .i64 t213)) (fun _ hk => hk.2) (.bool t214)) (fun _ h_ => h_.1))) hb); have n1_ := Aside0.mk (blk_below (g := gb207) (o := .cells #[.slice A0_0 l0_0.length c0_0, .int .i64 a0_1, .bool a0_2] 26 (0, 0)) (by (with_reducible repeat (first | refine blk_drewN ?_ _ | refine blk_drew ?_ | refine blk_alloc ?_ _)); refine blk_far ?_ NB207_215.out _; (with_reducible repeat (first | refine blk_drewN ?_ _ | refine blk_drew ?_ | refine blk_alloc ?_ _)); refine blk_far ?_ NB207_215.out _; (with_reducible repeat (first | refine blk_drewN ?_ _ | refine blk_drew ?_ | refine blk_alloc ?_ _)); refine blk_far ?_ NB207_215.out _; (with_reducible repeat (first | refine blk_drewN ?_ _ | refine blk_drew ?_ | refine blk_alloc ?_ _)); exact BK207.out) hb); have n2_ := Aside0.mk (blk_below (g := gb208) (o := .cells #[.slice A1_0 l1_0.length c1_0, .int .i64 a1_1, .bool a1_2] 26 (0, 0)) (by (with_reducible repeat (first | refine blk_drewN ?_ _ | refine blk_drew ?_ | refine blk_alloc ?_ _)); refine blk_far ?_ NB208_215.out _; (with_reducible repeat (first | refine blk_drewN ?_ _ | refine blk_drew ?_ | refine blk_alloc ?_ _)); refine blk_far ?_ NB208_215.out _; (with_reducible repeat (first | refine blk_drewN ?_ _ | refine blk_drew ?_ | refine blk_alloc ?_ _)); refine blk_far ?_ NB208_215.out _; (with_reducible repeat (first | refine blk_drewN ?_ _ | refine blk_drew ?_ | refine blk_alloc ?_ _)); exact BK208.out) hb); have n3_ := Aside0.mk (blk_below (g := gb215) (o := .cells #[.slice Ao25 t210.length co25, .int .i64 t213, .bool t214] 26 (0, 0)) (by (with_reducible repeat (first | refine blk_drewN ?_ _ | refine blk_drew ?_ | refine blk_alloc ?_ _)); refine blk_put (cs := #[.slice Ao25 t210.length co25, .int .i64 t213, .bool false]) ?_ 2 _ rfl; (with_reducible repeat (first | refine blk_drewN ?_ _ | refine blk_drew ?_ | refine blk_alloc ?_ _)); refine blk_put (cs := #[.slice Ao25 t210.length co25, .int .i64 0, .bool false]) ?_ 1 _ rfl; (with_reducible repeat (first | refine blk_drewN ?_ _ | refine blk_drew ?_ | refine blk_alloc ?_ _)); refine blk_put (cs := #[.slice none 0 0, .int .i64 0, .bool false]) ?_ 0 _ rfl; (with_reducible repeat (first | refine blk_drewN ?_ _ | refine blk_drew ?_ | refine blk_alloc ?_ _)); exact BK215.out) hb); have n4_ := Aside0.mk (below_step (by repeat (first | (with_reducible first | exact HB.out | apply below_alloc | apply pw_below_drewN | apply below_drew1 | refine below_set ?_ GE207.out | refine below_set ?_ GE208.out | refine below_set ?_ GE215.out) | exact HB.out)) hb); clear HO212; clear BK207; clear BK208; clear BK215; clear HB; have HO212 := n0_; have BK207 := n1_; have BK208 := n2_; have BK215 := n3_; have HB := n4_; clear n0_ n1_ n2_ n3_ n4_; (try clear hb); (try clear hb2); (try clear hk); (try clear hi); have hcz31_0 : w30.cell? ⟨gb215, 0, none⟩ = some (.slice Ao25 t210.length co25) := (blk_cell BK215.out 0).trans rfl; have hcz31_1 : w30.cell? ⟨gb215, 1, none⟩ = some (.int .i64 t213) := (blk_cell BK215.out 1).trans rfl; have hcz31_2 : w30.cell? ⟨gb215, 2, none⟩ = some (.bool t214) := (blk_cell BK215.out 2).trans rfl; have hfz31_0 := blk_frozen BK215.out 0; have hfz31_1 := blk_frozen BK215.out 1; have hfz31_2 := blk_frozen BK215.out 2) | ((with_reducible refine gate_callee (f := 13) rfl ?_); refine goesL_ (some 41) rfl rfl Try.func13 (by kernel_rfl) rfl #[.agg #[.slice Ao25 t210.length co25, .int .i64 t213, .bool t214], .string a2] rfl (by (try simp only [List.map_toArray, List.map_cons, List.map_nil]); first | done | rfl | (simp only [List.length_drop, List.length_take]; rfl)) ?_; (with_reducible refine (res_Size.calls _ _ t210 t213 t214 a2 t219 t220 t221 _ ?side1 ?side2 A19.out).mono ?_); (case side1 => repeat (first | exact (Kd.R_reads' HO212.out).2.2 | (with_reducible refine Kd.C_alloc ?_ _) | (with_reducible refine Kd.C_drewN ?_ _) | (with_reducible refine Kd.C_drew ?_))); (case side2 => exact (Kd.R_reads' HO212.out).2.1); rintro e w32 ⟨rfl, hb⟩; refine ⟨_, rfl, ?_⟩; have n0_ := Aside0.mk (Kd.R_below (by (with_reducible repeat (first | apply Kd.R_alloc | apply Kd.R_drewN | apply Kd.R_drew)); exact HO212.out) hb); have n1_ := Aside0.mk (blk_below (g := gb207) (o := .cells #[.slice A0_0 l0_0.length c0_0, .int .i64 a0_1, .bool a0_2] 26 (0, 0)) (by (with_reducible repeat (first | refine blk_drewN ?_ _ | refine blk_drew ?_ | refine blk_alloc ?_ _)); exact BK207.out) hb); have n2_ := Aside0.mk (blk_below (g := gb208) (o := .cells #[.slice A1_0 l1_0.length c1_0, .int .i64 a1_1, .bool a1_2] 26 (0, 0)) (by (with_reducible repeat (first | refine blk_drewN ?_ _ | refine blk_drew ?_ | refine blk_alloc ?_ _)); exact BK208.out) hb); have n3_ := Aside0.mk (blk_below (g := gb215) (o := .cells #[.slice Ao25 t210.length co25, .int .i64 t213, .bool t214] 26 (0, 0)) (by (with_reducible repeat (first | refine blk_drewN ?_ _ | refine blk_drew ?_ | refine blk_alloc ?_ _)); exact BK215.out) hb); have n4_ := Aside0.mk (below_step (by repeat (first | (with_reducible first | exact HB.out | apply below_alloc | apply pw_below_drewN | apply below_drew1 | refine below_set ?_ GE207.out | refine below_set ?_ GE208.out | refine below_set ?_ GE215.out) | exact HB.out)) hb); clear HO212; clear BK207; clear BK208; clear BK215; clear HB; have HO212 := n0_; have BK207 := n1_; have BK208 := n2_; have BK215 := n3_; have HB := n4_; clear n0_ n1_ n2_ n3_ n4_; (try clear hb); (try clear hb2); (try clear hk); (try clear hi)))
          (try simp only [Act.put, List.setIfInBounds_toArray, List.set_cons_zero, List.set_cons_succ])
          go_cut [79] (fun v79 wc => ∃ (kq : Nat) (x79_19 : Bool), v79 = .bool x79_19 ∧ Aside0 (scrimlaw13_ResHides.j1 kq a2 t216 t217 t218 x79_19 l0_0 a0_1 a0_2 l1_0 a1_1 a1_2 = some r) ∧ Aside0 (kq ≤ kj5) ∧ Aside0 (Kd.R k47 47 wc w.heap.size (fun _ => True) (.slice Ao25 t210.length co25) t210) ∧ Aside0 (wc.heap[gb207]? = some (.cells #[(.slice A0_0 l0_0.length c0_0), .int .i64 a0_1, .bool a0_2] 26 (0, 0))) ∧ Aside0 (wc.heap[gb208]? = some (.cells #[(.slice A1_0 l1_0.length c1_0), .int .i64 a1_1, .bool a1_2] 26 (0, 0))) ∧ Aside0 (wc.heap[gb215]? = some (.cells #[(.slice Ao25 t210.length co25), .int .i64 t213, .bool t214] 26 (0, 0))) ∧ Aside0 (Below w.heap.size w wc))
          case first =>
            have H := HC20.out
            clear HC20
            replace H := Option.bind_eq_some_iff.mp H
            obtain ⟨t222, A330, H⟩ := H
            replace H : (if t222 = true then ((res_Public.f t210 t213 t214).bind fun bt223 => ((scrimlaw13_own.f kj5 bt223.1 bt223.2.1 bt223.2.2).bind fun bt228 => ((scrimlaw13_own.f kj5 t210 t213 t214).bind fun bt233 => ((scrimref13_Same.f kj5 bt228.1 bt228.2.1 bt228.2.2 bt233.1 bt233.2.1 bt233.2.2).bind fun t238 => (if t238 = true then (if t216 = t219 then (if t217 = t220 then (if (t218 != t221) = true then (scrimlaw13_ResHides.j1 kj5 a2 t216 t217 t218 true l0_0 a0_1 a0_2 l1_0 a1_1 a1_2) else ((res_Advance.f l0_0 a0_1 a0_2).bind fun t239 => ((res_Advance.f t210 t213 t214).bind fun t240 => (scrimlaw13_ResHides.j1 kj5 a2 t216 t217 t218 (t239 != t240) l0_0 a0_1 a0_2 l1_0 a1_1 a1_2)))) else (scrimlaw13_ResHides.j1 kj5 a2 t216 t217 t218 true l0_0 a0_1 a0_2 l1_0 a1_1 a1_2)) else (scrimlaw13_ResHides.j1 kj5 a2 t216 t217 t218 true l0_0 a0_1 a0_2 l1_0 a1_1 a1_2)) else (scrimlaw13_ResHides.j1 kj5 a2 t216 t217 t218 true l0_0 a0_1 a0_2 l1_0 a1_1 a1_2)))))) else (scrimlaw13_ResHides.j1 kj5 a2 t216 t217 t218 true l0_0 a0_1 a0_2 l1_0 a1_1 a1_2)) = some r := H
            have A33 := Aside0.mk A330
            clear A330
            by_cases c34 : t222 = true
            · subst c34
              have H1 : ((res_Public.f t210 t213 t214).bind fun bt223 => ((scrimlaw13_own.f kj5 bt223.1 bt223.2.1 bt223.2.2).bind fun bt228 => ((scrimlaw13_own.f kj5 t210 t213 t214).bind fun bt233 => ((scrimref13_Same.f kj5 bt228.1 bt228.2.1 bt228.2.2 bt233.1 bt233.2.1 bt233.2.2).bind fun t238 => (if t238 = true then (if t216 = t219 then (if t217 = t220 then (if (t218 != t221) = true then (scrimlaw13_ResHides.j1 kj5 a2 t216 t217 t218 true l0_0 a0_1 a0_2 l1_0 a1_1 a1_2) else ((res_Advance.f l0_0 a0_1 a0_2).bind fun t239 => ((res_Advance.f t210 t213 t214).bind fun t240 => (scrimlaw13_ResHides.j1 kj5 a2 t216 t217 t218 (t239 != t240) l0_0 a0_1 a0_2 l1_0 a1_1 a1_2)))) else (scrimlaw13_ResHides.j1 kj5 a2 t216 t217 t218 true l0_0 a0_1 a0_2 l1_0 a1_1 a1_2)) else (scrimlaw13_ResHides.j1 kj5 a2 t216 t217 t218 true l0_0 a0_1 a0_2 l1_0 a1_1 a1_2)) else (scrimlaw13_ResHides.j1 kj5 a2 t216 t217 t218 true l0_0 a0_1 a0_2 l1_0 a1_1 a1_2)))))) = some r := by rw [if_pos rfl] at H; exact H
              clear H
              have H := H1
              clear H1
              replace H := Option.bind_eq_some_iff.mp H
              obtain ⟨⟨t223, t226, t227⟩, A350, H⟩ := H
              replace H : ((scrimlaw13_own.f kj5 t223 t226 t227).bind fun bt228 => ((scrimlaw13_own.f kj5 t210 t213 t214).bind fun bt233 => ((scrimref13_Same.f kj5 bt228.1 bt228.2.1 bt228.2.2 bt233.1 bt233.2.1 bt233.2.2).bind fun t238 => (if t238 = true then (if t216 = t219 then (if t217 = t220 then (if (t218 != t221) = true then (scrimlaw13_ResHides.j1 kj5 a2 t216 t217 t218 true l0_0 a0_1 a0_2 l1_0 a1_1 a1_2) else ((res_Advance.f l0_0 a0_1 a0_2).bind fun t239 => ((res_Advance.f t210 t213 t214).bind fun t240 => (scrimlaw13_ResHides.j1 kj5 a2 t216 t217 t218 (t239 != t240) l0_0 a0_1 a0_2 l1_0 a1_1 a1_2)))) else (scrimlaw13_ResHides.j1 kj5 a2 t216 t217 t218 true l0_0 a0_1 a0_2 l1_0 a1_1 a1_2)) else (scrimlaw13_ResHides.j1 kj5 a2 t216 t217 t218 true l0_0 a0_1 a0_2 l1_0 a1_1 a1_2)) else (scrimlaw13_ResHides.j1 kj5 a2 t216 t217 t218 true l0_0 a0_1 a0_2 l1_0 a1_1 a1_2))))) = some r := H
              have A35 := Aside0.mk A350
              clear A350
              replace H := Option.bind_eq_some_iff.mp H
              obtain ⟨⟨t228, t231, t232⟩, A360, H⟩ := H
              replace H : ((scrimlaw13_own.f kj5 t210 t213 t214).bind fun bt233 => ((scrimref13_Same.f kj5 t228 t231 t232 bt233.1 bt233.2.1 bt233.2.2).bind fun t238 => (if t238 = true then (if t216 = t219 then (if t217 = t220 then (if (t218 != t221) = true then (scrimlaw13_ResHides.j1 kj5 a2 t216 t217 t218 true l0_0 a0_1 a0_2 l1_0 a1_1 a1_2) else ((res_Advance.f l0_0 a0_1 a0_2).bind fun t239 => ((res_Advance.f t210 t213 t214).bind fun t240 => (scrimlaw13_ResHides.j1 kj5 a2 t216 t217 t218 (t239 != t240) l0_0 a0_1 a0_2 l1_0 a1_1 a1_2)))) else (scrimlaw13_ResHides.j1 kj5 a2 t216 t217 t218 true l0_0 a0_1 a0_2 l1_0 a1_1 a1_2)) else (scrimlaw13_ResHides.j1 kj5 a2 t216 t217 t218 true l0_0 a0_1 a0_2 l1_0 a1_1 a1_2)) else (scrimlaw13_ResHides.j1 kj5 a2 t216 t217 t218 true l0_0 a0_1 a0_2 l1_0 a1_1 a1_2)))) = some r := H
              have A36 := Aside0.mk A360
              clear A360
              replace H := Option.bind_eq_some_iff.mp H
              obtain ⟨⟨t233, t236, t237⟩, A370, H⟩ := H
              replace H : ((scrimref13_Same.f kj5 t228 t231 t232 t233 t236 t237).bind fun t238 => (if t238 = true then (if t216 = t219 then (if t217 = t220 then (if (t218 != t221) = true then (scrimlaw13_ResHides.j1 kj5 a2 t216 t217 t218 true l0_0 a0_1 a0_2 l1_0 a1_1 a1_2) else ((res_Advance.f l0_0 a0_1 a0_2).bind fun t239 => ((res_Advance.f t210 t213 t214).bind fun t240 => (scrimlaw13_ResHides.j1 kj5 a2 t216 t217 t218 (t239 != t240) l0_0 a0_1 a0_2 l1_0 a1_1 a1_2)))) else (scrimlaw13_ResHides.j1 kj5 a2 t216 t217 t218 true l0_0 a0_1 a0_2 l1_0 a1_1 a1_2)) else (scrimlaw13_ResHides.j1 kj5 a2 t216 t217 t218 true l0_0 a0_1 a0_2 l1_0 a1_1 a1_2)) else (scrimlaw13_ResHides.j1 kj5 a2 t216 t217 t218 true l0_0 a0_1 a0_2 l1_0 a1_1 a1_2))) = some r := H
              have A37 := Aside0.mk A370
              clear A370
              replace H := Option.bind_eq_some_iff.mp H
              obtain ⟨t238, A380, H⟩ := H
              replace H : (if t238 = true then (if t216 = t219 then (if t217 = t220 then (if (t218 != t221) = true then (scrimlaw13_ResHides.j1 kj5 a2 t216 t217 t218 true l0_0 a0_1 a0_2 l1_0 a1_1 a1_2) else ((res_Advance.f l0_0 a0_1 a0_2).bind fun t239 => ((res_Advance.f t210 t213 t214).bind fun t240 => (scrimlaw13_ResHides.j1 kj5 a2 t216 t217 t218 (t239 != t240) l0_0 a0_1 a0_2 l1_0 a1_1 a1_2)))) else (scrimlaw13_ResHides.j1 kj5 a2 t216 t217 t218 true l0_0 a0_1 a0_2 l1_0 a1_1 a1_2)) else (scrimlaw13_ResHides.j1 kj5 a2 t216 t217 t218 true l0_0 a0_1 a0_2 l1_0 a1_1 a1_2)) else (scrimlaw13_ResHides.j1 kj5 a2 t216 t217 t218 true l0_0 a0_1 a0_2 l1_0 a1_1 a1_2)) = some r := H
              have A38 := Aside0.mk A380
              clear A380
              by_cases c39 : t238 = true
              · subst c39
                have H1 : (if t216 = t219 then (if t217 = t220 then (if (t218 != t221) = true then (scrimlaw13_ResHides.j1 kj5 a2 t216 t217 t218 true l0_0 a0_1 a0_2 l1_0 a1_1 a1_2) else ((res_Advance.f l0_0 a0_1 a0_2).bind fun t239 => ((res_Advance.f t210 t213 t214).bind fun t240 => (scrimlaw13_ResHides.j1 kj5 a2 t216 t217 t218 (t239 != t240) l0_0 a0_1 a0_2 l1_0 a1_1 a1_2)))) else (scrimlaw13_ResHides.j1 kj5 a2 t216 t217 t218 true l0_0 a0_1 a0_2 l1_0 a1_1 a1_2)) else (scrimlaw13_ResHides.j1 kj5 a2 t216 t217 t218 true l0_0 a0_1 a0_2 l1_0 a1_1 a1_2)) = some r := by rw [if_pos rfl] at H; exact H
                clear H
                have H := H1
                clear H1
                by_cases c40 : t216 = t219
                · rw [if_pos c40] at H
                  have c40b0 : (t216 == t219) = true := beq_iff_eq.mpr c40
                  have c40b1 : (t216 != t219) = false := bne_eq_false_iff_eq.mpr c40
                  clear c40
                  (first | rw [c40b0] | (simp only [i64_w, i32_w]; rw [c40b0]) | skip)
                  by_cases c41 : t217 = t220
                  · rw [if_pos c41] at H
                    have c41b0 : (t217 == t220) = true := beq_iff_eq.mpr c41
                    have c41b1 : (t217 != t220) = false := bne_eq_false_iff_eq.mpr c41
                    clear c41
                    by_cases c42 : (t218 != t221) = true
                    · exact (no_ne c42 (no_size (by assumption) (by assumption) (by assumption)).2.2).elim
                    · rw [if_neg c42] at H
                      have c42b0 : (t218 != t221) = false := by simpa using c42
                      (try (have c42b1 : decide (t218 = t221) = true := by simpa using c42))
                      (try (have c42b2 : (t218 == t221) = true := by simpa using c42))
                      clear c42
                      replace H := Option.bind_eq_some_iff.mp H
                      obtain ⟨t239, A520, H⟩ := H
                      replace H : ((res_Advance.f t210 t213 t214).bind fun t240 => (scrimlaw13_ResHides.j1 kj5 a2 t216 t217 t218 (t239 != t240) l0_0 a0_1 a0_2 l1_0 a1_1 a1_2)) = some r := H
                      have A52 := Aside0.mk A520
                      clear A520
                      replace H := Option.bind_eq_some_iff.mp H
                      obtain ⟨t240, A530, H⟩ := H
                      replace H : (scrimlaw13_ResHides.j1 kj5 a2 t216 t217 t218 (t239 != t240) l0_0 a0_1 a0_2 l1_0 a1_1 a1_2) = some r := H
                      have A53 := Aside0.mk A530
                      clear A530
                      have H' := Aside0.mk H
                      clear H
                      try go_wp2
                      have n0_ := Aside0.mk (Kd.R_drew HO212.out)
                      have n1_ := Aside0.mk (blk_drew BK207.out)
                      have n2_ := Aside0.mk (blk_drew BK208.out)
                      have n3_ := Aside0.mk (blk_drew BK215.out)
                      have n4_ := Aside0.mk (below_drew1 HB.out)
                      clear HO212
                      clear BK207
                      clear BK208
                      clear BK215
                      clear HB
                      have HO212 := n0_
                      have BK207 := n1_
                      have BK208 := n2_
                      have BK215 := n3_
                      have HB := n4_
                      clear n0_ n1_ n2_ n3_ n4_
                      refine start_ (n := 35) (S := fun w' => w'.cell? ⟨gb207, 0, none⟩ = some (.slice A0_0 l0_0.length c0_0) ∧ w'.cell? ⟨gb207, 1, none⟩ = some (.int .i64 a0_1) ∧ w'.cell? ⟨gb207, 2, none⟩ = some (.bool a0_2) ∧ w'.cell? ⟨gb215, 0, none⟩ = some (.slice Ao25 t210.length co25) ∧ w'.cell? ⟨gb215, 1, none⟩ = some (.int .i64 t213) ∧ w'.cell? ⟨gb215, 2, none⟩ = some (.bool t214)) (ds := []) #[false, false, false, false, false, false, false, false, false, false, false, false, false, false, false, false, false, false, false, false, false, false, false, false, false, false, false, false, false, false, false, false, false, false, false] (by kernel_rfl) rfl rfl ⟨(blk_cell BK207.out 0).trans rfl, (blk_cell BK207.out 1).trans rfl, (blk_cell BK207.out 2).trans rfl, (blk_cell BK215.out 0).trans rfl, (blk_cell BK215.out 1).trans rfl, (blk_cell BK215.out 2).trans rfl⟩ (fun hHeld => ?_); refine with_tabW scrimlaw13_ResHides.tab8 scrimlaw13_ResHides.bits8 (fun HT_ HW_ => ?_)
                      generalize w32.drew = w54 at HO212 BK207 BK208 BK215 HB hHeld ⊢
                      refine take_ (i := 0) (N := some 45) (v := ?_) (a' := ?_) #[true, false, false, false, false, false, false, false, false, false, false, false, false, false, false, false, false, false, false, false, false, false, false, false, false, false, false, false, false, false, false, false, false, false, false] rfl rfl (take_ofW HT_.out HW_.out (by kernel_rfl)) (fun _ _ _ h => h) (Or.inl ⟨by rfl, ?_⟩) hHeld ?_ ?_
                      rotate_left
                      · rintro w' ⟨s0, s1, s2, s3, s4, s5⟩
                        go_simp
                        with_reducible rfl
                      rotate_left
                      · simp only [Act.put, List.setIfInBounds_toArray, List.set_cons_zero, List.set_cons_succ, i64_w, i32_w]
                        rfl
                      refine take_ (i := 1) (N := some 46) (v := ?_) (a' := ?_) #[true, true, false, false, false, false, false, false, false, false, false, false, false, false, false, false, false, false, false, false, false, false, false, false, false, false, false, false, false, false, false, false, false, false, false] rfl rfl (take_ofW HT_.out HW_.out (by kernel_rfl)) (fun _ _ _ h => h) (Or.inl ⟨by rfl, ?_⟩) hHeld ?_ ?_
                      rotate_left
                      · rintro w' ⟨s0, s1, s2, s3, s4, s5⟩
                        go_simp
                        with_reducible rfl
                      rotate_left
                      · simp only [Act.put, List.setIfInBounds_toArray, List.set_cons_zero, List.set_cons_succ, i64_w, i32_w]
                        rfl
                      refine one_ (i := 2) (N := some 47) #[true, true, true, false, false, false, false, false, false, false, false, false, false, false, false, false, false, false, false, false, false, false, false, false, false, false, false, false, false, false, false, false, false, false, false] rfl rfl (one_of HT_.out (by kernel_rfl)) (by decide) (fun K hK => ?_)
                      refine goes_ Try.func24 (by kernel_rfl) rfl #[.agg #[.slice A0_0 l0_0.length c0_0, .int .i64 a0_1, .bool a0_2], .agg #[.slice Ao25 t210.length co25, .int .i64 t213, .bool t214]] (by rfl) rfl rfl (by (try simp only [List.map_toArray, List.map_cons, List.map_nil]); first | done | rfl | (simp only [List.length_drop, List.length_take]; rfl)) ?_
                      with_reducible refine (res_Alike.calls kj5 _ _ l0_0 a0_1 a0_2 _ _ t210 t213 t214 true _ ?side1 ?side2 ?side3 ?side4 A33.out).mono ?_
                      (case side1 => repeat (first | exact (Kd.C_below HR0_0.out HB.out) | (with_reducible refine Kd.C_alloc ?_ _) | (with_reducible refine Kd.C_drewN ?_ _) | (with_reducible refine Kd.C_drew ?_)))
                      (case side2 => exact HC0_0.out)
                      (case side3 => repeat (first | exact (Kd.R_reads' HO212.out).2.2 | (with_reducible refine Kd.C_alloc ?_ _) | (with_reducible refine Kd.C_drewN ?_ _) | (with_reducible refine Kd.C_drew ?_)))
                      (case side4 => exact (Kd.R_reads' HO212.out).2.1)
                      rintro e w55 ⟨rfl, hb⟩
                      refine ⟨_, rfl, ?_⟩
                      have n0_ := Aside0.mk (Kd.R_below (by (with_reducible repeat (first | apply Kd.R_alloc | apply Kd.R_drewN | apply Kd.R_drew)); exact HO212.out) hb)
                      have n1_ := Aside0.mk (blk_below (g := gb207) (o := .cells #[.slice A0_0 l0_0.length c0_0, .int .i64 a0_1, .bool a0_2] 26 (0, 0)) (by (with_reducible repeat (first | refine blk_drewN ?_ _ | refine blk_drew ?_ | refine blk_alloc ?_ _)); exact BK207.out) hb)
                      have n2_ := Aside0.mk (blk_below (g := gb208) (o := .cells #[.slice A1_0 l1_0.length c1_0, .int .i64 a1_1, .bool a1_2] 26 (0, 0)) (by (with_reducible repeat (first | refine blk_drewN ?_ _ | refine blk_drew ?_ | refine blk_alloc ?_ _)); exact BK208.out) hb)
                      have n3_ := Aside0.mk (blk_below (g := gb215) (o := .cells #[.slice Ao25 t210.length co25, .int .i64 t213, .bool t214] 26 (0, 0)) (by (with_reducible repeat (first | refine blk_drewN ?_ _ | refine blk_drew ?_ | refine blk_alloc ?_ _)); exact BK215.out) hb)
                      have n4_ := Aside0.mk (below_step (by repeat (first | (with_reducible first | exact HB.out | apply below_alloc | apply pw_below_drewN | apply below_drew1 | refine below_set ?_ GE207.out | refine below_set ?_ GE208.out | refine below_set ?_ GE215.out) | exact HB.out)) hb)
                      clear HO212
                      clear BK207
                      clear BK208
                      clear BK215
                      clear HB
                      have HO212 := n0_
                      have BK207 := n1_
                      have BK208 := n2_
                      have BK215 := n3_
                      have HB := n4_
                      clear n0_ n1_ n2_ n3_ n4_
                      (try clear hb)
                      (try clear hb2)
                      (try clear hk)
                      (try clear hi)
                      refine hK.out _ _ ⟨(blk_cell BK207.out 0).trans rfl, (blk_cell BK207.out 1).trans rfl, (blk_cell BK207.out 2).trans rfl, (blk_cell BK215.out 0).trans rfl, (blk_cell BK215.out 1).trans rfl, (blk_cell BK215.out 2).trans rfl⟩ (fun hHeld => ?_)
                      clear hK K
                      refine norm_ (a' := ?_) ?_ ?_
                      rotate_left
                      · show Act.put _ (some 47) _ = _
                        simp only [Act.put, List.setIfInBounds_toArray, List.set_cons_zero, List.set_cons_succ, i64_w, i32_w]
                        rfl
                      refine pure_ (i := 3) (N := some 48) (v := ?_) (a' := ?_) #[true, true, true, true, false, false, false, false, false, false, false, false, false, false, false, false, false, false, false, false, false, false, false, false, false, false, false, false, false, false, false, false, false, false, false] rfl rfl (any_of HT_.out (by kernel_rfl)) (fun _ _ _ h => h) (Or.inl ⟨by rfl, ?_⟩) ?_ ?_
                      rotate_left
                      · intro w'
                        go_simp
                        with_reducible rfl
                      rotate_left
                      · simp only [Act.put, List.setIfInBounds_toArray, List.set_cons_zero, List.set_cons_succ, i64_w, i32_w]
                        rfl
                      refine pure_ (i := 4) (N := some 49) (v := ?_) (a' := ?_) #[true, true, true, true, true, false, false, false, false, false, false, false, false, false, false, false, false, false, false, false, false, false, false, false, false, false, false, false, false, false, false, false, false, false, false] rfl rfl (any_of HT_.out (by kernel_rfl)) (fun _ _ _ h => h) (Or.inl ⟨by rfl, ?_⟩) ?_ ?_
                      rotate_left
                      · intro w'
                        go_simp
                        with_reducible rfl
                      rotate_left
                      · simp only [Act.put, List.setIfInBounds_toArray, List.set_cons_zero, List.set_cons_succ, i64_w, i32_w]
                        rfl
                      refine take_ (i := 5) (N := some 50) (v := ?_) (a' := ?_) #[true, true, true, true, true, true, false, false, false, false, false, false, false, false, false, false, false, false, false, false, false, false, false, false, false, false, false, false, false, false, false, false, false, false, false] rfl rfl (take_ofW HT_.out HW_.out (by kernel_rfl)) (fun _ _ _ h => h) (Or.inl ⟨by rfl, ?_⟩) hHeld ?_ ?_
                      rotate_left
                      · rintro w' ⟨s0, s1, s2, s3, s4, s5⟩
                        go_simp
                        with_reducible rfl
                      rotate_left
                      · simp only [Act.put, List.setIfInBounds_toArray, List.set_cons_zero, List.set_cons_succ, i64_w, i32_w]
                        rfl
                      refine take_ (i := 8) (N := some 53) (v := ?_) (a' := ?_) #[true, true, true, true, true, true, false, false, true, false, false, false, false, false, false, false, false, false, false, false, false, false, false, false, false, false, false, false, false, false, false, false, false, false, false] rfl rfl (take_ofW HT_.out HW_.out (by kernel_rfl)) (fun _ _ _ h => h) (Or.inl ⟨by rfl, ?_⟩) hHeld ?_ ?_
                      rotate_left
                      · rintro w' ⟨s0, s1, s2, s3, s4, s5⟩
                        go_simp
                        with_reducible rfl
                      rotate_left
                      · simp only [Act.put, List.setIfInBounds_toArray, List.set_cons_zero, List.set_cons_succ, i64_w, i32_w]
                        rfl
                      refine one_ (i := 6) (N := some 51) #[true, true, true, true, true, true, true, false, true, false, false, false, false, false, false, false, false, false, false, false, false, false, false, false, false, false, false, false, false, false, false, false, false, false, false] rfl rfl (one_of HT_.out (by kernel_rfl)) (by decide) (fun K hK => ?_)
                      refine goes_ Try.func22 (by kernel_rfl) rfl #[.agg #[.slice Ao25 t210.length co25, .int .i64 t213, .bool t214]] (by rfl) rfl rfl (by (try simp only [List.map_toArray, List.map_cons, List.map_nil]); first | done | rfl | (simp only [List.length_drop, List.length_take]; rfl)) ?_
                      with_reducible refine (res_Public.calls _ _ t210 t213 t214 t223 t226 t227 _ ?side1 ?side2 A35.out).mono ?_
                      (case side1 => repeat (first | exact (Kd.R_reads' HO212.out).2.2 | (with_reducible refine Kd.C_alloc ?_ _) | (with_reducible refine Kd.C_drewN ?_ _) | (with_reducible refine Kd.C_drew ?_)))
                      (case side2 => exact (Kd.R_reads' HO212.out).2.1)
                      rintro e w56 ⟨v224, rfl, ho0, hb⟩
                      refine ⟨_, rfl, ?_⟩
                      have n0_ := Aside0.mk (Kd.R_elder' (by (with_reducible repeat (first | apply Kd.R_alloc | apply Kd.R_drewN | apply Kd.R_drew)); exact HO212.out) (Kd.R_base ho0) hb)
                      have n1_ := Aside0.mk (Kd.R_lower (Kd.R_new' ho0 (Kd.R_lt (by (with_reducible repeat (first | apply Kd.R_alloc | apply Kd.R_drewN | apply Kd.R_drew)); exact HO212.out))) (below_size (by repeat (first | (with_reducible first | exact HB.out | apply below_alloc | apply pw_below_drewN | apply below_drew1 | refine below_set ?_ GE207.out | refine below_set ?_ GE208.out | refine below_set ?_ GE215.out) | exact HB.out))))
                      have n2_ := Aside0.mk (blk_below (g := gb207) (o := .cells #[.slice A0_0 l0_0.length c0_0, .int .i64 a0_1, .bool a0_2] 26 (0, 0)) (by (with_reducible repeat (first | refine blk_drewN ?_ _ | refine blk_drew ?_ | refine blk_alloc ?_ _)); exact BK207.out) hb)
                      have n3_ := Aside0.mk (blk_below (g := gb208) (o := .cells #[.slice A1_0 l1_0.length c1_0, .int .i64 a1_1, .bool a1_2] 26 (0, 0)) (by (with_reducible repeat (first | refine blk_drewN ?_ _ | refine blk_drew ?_ | refine blk_alloc ?_ _)); exact BK208.out) hb)
                      have n4_ := Aside0.mk (blk_below (g := gb215) (o := .cells #[.slice Ao25 t210.length co25, .int .i64 t213, .bool t214] 26 (0, 0)) (by (with_reducible repeat (first | refine blk_drewN ?_ _ | refine blk_drew ?_ | refine blk_alloc ?_ _)); exact BK215.out) hb)
                      have n5_ := Aside0.mk (below_step (by repeat (first | (with_reducible first | exact HB.out | apply below_alloc | apply pw_below_drewN | apply below_drew1 | refine below_set ?_ GE207.out | refine below_set ?_ GE208.out | refine below_set ?_ GE215.out) | exact HB.out)) hb)
                      clear HO212
                      clear BK207
                      clear BK208
                      clear BK215
                      clear HB
                      have HO212 := n0_
                      have HO225 := n1_
                      have BK207 := n2_
                      have BK208 := n3_
                      have BK215 := n4_
                      have HB := n5_
                      clear n0_ n1_ n2_ n3_ n4_ n5_
                      (try clear hb)
                      (try clear hb2)
                      (try clear hk)
                      (try clear hi)
                      (try clear ho0)
                      obtain ⟨Ao57, co57, eo57⟩ := Kd.R_slice HO225.out
                      (first | subst eo57 | (injection eo57 with f1_ f2_ f3_; have f4_ := f1_.symm; have f5_ := f3_.symm; clear f1_ f2_ f3_; subst f4_; subst f5_))
                      refine hK.out _ _ ⟨(blk_cell BK207.out 0).trans rfl, (blk_cell BK207.out 1).trans rfl, (blk_cell BK207.out 2).trans rfl, (blk_cell BK215.out 0).trans rfl, (blk_cell BK215.out 1).trans rfl, (blk_cell BK215.out 2).trans rfl⟩ (fun hHeld => ?_)
                      clear hK K
                      refine norm_ (a' := ?_) ?_ ?_
                      rotate_left
                      · show Act.put _ (some 51) _ = _
                        simp only [Act.put, List.setIfInBounds_toArray, List.set_cons_zero, List.set_cons_succ, i64_w, i32_w]
                        rfl
                      refine one_ (i := 7) (N := some 52) #[true, true, true, true, true, true, true, true, true, false, false, false, false, false, false, false, false, false, false, false, false, false, false, false, false, false, false, false, false, false, false, false, false, false, false] rfl rfl (one_of HT_.out (by kernel_rfl)) (by decide) (fun K hK => ?_)
                      refine goes_ Try.func12 (by kernel_rfl) rfl #[.agg #[.slice Ao57 t223.length co57, .int .i64 t226, .bool t227]] (by rfl) rfl rfl (by (try simp only [List.map_toArray, List.map_cons, List.map_nil]); first | done | rfl | (simp only [List.length_drop, List.length_take]; rfl)) ?_
                      with_reducible refine (scrimlaw13_own.calls kj5 _ _ t223 t226 t227 t228 t231 t232 _ ?side1 ?side2 A36.out).mono ?_
                      (case side1 => repeat (first | exact (Kd.R_reads' HO225.out).2.2 | (with_reducible refine Kd.C_alloc ?_ _) | (with_reducible refine Kd.C_drewN ?_ _) | (with_reducible refine Kd.C_drew ?_)))
                      (case side2 => exact (Kd.R_reads' HO225.out).2.1)
                      rintro e w58 ⟨v229, rfl, ho0, hb⟩
                      refine ⟨_, rfl, ?_⟩
                      have n0_ := Aside0.mk (Kd.R_below (by (with_reducible repeat (first | apply Kd.R_alloc | apply Kd.R_drewN | apply Kd.R_drew)); exact HO212.out) hb)
                      have n1_ := Aside0.mk (Kd.R_below (by (with_reducible repeat (first | apply Kd.R_alloc | apply Kd.R_drewN | apply Kd.R_drew)); exact HO225.out) hb)
                      have n2_ := Aside0.mk (Kd.R_lower ho0 (below_size (by repeat (first | (with_reducible first | exact HB.out | apply below_alloc | apply pw_below_drewN | apply below_drew1 | refine below_set ?_ GE207.out | refine below_set ?_ GE208.out | refine below_set ?_ GE215.out) | exact HB.out))))
                      have n3_ := Aside0.mk (blk_below (g := gb207) (o := .cells #[.slice A0_0 l0_0.length c0_0, .int .i64 a0_1, .bool a0_2] 26 (0, 0)) (by (with_reducible repeat (first | refine blk_drewN ?_ _ | refine blk_drew ?_ | refine blk_alloc ?_ _)); exact BK207.out) hb)
                      have n4_ := Aside0.mk (blk_below (g := gb208) (o := .cells #[.slice A1_0 l1_0.length c1_0, .int .i64 a1_1, .bool a1_2] 26 (0, 0)) (by (with_reducible repeat (first | refine blk_drewN ?_ _ | refine blk_drew ?_ | refine blk_alloc ?_ _)); exact BK208.out) hb)
                      have n5_ := Aside0.mk (blk_below (g := gb215) (o := .cells #[.slice Ao25 t210.length co25, .int .i64 t213, .bool t214] 26 (0, 0)) (by (with_reducible repeat (first | refine blk_drewN ?_ _ | refine blk_drew ?_ | refine blk_alloc ?_ _)); exact BK215.out) hb)
                      have n6_ := Aside0.mk (below_step (by repeat (first | (with_reducible first | exact HB.out | apply below_alloc | apply pw_below_drewN | apply below_drew1 | refine below_set ?_ GE207.out | refine below_set ?_ GE208.out | refine below_set ?_ GE215.out) | exact HB.out)) hb)
                      clear HO212
                      clear HO225
                      clear BK207
                      clear BK208
                      clear BK215
                      clear HB
                      have HO212 := n0_
                      have HO225 := n1_
                      have HO230 := n2_
                      have BK207 := n3_
                      have BK208 := n4_
                      have BK215 := n5_
                      have HB := n6_
                      clear n0_ n1_ n2_ n3_ n4_ n5_ n6_
                      (try clear hb)
                      (try clear hb2)
                      (try clear hk)
                      (try clear hi)
                      (try clear ho0)
                      refine hK.out _ _ ⟨(blk_cell BK207.out 0).trans rfl, (blk_cell BK207.out 1).trans rfl, (blk_cell BK207.out 2).trans rfl, (blk_cell BK215.out 0).trans rfl, (blk_cell BK215.out 1).trans rfl, (blk_cell BK215.out 2).trans rfl⟩ (fun hHeld => ?_)
                      clear hK K
                      refine norm_ (a' := ?_) ?_ ?_
                      rotate_left
                      · show Act.put _ (some 52) _ = _
                        simp only [Act.put, List.setIfInBounds_toArray, List.set_cons_zero, List.set_cons_succ, i64_w, i32_w]
                        rfl
                      refine one_ (i := 9) (N := some 54) #[true, true, true, true, true, true, true, true, true, true, false, false, false, false, false, false, false, false, false, false, false, false, false, false, false, false, false, false, false, false, false, false, false, false, false] rfl rfl (one_of HT_.out (by kernel_rfl)) (by decide) (fun K hK => ?_)
                      refine goes_ Try.func12 (by kernel_rfl) rfl #[.agg #[.slice Ao25 t210.length co25, .int .i64 t213, .bool t214]] (by rfl) rfl rfl (by (try simp only [List.map_toArray, List.map_cons, List.map_nil]); first | done | rfl | (simp only [List.length_drop, List.length_take]; rfl)) ?_
                      with_reducible refine (scrimlaw13_own.calls kj5 _ _ t210 t213 t214 t233 t236 t237 _ ?side1 ?side2 A37.out).mono ?_
                      (case side1 => repeat (first | exact (Kd.R_reads' HO212.out).2.2 | (with_reducible refine Kd.C_alloc ?_ _) | (with_reducible refine Kd.C_drewN ?_ _) | (with_reducible refine Kd.C_drew ?_)))
                      (case side2 => exact (Kd.R_reads' HO212.out).2.1)
                      rintro e w59 ⟨v234, rfl, ho0, hb⟩
                      refine ⟨_, rfl, ?_⟩
                      have n0_ := Aside0.mk (Kd.R_below (by (with_reducible repeat (first | apply Kd.R_alloc | apply Kd.R_drewN | apply Kd.R_drew)); exact HO212.out) hb)
                      have n1_ := Aside0.mk (Kd.R_below (by (with_reducible repeat (first | apply Kd.R_alloc | apply Kd.R_drewN | apply Kd.R_drew)); exact HO225.out) hb)
                      have n2_ := Aside0.mk (Kd.R_elder' (by (with_reducible repeat (first | apply Kd.R_alloc | apply Kd.R_drewN | apply Kd.R_drew)); exact HO230.out) (Kd.R_base ho0) hb)
                      have n3_ := Aside0.mk (Kd.R_lower (Kd.R_new' ho0 (Kd.R_lt (by (with_reducible repeat (first | apply Kd.R_alloc | apply Kd.R_drewN | apply Kd.R_drew)); exact HO230.out))) (below_size (by repeat (first | (with_reducible first | exact HB.out | apply below_alloc | apply pw_below_drewN | apply below_drew1 | refine below_set ?_ GE207.out | refine below_set ?_ GE208.out | refine below_set ?_ GE215.out) | exact HB.out))))
                      have n4_ := Aside0.mk (blk_below (g := gb207) (o := .cells #[.slice A0_0 l0_0.length c0_0, .int .i64 a0_1, .bool a0_2] 26 (0, 0)) (by (with_reducible repeat (first | refine blk_drewN ?_ _ | refine blk_drew ?_ | refine blk_alloc ?_ _)); exact BK207.out) hb)
                      have n5_ := Aside0.mk (blk_below (g := gb208) (o := .cells #[.slice A1_0 l1_0.length c1_0, .int .i64 a1_1, .bool a1_2] 26 (0, 0)) (by (with_reducible repeat (first | refine blk_drewN ?_ _ | refine blk_drew ?_ | refine blk_alloc ?_ _)); exact BK208.out) hb)
                      have n6_ := Aside0.mk (blk_below (g := gb215) (o := .cells #[.slice Ao25 t210.length co25, .int .i64 t213, .bool t214] 26 (0, 0)) (by (with_reducible repeat (first | refine blk_drewN ?_ _ | refine blk_drew ?_ | refine blk_alloc ?_ _)); exact BK215.out) hb)
                      have n7_ := Aside0.mk (below_step (by repeat (first | (with_reducible first | exact HB.out | apply below_alloc | apply pw_below_drewN | apply below_drew1 | refine below_set ?_ GE207.out | refine below_set ?_ GE208.out | refine below_set ?_ GE215.out) | exact HB.out)) hb)
                      clear HO212
                      clear HO225
                      clear HO230
                      clear BK207
                      clear BK208
                      clear BK215
                      clear HB
                      have HO212 := n0_
                      have HO225 := n1_
                      have HO230 := n2_
                      have HO235 := n3_
                      have BK207 := n4_
                      have BK208 := n5_
                      have BK215 := n6_
                      have HB := n7_
                      clear n0_ n1_ n2_ n3_ n4_ n5_ n6_ n7_
                      (try clear hb)
                      (try clear hb2)
                      (try clear hk)
                      (try clear hi)
                      (try clear ho0)
                      obtain ⟨Ao60, co60, eo60⟩ := Kd.R_slice HO230.out
                      (first | subst eo60 | (injection eo60 with f1_ f2_ f3_; have f4_ := f1_.symm; have f5_ := f3_.symm; clear f1_ f2_ f3_; subst f4_; subst f5_))
                      obtain ⟨Ao61, co61, eo61⟩ := Kd.R_slice HO235.out
                      (first | subst eo61 | (injection eo61 with f1_ f2_ f3_; have f4_ := f1_.symm; have f5_ := f3_.symm; clear f1_ f2_ f3_; subst f4_; subst f5_))
                      refine hK.out _ _ ⟨(blk_cell BK207.out 0).trans rfl, (blk_cell BK207.out 1).trans rfl, (blk_cell BK207.out 2).trans rfl, (blk_cell BK215.out 0).trans rfl, (blk_cell BK215.out 1).trans rfl, (blk_cell BK215.out 2).trans rfl⟩ (fun hHeld => ?_)
                      clear hK K
                      refine norm_ (a' := ?_) ?_ ?_
                      rotate_left
                      · show Act.put _ (some 54) _ = _
                        simp only [Act.put, List.setIfInBounds_toArray, List.set_cons_zero, List.set_cons_succ, i64_w, i32_w]
                        rfl
                      refine one_ (i := 10) (N := some 55) #[true, true, true, true, true, true, true, true, true, true, true, false, false, false, false, false, false, false, false, false, false, false, false, false, false, false, false, false, false, false, false, false, false, false, false] rfl rfl (one_of HT_.out (by kernel_rfl)) (by decide) (fun K hK => ?_)
                      refine goes_ Try.func21 (by kernel_rfl) rfl #[.agg #[.slice Ao60 t228.length co60, .int .i64 t231, .bool t232], .agg #[.slice Ao61 t233.length co61, .int .i64 t236, .bool t237]] (by rfl) rfl rfl (by (try simp only [List.map_toArray, List.map_cons, List.map_nil]); first | done | rfl | (simp only [List.length_drop, List.length_take]; rfl)) ?_
                      with_reducible refine (scrimref13_Same.calls kj5 _ _ t228 t231 t232 _ _ t233 t236 t237 true _ ?side1 ?side2 ?side3 ?side4 A38.out).mono ?_
                      (case side1 => repeat (first | exact (Kd.R_reads' HO230.out).2.2 | (with_reducible refine Kd.C_alloc ?_ _) | (with_reducible refine Kd.C_drewN ?_ _) | (with_reducible refine Kd.C_drew ?_)))
                      (case side2 => exact (Kd.R_reads' HO230.out).2.1)
                      (case side3 => repeat (first | exact (Kd.R_reads' HO235.out).2.2 | (with_reducible refine Kd.C_alloc ?_ _) | (with_reducible refine Kd.C_drewN ?_ _) | (with_reducible refine Kd.C_drew ?_)))
                      (case side4 => exact (Kd.R_reads' HO235.out).2.1)
                      rintro e w62 ⟨rfl, hb⟩
                      refine ⟨_, rfl, ?_⟩
                      have n0_ := Aside0.mk (Kd.R_below (by (with_reducible repeat (first | apply Kd.R_alloc | apply Kd.R_drewN | apply Kd.R_drew)); exact HO212.out) hb)
                      have n1_ := Aside0.mk (Kd.R_below (by (with_reducible repeat (first | apply Kd.R_alloc | apply Kd.R_drewN | apply Kd.R_drew)); exact HO225.out) hb)
                      have n2_ := Aside0.mk (Kd.R_below (by (with_reducible repeat (first | apply Kd.R_alloc | apply Kd.R_drewN | apply Kd.R_drew)); exact HO230.out) hb)
                      have n3_ := Aside0.mk (Kd.R_below (by (with_reducible repeat (first | apply Kd.R_alloc | apply Kd.R_drewN | apply Kd.R_drew)); exact HO235.out) hb)
                      have n4_ := Aside0.mk (blk_below (g := gb207) (o := .cells #[.slice A0_0 l0_0.length c0_0, .int .i64 a0_1, .bool a0_2] 26 (0, 0)) (by (with_reducible repeat (first | refine blk_drewN ?_ _ | refine blk_drew ?_ | refine blk_alloc ?_ _)); exact BK207.out) hb)
                      have n5_ := Aside0.mk (blk_below (g := gb208) (o := .cells #[.slice A1_0 l1_0.length c1_0, .int .i64 a1_1, .bool a1_2] 26 (0, 0)) (by (with_reducible repeat (first | refine blk_drewN ?_ _ | refine blk_drew ?_ | refine blk_alloc ?_ _)); exact BK208.out) hb)
                      have n6_ := Aside0.mk (blk_below (g := gb215) (o := .cells #[.slice Ao25 t210.length co25, .int .i64 t213, .bool t214] 26 (0, 0)) (by (with_reducible repeat (first | refine blk_drewN ?_ _ | refine blk_drew ?_ | refine blk_alloc ?_ _)); exact BK215.out) hb)
                      have n7_ := Aside0.mk (below_step (by repeat (first | (with_reducible first | exact HB.out | apply below_alloc | apply pw_below_drewN | apply below_drew1 | refine below_set ?_ GE207.out | refine below_set ?_ GE208.out | refine below_set ?_ GE215.out) | exact HB.out)) hb)
                      clear HO212
                      clear HO225
                      clear HO230
                      clear HO235
                      clear BK207
                      clear BK208
                      clear BK215
                      clear HB
                      have HO212 := n0_
                      have HO225 := n1_
                      have HO230 := n2_
                      have HO235 := n3_
                      have BK207 := n4_
                      have BK208 := n5_
                      have BK215 := n6_
                      have HB := n7_
                      clear n0_ n1_ n2_ n3_ n4_ n5_ n6_ n7_
                      (try clear hb)
                      (try clear hb2)
                      (try clear hk)
                      (try clear hi)
                      refine hK.out _ _ ⟨(blk_cell BK207.out 0).trans rfl, (blk_cell BK207.out 1).trans rfl, (blk_cell BK207.out 2).trans rfl, (blk_cell BK215.out 0).trans rfl, (blk_cell BK215.out 1).trans rfl, (blk_cell BK215.out 2).trans rfl⟩ (fun hHeld => ?_)
                      clear hK K
                      refine norm_ (a' := ?_) ?_ ?_
                      rotate_left
                      · show Act.put _ (some 55) _ = _
                        simp only [Act.put, List.setIfInBounds_toArray, List.set_cons_zero, List.set_cons_succ, i64_w, i32_w]
                        rfl
                      refine pure_ (i := 11) (N := some 56) (v := ?_) (a' := ?_) #[true, true, true, true, true, true, true, true, true, true, true, true, false, false, false, false, false, false, false, false, false, false, false, false, false, false, false, false, false, false, false, false, false, false, false] rfl rfl (any_of HT_.out (by kernel_rfl)) (fun _ _ _ h => h) (Or.inl ⟨by rfl, ?_⟩) ?_ ?_
                      rotate_left
                      · intro w'
                        go_simp
                        with_reducible rfl
                      rotate_left
                      · simp only [Act.put, List.setIfInBounds_toArray, List.set_cons_zero, List.set_cons_succ, i64_w, i32_w]
                        rfl
                      refine pure_ (i := 12) (N := some 57) (v := ?_) (a' := ?_) #[true, true, true, true, true, true, true, true, true, true, true, true, true, false, false, false, false, false, false, false, false, false, false, false, false, false, false, false, false, false, false, false, false, false, false] rfl rfl (any_of HT_.out (by kernel_rfl)) (fun _ _ _ h => h) (Or.inl ⟨by rfl, ?_⟩) ?_ ?_
                      rotate_left
                      · intro w'
                        go_simp
                        with_reducible rfl
                      rotate_left
                      · simp only [Act.put, List.setIfInBounds_toArray, List.set_cons_zero, List.set_cons_succ, i64_w, i32_w]
                        rfl
                      refine pure_ (i := 13) (N := some 58) (v := ?_) (a' := ?_) #[true, true, true, true, true, true, true, true, true, true, true, true, true, true, false, false, false, false, false, false, false, false, false, false, false, false, false, false, false, false, false, false, false, false, false] rfl rfl (any_of HT_.out (by kernel_rfl)) (fun _ _ _ h => h) (Or.inl ⟨by rfl, ?_⟩) ?_ ?_
                      rotate_left
                      · intro w'
                        go_simp
                        with_reducible rfl
                      rotate_left
                      · simp only [Act.put, List.setIfInBounds_toArray, List.set_cons_zero, List.set_cons_succ, i64_w, i32_w]
                        rfl
                      refine pure_ (i := 14) (N := some 59) (v := ?_) (a' := ?_) #[true, true, true, true, true, true, true, true, true, true, true, true, true, true, true, false, false, false, false, false, false, false, false, false, false, false, false, false, false, false, false, false, false, false, false] rfl rfl (any_of HT_.out (by kernel_rfl)) (fun _ _ _ h => h) (Or.inl ⟨by rfl, ?_⟩) ?_ ?_
                      rotate_left
                      · intro w'
                        go_simp
                        with_reducible rfl
                      rotate_left
                      · simp only [Act.put, List.setIfInBounds_toArray, List.set_cons_zero, List.set_cons_succ, i64_w, i32_w]
                        rfl
                      refine pure_ (i := 15) (N := some 60) (v := ?_) (a' := ?_) #[true, true, true, true, true, true, true, true, true, true, true, true, true, true, true, true, false, false, false, false, false, false, false, false, false, false, false, false, false, false, false, false, false, false, false] rfl rfl (any_of HT_.out (by kernel_rfl)) (fun _ _ _ h => h) (Or.inl ⟨by rfl, ?_⟩) ?_ ?_
                      rotate_left
                      · intro w'
                        go_simp
                        with_reducible rfl
                      rotate_left
                      · simp only [Act.put, List.setIfInBounds_toArray, List.set_cons_zero, List.set_cons_succ, i64_w, i32_w]
                        rfl
                      refine pure_ (i := 16) (N := some 61) (v := ?_) (a' := ?_) #[true, true, true, true, true, true, true, true, true, true, true, true, true, true, true, true, true, false, false, false, false, false, false, false, false, false, false, false, false, false, false, false, false, false, false] rfl rfl (any_of HT_.out (by kernel_rfl)) (fun _ _ _ h => h) (Or.inl ⟨by rfl, ?_⟩) ?_ ?_
                      rotate_left
                      · intro w'
                        go_simp
                        with_reducible rfl
                      rotate_left
                      · simp only [Act.put, List.setIfInBounds_toArray, List.set_cons_zero, List.set_cons_succ, i64_w, i32_w]
                        rfl
                      refine pure_ (i := 17) (N := some 62) (v := ?_) (a' := ?_) #[true, true, true, true, true, true, true, true, true, true, true, true, true, true, true, true, true, true, false, false, false, false, false, false, false, false, false, false, false, false, false, false, false, false, false] rfl rfl (any_of HT_.out (by kernel_rfl)) (fun _ _ _ h => h) (Or.inl ⟨by rfl, ?_⟩) ?_ ?_
                      rotate_left
                      · intro w'
                        go_simp
                        with_reducible rfl
                      rotate_left
                      · simp only [Act.put, List.setIfInBounds_toArray, List.set_cons_zero, List.set_cons_succ, i64_w, i32_w]
                        rfl
                      refine pure_ (i := 18) (N := some 63) (v := ?_) (a' := ?_) #[true, true, true, true, true, true, true, true, true, true, true, true, true, true, true, true, true, true, true, false, false, false, false, false, false, false, false, false, false, false, false, false, false, false, false] rfl rfl (any_of HT_.out (by kernel_rfl)) (fun _ _ _ h => h) (Or.inl ⟨by rfl, ?_⟩) ?_ ?_
                      rotate_left
                      · intro w'
                        go_simp
                        with_reducible rfl
                      rotate_left
                      · simp only [Act.put, List.setIfInBounds_toArray, List.set_cons_zero, List.set_cons_succ, i64_w, i32_w]
                        rfl
                      refine pure_ (i := 19) (N := some 64) (v := ?_) (a' := ?_) #[true, true, true, true, true, true, true, true, true, true, true, true, true, true, true, true, true, true, true, true, false, false, false, false, false, false, false, false, false, false, false, false, false, false, false] rfl rfl (any_of HT_.out (by kernel_rfl)) (fun _ _ _ h => h) (Or.inl ⟨by rfl, ?_⟩) ?_ ?_
                      rotate_left
                      · intro w'
                        go_simp
                        with_reducible rfl
                      rotate_left
                      · simp only [Act.put, List.setIfInBounds_toArray, List.set_cons_zero, List.set_cons_succ, i64_w, i32_w]
                        rfl
                      refine pure_ (i := 20) (N := some 65) (v := ?_) (a' := ?_) #[true, true, true, true, true, true, true, true, true, true, true, true, true, true, true, true, true, true, true, true, true, false, false, false, false, false, false, false, false, false, false, false, false, false, false] rfl rfl (any_of HT_.out (by kernel_rfl)) (fun _ _ _ h => h) (Or.inl ⟨by rfl, ?_⟩) ?_ ?_
                      rotate_left
                      · intro w'
                        go_simp
                        with_reducible rfl
                      rotate_left
                      · simp only [Act.put, List.setIfInBounds_toArray, List.set_cons_zero, List.set_cons_succ, i64_w, i32_w]
                        rfl
                      refine pure_ (i := 21) (N := some 66) (v := ?_) (a' := ?_) #[true, true, true, true, true, true, true, true, true, true, true, true, true, true, true, true, true, true, true, true, true, true, false, false, false, false, false, false, false, false, false, false, false, false, false] rfl rfl (any_of HT_.out (by kernel_rfl)) (fun _ _ _ h => h) (Or.inl ⟨by rfl, ?_⟩) ?_ ?_
                      rotate_left
                      · intro w'
                        go_simp
                        with_reducible rfl
                      rotate_left
                      · simp only [Act.put, List.setIfInBounds_toArray, List.set_cons_zero, List.set_cons_succ, i64_w, i32_w]
                        rfl
                      refine pure_ (i := 22) (N := some 67) (v := ?_) (a' := ?_) #[true, true, true, true, true, true, true, true, true, true, true, true, true, true, true, true, true, true, true, true, true, true, true, false, false, false, false, false, false, false, false, false, false, false, false] rfl rfl (any_of HT_.out (by kernel_rfl)) (fun _ _ _ h => h) (Or.inl ⟨by rfl, ?_⟩) ?_ ?_
                      rotate_left
                      · intro w'
                        go_simp
                        with_reducible rfl
                      rotate_left
                      · simp only [Act.put, List.setIfInBounds_toArray, List.set_cons_zero, List.set_cons_succ, i64_w, i32_w]
                        rfl
                      refine pure_ (i := 23) (N := some 68) (v := ?_) (a' := ?_) #[true, true, true, true, true, true, true, true, true, true, true, true, true, true, true, true, true, true, true, true, true, true, true, true, false, false, false, false, false, false, false, false, false, false, false] rfl rfl (any_of HT_.out (by kernel_rfl)) (fun _ _ _ h => h) (Or.inl ⟨by rfl, ?_⟩) ?_ ?_
                      rotate_left
                      · intro w'
                        go_simp
                        with_reducible rfl
                      rotate_left
                      · simp only [Act.put, List.setIfInBounds_toArray, List.set_cons_zero, List.set_cons_succ, i64_w, i32_w]
                        rfl
                      refine pure_ (i := 24) (N := some 69) (v := ?_) (a' := ?_) #[true, true, true, true, true, true, true, true, true, true, true, true, true, true, true, true, true, true, true, true, true, true, true, true, true, false, false, false, false, false, false, false, false, false, false] rfl rfl (any_of HT_.out (by kernel_rfl)) (fun _ _ _ h => h) (Or.inl ⟨by rfl, ?_⟩) ?_ ?_
                      rotate_left
                      · intro w'
                        go_simp
                        with_reducible rfl
                      rotate_left
                      · simp only [Act.put, List.setIfInBounds_toArray, List.set_cons_zero, List.set_cons_succ, i64_w, i32_w]
                        rfl
                      refine pure_ (i := 25) (N := some 70) (v := ?_) (a' := ?_) #[true, true, true, true, true, true, true, true, true, true, true, true, true, true, true, true, true, true, true, true, true, true, true, true, true, true, false, false, false, false, false, false, false, false, false] rfl rfl (any_of HT_.out (by kernel_rfl)) (fun _ _ _ h => h) (Or.inl ⟨by rfl, ?_⟩) ?_ ?_
                      rotate_left
                      · intro w'
                        go_simp
                        with_reducible rfl
                      rotate_left
                      · simp only [Act.put, List.setIfInBounds_toArray, List.set_cons_zero, List.set_cons_succ, i64_w, i32_w]
                        rfl
                      refine pure_ (i := 26) (N := some 71) (v := ?_) (a' := ?_) #[true, true, true, true, true, true, true, true, true, true, true, true, true, true, true, true, true, true, true, true, true, true, true, true, true, true, true, false, false, false, false, false, false, false, false] rfl rfl (any_of HT_.out (by kernel_rfl)) (fun _ _ _ h => h) (Or.inl ⟨by rfl, ?_⟩) ?_ ?_
                      rotate_left
                      · intro w'
                        go_simp
                        with_reducible rfl
                      rotate_left
                      · simp only [Act.put, List.setIfInBounds_toArray, List.set_cons_zero, List.set_cons_succ, i64_w, i32_w]
                        rfl
                      refine pure_ (i := 27) (N := some 72) (v := ?_) (a' := ?_) #[true, true, true, true, true, true, true, true, true, true, true, true, true, true, true, true, true, true, true, true, true, true, true, true, true, true, true, true, false, false, false, false, false, false, false] rfl rfl (any_of HT_.out (by kernel_rfl)) (fun _ _ _ h => h) (Or.inl ⟨by rfl, ?_⟩) ?_ ?_
                      rotate_left
                      · intro w'
                        go_simp
                        with_reducible rfl
                      rotate_left
                      · simp only [Act.put, List.setIfInBounds_toArray, List.set_cons_zero, List.set_cons_succ, i64_w, i32_w]
                        rfl
                      refine pure_ (i := 28) (N := some 73) (v := ?_) (a' := ?_) #[true, true, true, true, true, true, true, true, true, true, true, true, true, true, true, true, true, true, true, true, true, true, true, true, true, true, true, true, true, false, false, false, false, false, false] rfl rfl (any_of HT_.out (by kernel_rfl)) (fun _ _ _ h => h) (Or.inl ⟨by rfl, ?_⟩) ?_ ?_
                      rotate_left
                      · intro w'
                        go_simp
                        with_reducible rfl
                      rotate_left
                      · simp only [Act.put, List.setIfInBounds_toArray, List.set_cons_zero, List.set_cons_succ, i64_w, i32_w]
                        rfl
                      refine take_ (i := 29) (N := some 74) (v := ?_) (a' := ?_) #[true, true, true, true, true, true, true, true, true, true, true, true, true, true, true, true, true, true, true, true, true, true, true, true, true, true, true, true, true, true, false, false, false, false, false] rfl rfl (take_ofW HT_.out HW_.out (by kernel_rfl)) (fun _ _ _ h => h) (Or.inl ⟨by rfl, ?_⟩) hHeld ?_ ?_
                      rotate_left
                      · rintro w' ⟨s0, s1, s2, s3, s4, s5⟩
                        go_simp
                        with_reducible rfl
                      rotate_left
                      · simp only [Act.put, List.setIfInBounds_toArray, List.set_cons_zero, List.set_cons_succ, i64_w, i32_w]
                        rfl
                      refine take_ (i := 31) (N := some 76) (v := ?_) (a' := ?_) #[true, true, true, true, true, true, true, true, true, true, true, true, true, true, true, true, true, true, true, true, true, true, true, true, true, true, true, true, true, true, false, true, false, false, false] rfl rfl (take_ofW HT_.out HW_.out (by kernel_rfl)) (fun _ _ _ h => h) (Or.inl ⟨by rfl, ?_⟩) hHeld ?_ ?_
                      rotate_left
                      · rintro w' ⟨s0, s1, s2, s3, s4, s5⟩
                        go_simp
                        with_reducible rfl
                      rotate_left
                      · simp only [Act.put, List.setIfInBounds_toArray, List.set_cons_zero, List.set_cons_succ, i64_w, i32_w]
                        rfl
                      refine one_ (i := 30) (N := some 75) #[true, true, true, true, true, true, true, true, true, true, true, true, true, true, true, true, true, true, true, true, true, true, true, true, true, true, true, true, true, true, true, true, false, false, false] rfl rfl (one_of HT_.out (by kernel_rfl)) (by decide) (fun K hK => ?_)
                      refine goes_ Try.func19 (by kernel_rfl) rfl #[.agg #[.slice A0_0 l0_0.length c0_0, .int .i64 a0_1, .bool a0_2]] (by rfl) rfl rfl (by (try simp only [List.map_toArray, List.map_cons, List.map_nil]); first | done | rfl | (simp only [List.length_drop, List.length_take]; rfl)) ?_
                      with_reducible refine (res_Advance.calls _ _ l0_0 a0_1 a0_2 t239 _ ?side1 ?side2 A52.out).mono ?_
                      (case side1 => repeat (first | exact (Kd.C_below HR0_0.out HB.out) | (with_reducible refine Kd.C_alloc ?_ _) | (with_reducible refine Kd.C_drewN ?_ _) | (with_reducible refine Kd.C_drew ?_)))
                      (case side2 => exact HC0_0.out)
                      rintro e w63 ⟨rfl, hb⟩
                      refine ⟨_, rfl, ?_⟩
                      have n0_ := Aside0.mk (Kd.R_below (by (with_reducible repeat (first | apply Kd.R_alloc | apply Kd.R_drewN | apply Kd.R_drew)); exact HO212.out) hb)
                      have n1_ := Aside0.mk (Kd.R_below (by (with_reducible repeat (first | apply Kd.R_alloc | apply Kd.R_drewN | apply Kd.R_drew)); exact HO225.out) hb)
                      have n2_ := Aside0.mk (Kd.R_below (by (with_reducible repeat (first | apply Kd.R_alloc | apply Kd.R_drewN | apply Kd.R_drew)); exact HO230.out) hb)
                      have n3_ := Aside0.mk (Kd.R_below (by (with_reducible repeat (first | apply Kd.R_alloc | apply Kd.R_drewN | apply Kd.R_drew)); exact HO235.out) hb)
                      have n4_ := Aside0.mk (blk_below (g := gb207) (o := .cells #[.slice A0_0 l0_0.length c0_0, .int .i64 a0_1, .bool a0_2] 26 (0, 0)) (by (with_reducible repeat (first | refine blk_drewN ?_ _ | refine blk_drew ?_ | refine blk_alloc ?_ _)); exact BK207.out) hb)
                      have n5_ := Aside0.mk (blk_below (g := gb208) (o := .cells #[.slice A1_0 l1_0.length c1_0, .int .i64 a1_1, .bool a1_2] 26 (0, 0)) (by (with_reducible repeat (first | refine blk_drewN ?_ _ | refine blk_drew ?_ | refine blk_alloc ?_ _)); exact BK208.out) hb)
                      have n6_ := Aside0.mk (blk_below (g := gb215) (o := .cells #[.slice Ao25 t210.length co25, .int .i64 t213, .bool t214] 26 (0, 0)) (by (with_reducible repeat (first | refine blk_drewN ?_ _ | refine blk_drew ?_ | refine blk_alloc ?_ _)); exact BK215.out) hb)
                      have n7_ := Aside0.mk (below_step (by repeat (first | (with_reducible first | exact HB.out | apply below_alloc | apply pw_below_drewN | apply below_drew1 | refine below_set ?_ GE207.out | refine below_set ?_ GE208.out | refine below_set ?_ GE215.out) | exact HB.out)) hb)
                      clear HO212
                      clear HO225
                      clear HO230
                      clear HO235
                      clear BK207
                      clear BK208
                      clear BK215
                      clear HB
                      have HO212 := n0_
                      have HO225 := n1_
                      have HO230 := n2_
                      have HO235 := n3_
                      have BK207 := n4_
                      have BK208 := n5_
                      have BK215 := n6_
                      have HB := n7_
                      clear n0_ n1_ n2_ n3_ n4_ n5_ n6_ n7_
                      (try clear hb)
                      (try clear hb2)
                      (try clear hk)
                      (try clear hi)
                      refine hK.out _ _ ⟨(blk_cell BK207.out 0).trans rfl, (blk_cell BK207.out 1).trans rfl, (blk_cell BK207.out 2).trans rfl, (blk_cell BK215.out 0).trans rfl, (blk_cell BK215.out 1).trans rfl, (blk_cell BK215.out 2).trans rfl⟩ (fun hHeld => ?_)
                      clear hK K
                      refine norm_ (a' := ?_) ?_ ?_
                      rotate_left
                      · show Act.put _ (some 75) _ = _
                        simp only [Act.put, List.setIfInBounds_toArray, List.set_cons_zero, List.set_cons_succ, i64_w, i32_w]
                        rfl
                      refine one_ (i := 32) (N := some 77) #[true, true, true, true, true, true, true, true, true, true, true, true, true, true, true, true, true, true, true, true, true, true, true, true, true, true, true, true, true, true, true, true, true, false, false] rfl rfl (one_of HT_.out (by kernel_rfl)) (by decide) (fun K hK => ?_)
                      refine goes_ Try.func19 (by kernel_rfl) rfl #[.agg #[.slice Ao25 t210.length co25, .int .i64 t213, .bool t214]] (by rfl) rfl rfl (by (try simp only [List.map_toArray, List.map_cons, List.map_nil]); first | done | rfl | (simp only [List.length_drop, List.length_take]; rfl)) ?_
                      with_reducible refine (res_Advance.calls _ _ t210 t213 t214 t240 _ ?side1 ?side2 A53.out).mono ?_
                      (case side1 => repeat (first | exact (Kd.R_reads' HO212.out).2.2 | (with_reducible refine Kd.C_alloc ?_ _) | (with_reducible refine Kd.C_drewN ?_ _) | (with_reducible refine Kd.C_drew ?_)))
                      (case side2 => exact (Kd.R_reads' HO212.out).2.1)
                      rintro e w64 ⟨rfl, hb⟩
                      refine ⟨_, rfl, ?_⟩
                      have n0_ := Aside0.mk (Kd.R_below (by (with_reducible repeat (first | apply Kd.R_alloc | apply Kd.R_drewN | apply Kd.R_drew)); exact HO212.out) hb)
                      have n1_ := Aside0.mk (Kd.R_below (by (with_reducible repeat (first | apply Kd.R_alloc | apply Kd.R_drewN | apply Kd.R_drew)); exact HO225.out) hb)
                      have n2_ := Aside0.mk (Kd.R_below (by (with_reducible repeat (first | apply Kd.R_alloc | apply Kd.R_drewN | apply Kd.R_drew)); exact HO230.out) hb)
                      have n3_ := Aside0.mk (Kd.R_below (by (with_reducible repeat (first | apply Kd.R_alloc | apply Kd.R_drewN | apply Kd.R_drew)); exact HO235.out) hb)
                      have n4_ := Aside0.mk (blk_below (g := gb207) (o := .cells #[.slice A0_0 l0_0.length c0_0, .int .i64 a0_1, .bool a0_2] 26 (0, 0)) (by (with_reducible repeat (first | refine blk_drewN ?_ _ | refine blk_drew ?_ | refine blk_alloc ?_ _)); exact BK207.out) hb)
                      have n5_ := Aside0.mk (blk_below (g := gb208) (o := .cells #[.slice A1_0 l1_0.length c1_0, .int .i64 a1_1, .bool a1_2] 26 (0, 0)) (by (with_reducible repeat (first | refine blk_drewN ?_ _ | refine blk_drew ?_ | refine blk_alloc ?_ _)); exact BK208.out) hb)
                      have n6_ := Aside0.mk (blk_below (g := gb215) (o := .cells #[.slice Ao25 t210.length co25, .int .i64 t213, .bool t214] 26 (0, 0)) (by (with_reducible repeat (first | refine blk_drewN ?_ _ | refine blk_drew ?_ | refine blk_alloc ?_ _)); exact BK215.out) hb)
                      have n7_ := Aside0.mk (below_step (by repeat (first | (with_reducible first | exact HB.out | apply below_alloc | apply pw_below_drewN | apply below_drew1 | refine below_set ?_ GE207.out | refine below_set ?_ GE208.out | refine below_set ?_ GE215.out) | exact HB.out)) hb)
                      clear HO212
                      clear HO225
                      clear HO230
                      clear HO235
                      clear BK207
                      clear BK208
                      clear BK215
                      clear HB
                      have HO212 := n0_
                      have HO225 := n1_
                      have HO230 := n2_
                      have HO235 := n3_
                      have BK207 := n4_
                      have BK208 := n5_
                      have BK215 := n6_
                      have HB := n7_
                      clear n0_ n1_ n2_ n3_ n4_ n5_ n6_ n7_
                      (try clear hb)
                      (try clear hb2)
                      (try clear hk)
                      (try clear hi)
                      refine hK.out _ _ ⟨(blk_cell BK207.out 0).trans rfl, (blk_cell BK207.out 1).trans rfl, (blk_cell BK207.out 2).trans rfl, (blk_cell BK215.out 0).trans rfl, (blk_cell BK215.out 1).trans rfl, (blk_cell BK215.out 2).trans rfl⟩ (fun hHeld => ?_)
                      clear hK K
                      refine norm_ (a' := ?_) ?_ ?_
                      rotate_left
                      · show Act.put _ (some 77) _ = _
                        simp only [Act.put, List.setIfInBounds_toArray, List.set_cons_zero, List.set_cons_succ, i64_w, i32_w]
                        rfl
                      refine pure_ (i := 33) (N := some 78) (v := ?_) (a' := ?_) #[true, true, true, true, true, true, true, true, true, true, true, true, true, true, true, true, true, true, true, true, true, true, true, true, true, true, true, true, true, true, true, true, true, true, false] rfl rfl (any_of HT_.out (by kernel_rfl)) (fun _ _ _ h => h) (Or.inl ⟨by rfl, ?_⟩) ?_ ?_
                      rotate_left
                      · intro w'
                        go_simp
                        with_reducible rfl
                      rotate_left
                      · simp only [Act.put, List.setIfInBounds_toArray, List.set_cons_zero, List.set_cons_succ, i64_w, i32_w]
                        rfl
                      refine pure_ (i := 34) (N := some 79) (v := ?_) (a' := ?_) #[true, true, true, true, true, true, true, true, true, true, true, true, true, true, true, true, true, true, true, true, true, true, true, true, true, true, true, true, true, true, true, true, true, true, true] rfl rfl (any_of HT_.out (by kernel_rfl)) (fun _ _ _ h => h) (Or.inl ⟨by rfl, ?_⟩) ?_ ?_
                      rotate_left
                      · intro w'
                        go_simp
                        with_reducible rfl
                      rotate_left
                      · simp only [Act.put, List.setIfInBounds_toArray, List.set_cons_zero, List.set_cons_succ, i64_w, i32_w]
                        rfl
                      refine done_ (done_of HT_.out (by kernel_rfl)) ?_
                      try go_wp2
                      go_meet
                      case rel => exact ⟨_, ((t239 != t240)), (by first | rfl | (simp; done) | (simp [*]; done)), H', ⟨by have := HJ5.out; first | omega | exact Nat.le_refl _⟩, ⟨by (with_reducible repeat (first | apply Kd.R_alloc | apply Kd.R_drewN | apply Kd.R_drew)); exact Kd.R_mono HO212.out (fun _ hk => trivial)⟩, ⟨by (with_reducible repeat (first | refine blk_drewN ?_ _ | refine blk_drew ?_ | refine blk_alloc ?_ _)); exact BK207.out⟩, ⟨by (with_reducible repeat (first | refine blk_drewN ?_ _ | refine blk_drew ?_ | refine blk_alloc ?_ _)); exact BK208.out⟩, ⟨by (with_reducible repeat (first | refine blk_drewN ?_ _ | refine blk_drew ?_ | refine blk_alloc ?_ _)); exact BK215.out⟩, ⟨by repeat (first | (with_reducible first | exact HB.out | apply below_alloc | apply pw_below_drewN | apply below_drew1 | refine below_set ?_ GE207.out | refine below_set ?_ GE208.out | refine below_set ?_ GE215.out) | exact HB.out)⟩⟩
                  · exact (c41 (no_size (by assumption) (by assumption) (by assumption)).2.1).elim
                · exact (c40 (no_size (by assumption) (by assumption) (by assumption)).1).elim
              · exact (c39 (no_same (by assumption) (by assumption) (by assumption) (by assumption) (by assumption))).elim
            · exact (c34 (no_alike (by assumption) (by assumption))).elim
          case rest =>
            clear HC20
            try clear c1
            try clear c2
            try clear p2
            try clear c3
            try clear c12
            try clear c21
            try clear c22
            try clear c24
            try clear c34
            obtain ⟨kq, x79_19, rfl, HA, HJ19, HO_216000, BK207, BK208, BK215, HB⟩ := hcut
            cases kq with
            | zero => exact absurd HA.out (by simp [scrimlaw13_ResHides.j1])
            | succ kj19 =>
              have H := HA.out
              clear HA
              simp only [scrimlaw13_ResHides.j1] at H
              by_cases c94 : x79_19 = true
              · subst c94
                have H1 : (some false) = some r := by rw [if_pos rfl] at H; exact H
                clear H
                have H := H1
                clear H1
                obtain rfl := Option.some.inj H
                go_wp2
                go_ret
                exact ⟨by first | rfl | (simp [errW_none, errW_some] <;> rfl) | (simp [*, errW_none, errW_some] <;> rfl), by repeat (first | (with_reducible first | exact HB.out | apply below_alloc | apply pw_below_drewN | apply below_drew1 | refine below_set ?_ GE207.out | refine below_set ?_ GE208.out | refine below_set ?_ GE215.out) | exact HB.out)⟩
              · replace c94 := Bool.eq_false_iff.mpr c94
                subst c94
                have H1 : ((res_Alike.f kj19 l0_0 a0_1 a0_2 l1_0 a1_1 a1_2).bind fun t241 => (if t241 = true then ((res_Size.f l1_0 a1_1 a1_2 a2).bind fun bt243 => (if t216 = bt243.1 then (if t217 = bt243.2.1 then (if (t218 == bt243.2.2) = true then ((res_Advance.f l0_0 a0_1 a0_2).bind fun t246 => ((res_Advance.f l1_0 a1_1 a1_2).bind fun t247 => (if t246 = t247 then ((res_Alike.f kj19 l1_0 a1_1 a1_2 l0_0 a0_1 a0_2).bind fun t248 => (some t248)) else (some false)))) else (some false)) else (some false)) else (some false))) else ((res_Alike.f kj19 l1_0 a1_1 a1_2 l0_0 a0_1 a0_2).bind fun t242 => (some (!t242))))) = some r := by rw [if_neg (show ¬ (false = true) by decide)] at H; exact H
                clear H
                have H := H1
                clear H1
                replace H := Option.bind_eq_some_iff.mp H
                obtain ⟨t241, A950, H⟩ := H
                replace H : (if t241 = true then ((res_Size.f l1_0 a1_1 a1_2 a2).bind fun bt243 => (if t216 = bt243.1 then (if t217 = bt243.2.1 then (if (t218 == bt243.2.2) = true then ((res_Advance.f l0_0 a0_1 a0_2).bind fun t246 => ((res_Advance.f l1_0 a1_1 a1_2).bind fun t247 => (if t246 = t247 then ((res_Alike.f kj19 l1_0 a1_1 a1_2 l0_0 a0_1 a0_2).bind fun t248 => (some t248)) else (some false)))) else (some false)) else (some false)) else (some false))) else ((res_Alike.f kj19 l1_0 a1_1 a1_2 l0_0 a0_1 a0_2).bind fun t242 => (some (!t242)))) = some r := H
                have A95 := Aside0.mk A950
                clear A950
                by_cases c96 : t241 = true
                · subst c96
                  have H1 : ((res_Size.f l1_0 a1_1 a1_2 a2).bind fun bt243 => (if t216 = bt243.1 then (if t217 = bt243.2.1 then (if (t218 == bt243.2.2) = true then ((res_Advance.f l0_0 a0_1 a0_2).bind fun t246 => ((res_Advance.f l1_0 a1_1 a1_2).bind fun t247 => (if t246 = t247 then ((res_Alike.f kj19 l1_0 a1_1 a1_2 l0_0 a0_1 a0_2).bind fun t248 => (some t248)) else (some false)))) else (some false)) else (some false)) else (some false))) = some r := by rw [if_pos rfl] at H; exact H
                  clear H
                  have H := H1
                  clear H1
                  replace H := Option.bind_eq_some_iff.mp H
                  obtain ⟨⟨t243, t244, t245⟩, A970, H⟩ := H
                  replace H : (if t216 = t243 then (if t217 = t244 then (if (t218 == t245) = true then ((res_Advance.f l0_0 a0_1 a0_2).bind fun t246 => ((res_Advance.f l1_0 a1_1 a1_2).bind fun t247 => (if t246 = t247 then ((res_Alike.f kj19 l1_0 a1_1 a1_2 l0_0 a0_1 a0_2).bind fun t248 => (some t248)) else (some false)))) else (some false)) else (some false)) else (some false)) = some r := H
                  have A97 := Aside0.mk A970
                  clear A970
                  by_cases c98 : t216 = t243
                  · rw [if_pos c98] at H
                    have c98b0 : (t216 == t243) = true := beq_iff_eq.mpr c98
                    have c98b1 : (t216 != t243) = false := bne_eq_false_iff_eq.mpr c98
                    clear c98
                    by_cases c99 : t217 = t244
                    · rw [if_pos c99] at H
                      have c99b0 : (t217 == t244) = true := beq_iff_eq.mpr c99
                      have c99b1 : (t217 != t244) = false := bne_eq_false_iff_eq.mpr c99
                      clear c99
                      by_cases c100 : (t218 == t245) = true
                      · rw [if_pos c100] at H
                        have c100b0 : (t218 == t245) = true := c100
                        (try (have c100b1 : decide (t218 = t245) = true := by simpa using c100))
                        (try (have c100b2 : (t218 == t245) = true := by simpa using c100))
                        clear c100
                        replace H := Option.bind_eq_some_iff.mp H
                        obtain ⟨t246, A1010, H⟩ := H
                        replace H : ((res_Advance.f l1_0 a1_1 a1_2).bind fun t247 => (if t246 = t247 then ((res_Alike.f kj19 l1_0 a1_1 a1_2 l0_0 a0_1 a0_2).bind fun t248 => (some t248)) else (some false))) = some r := H
                        have A101 := Aside0.mk A1010
                        clear A1010
                        replace H := Option.bind_eq_some_iff.mp H
                        obtain ⟨t247, A1020, H⟩ := H
                        replace H : (if t246 = t247 then ((res_Alike.f kj19 l1_0 a1_1 a1_2 l0_0 a0_1 a0_2).bind fun t248 => (some t248)) else (some false)) = some r := H
                        have A102 := Aside0.mk A1020
                        clear A1020
                        by_cases c103 : t246 = t247
                        · rw [if_pos c103] at H
                          have c103b0 : (t246 == t247) = true := beq_iff_eq.mpr c103
                          have c103b1 : (t246 != t247) = false := bne_eq_false_iff_eq.mpr c103
                          clear c103
                          replace H := Option.bind_eq_some_iff.mp H
                          obtain ⟨t248, A1040, H⟩ := H
                          replace H : (some t248) = some r := H
                          have A104 := Aside0.mk A1040
                          clear A1040
                          obtain rfl := Option.some.inj H
                          have hnb105 := NB207_208.out
                          have hnc105 := NB208_207.out
                          have hnb106 := NB207_215.out
                          have hnc106 := NB215_207.out
                          have hcz107_0 : wc.cell? ⟨gb207, 0, none⟩ = some (.slice A0_0 l0_0.length c0_0) := (blk_cell BK207.out 0).trans rfl
                          have hcz107_1 : wc.cell? ⟨gb207, 1, none⟩ = some (.int .i64 a0_1) := (blk_cell BK207.out 1).trans rfl
                          have hcz107_2 : wc.cell? ⟨gb207, 2, none⟩ = some (.bool a0_2) := (blk_cell BK207.out 2).trans rfl
                          have hfz107_0 := blk_frozen BK207.out 0
                          have hfz107_1 := blk_frozen BK207.out 1
                          have hfz107_2 := blk_frozen BK207.out 2
                          have hnb108 := NB208_215.out
                          have hnc108 := NB215_208.out
                          have hcz109_0 : wc.cell? ⟨gb208, 0, none⟩ = some (.slice A1_0 l1_0.length c1_0) := (blk_cell BK208.out 0).trans rfl
                          have hcz109_1 : wc.cell? ⟨gb208, 1, none⟩ = some (.int .i64 a1_1) := (blk_cell BK208.out 1).trans rfl
                          have hcz109_2 : wc.cell? ⟨gb208, 2, none⟩ = some (.bool a1_2) := (blk_cell BK208.out 2).trans rfl
                          have hfz109_0 := blk_frozen BK208.out 0
                          have hfz109_1 := blk_frozen BK208.out 1
                          have hfz109_2 := blk_frozen BK208.out 2
                          try go_wp2_with (first | ((with_reducible refine gate_callee (f := 24) rfl ?_); refine goesL_ (some 82) rfl rfl Try.func24 (by kernel_rfl) rfl #[.agg #[.slice A0_0 l0_0.length c0_0, .int .i64 a0_1, .bool a0_2], .agg #[.slice A1_0 l1_0.length c1_0, .int .i64 a1_1, .bool a1_2]] rfl (by (try simp only [List.map_toArray, List.map_cons, List.map_nil]); first | done | rfl | (simp only [List.length_drop, List.length_take]; rfl)) ?_; (with_reducible refine (res_Alike.calls kj19 _ _ l0_0 a0_1 a0_2 _ _ l1_0 a1_1 a1_2 true _ ?side1 ?side2 ?side3 ?side4 A95.out).mono ?_); (case side1 => repeat (first | exact (Kd.C_below HR0_0.out HB.out) | (with_reducible refine Kd.C_alloc ?_ _) | (with_reducible refine Kd.C_drewN ?_ _) | (with_reducible refine Kd.C_drew ?_))); (case side2 => exact HC0_0.out); (case side3 => repeat (first | exact (Kd.C_below HR1_0.out HB.out) | (with_reducible refine Kd.C_alloc ?_ _) | (with_reducible refine Kd.C_drewN ?_ _) | (with_reducible refine Kd.C_drew ?_))); (case side4 => exact HC1_0.out); rintro e w110 ⟨rfl, hb⟩; refine ⟨_, rfl, ?_⟩; have n0_ := Aside0.mk (Kd.R_below (by (with_reducible repeat (first | apply Kd.R_alloc | apply Kd.R_drewN | apply Kd.R_drew)); exact HO_216000.out) hb); have n1_ := Aside0.mk (blk_below (g := gb207) (o := .cells #[.slice A0_0 l0_0.length c0_0, .int .i64 a0_1, .bool a0_2] 26 (0, 0)) (by (with_reducible repeat (first | refine blk_drewN ?_ _ | refine blk_drew ?_ | refine blk_alloc ?_ _)); exact BK207.out) hb); have n2_ := Aside0.mk (blk_below (g := gb208) (o := .cells #[.slice A1_0 l1_0.length c1_0, .int .i64 a1_1, .bool a1_2] 26 (0, 0)) (by (with_reducible repeat (first | refine blk_drewN ?_ _ | refine blk_drew ?_ | refine blk_alloc ?_ _)); exact BK208.out) hb); have n3_ := Aside0.mk (blk_below (g := gb215) (o := .cells #[.slice Ao25 t210.length co25, .int .i64 t213, .bool t214] 26 (0, 0)) (by (with_reducible repeat (first | refine blk_drewN ?_ _ | refine blk_drew ?_ | refine blk_alloc ?_ _)); exact BK215.out) hb); have n4_ := Aside0.mk (below_step (by repeat (first | (with_reducible first | exact HB.out | apply below_alloc | apply pw_below_drewN | apply below_drew1 | refine below_set ?_ GE207.out | refine below_set ?_ GE208.out | refine below_set ?_ GE215.out) | exact HB.out)) hb); clear HO_216000; clear BK207; clear BK208; clear BK215; clear HB; have HO_216000 := n0_; have BK207 := n1_; have BK208 := n2_; have BK215 := n3_; have HB := n4_; clear n0_ n1_ n2_ n3_ n4_; (try clear hb); (try clear hb2); (try clear hk); (try clear hi); have hcz111_0 : w110.cell? ⟨gb208, 0, none⟩ = some (.slice A1_0 l1_0.length c1_0) := (blk_cell BK208.out 0).trans rfl; have hcz111_1 : w110.cell? ⟨gb208, 1, none⟩ = some (.int .i64 a1_1) := (blk_cell BK208.out 1).trans rfl; have hcz111_2 : w110.cell? ⟨gb208, 2, none⟩ = some (.bool a1_2) := (blk_cell BK208.out 2).trans rfl; have hfz111_0 := blk_frozen BK208.out 0; have hfz111_1 := blk_frozen BK208.out 1; have hfz111_2 := blk_frozen BK208.out 2) | ((with_reducible refine gate_callee (f := 13) rfl ?_); refine goesL_ (some 91) rfl rfl Try.func13 (by kernel_rfl) rfl #[.agg #[.slice A1_0 l1_0.length c1_0, .int .i64 a1_1, .bool a1_2], .string a2] rfl (by (try simp only [List.map_toArray, List.map_cons, List.map_nil]); first | done | rfl | (simp only [List.length_drop, List.length_take]; rfl)) ?_; (with_reducible refine (res_Size.calls _ _ l1_0 a1_1 a1_2 a2 t243 t244 t245 _ ?side1 ?side2 A97.out).mono ?_); (case side1 => repeat (first | exact (Kd.C_below HR1_0.out HB.out) | (with_reducible refine Kd.C_alloc ?_ _) | (with_reducible refine Kd.C_drewN ?_ _) | (with_reducible refine Kd.C_drew ?_))); (case side2 => exact HC1_0.out); rintro e w112 ⟨rfl, hb⟩; refine ⟨_, rfl, ?_⟩; have n0_ := Aside0.mk (Kd.R_below (by (with_reducible repeat (first | apply Kd.R_alloc | apply Kd.R_drewN | apply Kd.R_drew)); exact HO_216000.out) hb); have n1_ := Aside0.mk (blk_below (g := gb207) (o := .cells #[.slice A0_0 l0_0.length c0_0, .int .i64 a0_1, .bool a0_2] 26 (0, 0)) (by (with_reducible repeat (first | refine blk_drewN ?_ _ | refine blk_drew ?_ | refine blk_alloc ?_ _)); exact BK207.out) hb); have n2_ := Aside0.mk (blk_below (g := gb208) (o := .cells #[.slice A1_0 l1_0.length c1_0, .int .i64 a1_1, .bool a1_2] 26 (0, 0)) (by (with_reducible repeat (first | refine blk_drewN ?_ _ | refine blk_drew ?_ | refine blk_alloc ?_ _)); exact BK208.out) hb); have n3_ := Aside0.mk (blk_below (g := gb215) (o := .cells #[.slice Ao25 t210.length co25, .int .i64 t213, .bool t214] 26 (0, 0)) (by (with_reducible repeat (first | refine blk_drewN ?_ _ | refine blk_drew ?_ | refine blk_alloc ?_ _)); exact BK215.out) hb); have n4_ := Aside0.mk (below_step (by repeat (first | (with_reducible first | exact HB.out | apply below_alloc | apply pw_below_drewN | apply below_drew1 | refine below_set ?_ GE207.out | refine below_set ?_ GE208.out | refine below_set ?_ GE215.out) | exact HB.out)) hb); clear HO_216000; clear BK207; clear BK208; clear BK215; clear HB; have HO_216000 := n0_; have BK207 := n1_; have BK208 := n2_; have BK215 := n3_; have HB := n4_; clear n0_ n1_ n2_ n3_ n4_; (try clear hb); (try clear hb2); (try clear hk); (try clear hi)))
                          have n0_ := Aside0.mk (Kd.R_drew HO_216000.out)
                          have n1_ := Aside0.mk (blk_drew BK207.out)
                          have n2_ := Aside0.mk (blk_drew BK208.out)
                          have n3_ := Aside0.mk (blk_drew BK215.out)
                          have n4_ := Aside0.mk (below_drew1 HB.out)
                          clear HO_216000
                          clear BK207
                          clear BK208
                          clear BK215
                          clear HB
                          have HO_216000 := n0_
                          have BK207 := n1_
                          have BK208 := n2_
                          have BK215 := n3_
                          have HB := n4_
                          clear n0_ n1_ n2_ n3_ n4_
                          refine start_ (n := 26) (S := fun w' => w'.cell? ⟨gb207, 0, none⟩ = some (.slice A0_0 l0_0.length c0_0) ∧ w'.cell? ⟨gb207, 1, none⟩ = some (.int .i64 a0_1) ∧ w'.cell? ⟨gb207, 2, none⟩ = some (.bool a0_2) ∧ w'.cell? ⟨gb208, 0, none⟩ = some (.slice A1_0 l1_0.length c1_0) ∧ w'.cell? ⟨gb208, 1, none⟩ = some (.int .i64 a1_1) ∧ w'.cell? ⟨gb208, 2, none⟩ = some (.bool a1_2)) (ds := []) #[false, false, false, false, false, false, false, false, false, false, false, false, false, false, false, false, false, false, false, false, false, false, false, false, false, false] (by kernel_rfl) rfl rfl ⟨(blk_cell BK207.out 0).trans rfl, (blk_cell BK207.out 1).trans rfl, (blk_cell BK207.out 2).trans rfl, (blk_cell BK208.out 0).trans rfl, (blk_cell BK208.out 1).trans rfl, (blk_cell BK208.out 2).trans rfl⟩ (fun hHeld => ?_); refine with_tabW scrimlaw13_ResHides.tab13 scrimlaw13_ResHides.bits13 (fun HT_ HW_ => ?_)
                          generalize w112.drew = w113 at HO_216000 BK207 BK208 BK215 HB hHeld ⊢
                          refine pure_ (i := 0) (N := some 95) (v := ?_) (a' := ?_) #[true, false, false, false, false, false, false, false, false, false, false, false, false, false, false, false, false, false, false, false, false, false, false, false, false, false] rfl rfl (any_of HT_.out (by kernel_rfl)) (fun _ _ _ h => h) (Or.inl ⟨by rfl, ?_⟩) ?_ ?_
                          rotate_left
                          · intro w'
                            go_simp
                            with_reducible rfl
                          rotate_left
                          · simp only [Act.put, List.setIfInBounds_toArray, List.set_cons_zero, List.set_cons_succ, i64_w, i32_w]
                            rfl
                          refine pure_ (i := 1) (N := some 96) (v := ?_) (a' := ?_) #[true, true, false, false, false, false, false, false, false, false, false, false, false, false, false, false, false, false, false, false, false, false, false, false, false, false] rfl rfl (any_of HT_.out (by kernel_rfl)) (fun _ _ _ h => h) (Or.inl ⟨by rfl, ?_⟩) ?_ ?_
                          rotate_left
                          · intro w'
                            go_simp
                            with_reducible rfl
                          rotate_left
                          · simp only [Act.put, List.setIfInBounds_toArray, List.set_cons_zero, List.set_cons_succ, i64_w, i32_w]
                            rfl
                          refine pure_ (i := 2) (N := some 97) (v := ?_) (a' := ?_) #[true, true, true, false, false, false, false, false, false, false, false, false, false, false, false, false, false, false, false, false, false, false, false, false, false, false] rfl rfl (any_of HT_.out (by kernel_rfl)) (fun _ _ _ h => h) (Or.inl ⟨by rfl, ?_⟩) ?_ ?_
                          rotate_left
                          · intro w'
                            go_simp
                            with_reducible rfl
                          rotate_left
                          · simp only [Act.put, List.setIfInBounds_toArray, List.set_cons_zero, List.set_cons_succ, i64_w, i32_w]
                            rfl
                          refine pure_ (i := 3) (N := some 98) (v := ?_) (a' := ?_) #[true, true, true, true, false, false, false, false, false, false, false, false, false, false, false, false, false, false, false, false, false, false, false, false, false, false] rfl rfl (any_of HT_.out (by kernel_rfl)) (fun _ _ _ h => h) (Or.inl ⟨by rfl, ?_⟩) ?_ ?_
                          rotate_left
                          · intro w'
                            go_simp
                            with_reducible rfl
                          rotate_left
                          · simp only [Act.put, List.setIfInBounds_toArray, List.set_cons_zero, List.set_cons_succ, i64_w, i32_w]
                            rfl
                          refine pure_ (i := 4) (N := some 99) (v := ?_) (a' := ?_) #[true, true, true, true, true, false, false, false, false, false, false, false, false, false, false, false, false, false, false, false, false, false, false, false, false, false] rfl rfl (any_of HT_.out (by kernel_rfl)) (fun _ _ _ h => h) (Or.inl ⟨by rfl, ?_⟩) ?_ ?_
                          rotate_left
                          · intro w'
                            go_simp
                            with_reducible rfl
                          rotate_left
                          · simp only [Act.put, List.setIfInBounds_toArray, List.set_cons_zero, List.set_cons_succ, i64_w, i32_w]
                            rfl
                          refine pure_ (i := 5) (N := some 100) (v := ?_) (a' := ?_) #[true, true, true, true, true, true, false, false, false, false, false, false, false, false, false, false, false, false, false, false, false, false, false, false, false, false] rfl rfl (any_of HT_.out (by kernel_rfl)) (fun _ _ _ h => h) (Or.inl ⟨by rfl, ?_⟩) ?_ ?_
                          rotate_left
                          · intro w'
                            go_simp
                            with_reducible rfl
                          rotate_left
                          · simp only [Act.put, List.setIfInBounds_toArray, List.set_cons_zero, List.set_cons_succ, i64_w, i32_w]
                            rfl
                          refine pure_ (i := 6) (N := some 101) (v := ?_) (a' := ?_) #[true, true, true, true, true, true, true, false, false, false, false, false, false, false, false, false, false, false, false, false, false, false, false, false, false, false] rfl rfl (any_of HT_.out (by kernel_rfl)) (fun _ _ _ h => h) (Or.inl ⟨by rfl, ?_⟩) ?_ ?_
                          rotate_left
                          · intro w'
                            go_simp
                            with_reducible rfl
                          rotate_left
                          · simp only [Act.put, List.setIfInBounds_toArray, List.set_cons_zero, List.set_cons_succ, i64_w, i32_w]
                            rfl
                          refine pure_ (i := 7) (N := some 102) (v := ?_) (a' := ?_) #[true, true, true, true, true, true, true, true, false, false, false, false, false, false, false, false, false, false, false, false, false, false, false, false, false, false] rfl rfl (any_of HT_.out (by kernel_rfl)) (fun _ _ _ h => h) (Or.inl ⟨by rfl, ?_⟩) ?_ ?_
                          rotate_left
                          · intro w'
                            go_simp
                            with_reducible rfl
                          rotate_left
                          · simp only [Act.put, List.setIfInBounds_toArray, List.set_cons_zero, List.set_cons_succ, i64_w, i32_w]
                            rfl
                          refine pure_ (i := 8) (N := some 103) (v := ?_) (a' := ?_) #[true, true, true, true, true, true, true, true, true, false, false, false, false, false, false, false, false, false, false, false, false, false, false, false, false, false] rfl rfl (any_of HT_.out (by kernel_rfl)) (fun _ _ _ h => h) (Or.inl ⟨by rfl, ?_⟩) ?_ ?_
                          rotate_left
                          · intro w'
                            go_simp
                            with_reducible rfl
                          rotate_left
                          · simp only [Act.put, List.setIfInBounds_toArray, List.set_cons_zero, List.set_cons_succ, i64_w, i32_w]
                            rfl
                          refine pure_ (i := 9) (N := some 104) (v := ?_) (a' := ?_) #[true, true, true, true, true, true, true, true, true, true, false, false, false, false, false, false, false, false, false, false, false, false, false, false, false, false] rfl rfl (any_of HT_.out (by kernel_rfl)) (fun _ _ _ h => h) (Or.inl ⟨by rfl, ?_⟩) ?_ ?_
                          rotate_left
                          · intro w'
                            go_simp
                            with_reducible rfl
                          rotate_left
                          · simp only [Act.put, List.setIfInBounds_toArray, List.set_cons_zero, List.set_cons_succ, i64_w, i32_w]
                            rfl
                          refine pure_ (i := 10) (N := some 105) (v := ?_) (a' := ?_) #[true, true, true, true, true, true, true, true, true, true, true, false, false, false, false, false, false, false, false, false, false, false, false, false, false, false] rfl rfl (any_of HT_.out (by kernel_rfl)) (fun _ _ _ h => h) (Or.inl ⟨by rfl, ?_⟩) ?_ ?_
                          rotate_left
                          · intro w'
                            go_simp
                            with_reducible rfl
                          rotate_left
                          · simp only [Act.put, List.setIfInBounds_toArray, List.set_cons_zero, List.set_cons_succ, i64_w, i32_w]
                            rfl
                          refine pure_ (i := 11) (N := some 106) (v := ?_) (a' := ?_) #[true, true, true, true, true, true, true, true, true, true, true, true, false, false, false, false, false, false, false, false, false, false, false, false, false, false] rfl rfl (any_of HT_.out (by kernel_rfl)) (fun _ _ _ h => h) (Or.inl ⟨by rfl, ?_⟩) ?_ ?_
                          rotate_left
                          · intro w'
                            go_simp
                            with_reducible rfl
                          rotate_left
                          · simp only [Act.put, List.setIfInBounds_toArray, List.set_cons_zero, List.set_cons_succ, i64_w, i32_w]
                            rfl
                          refine pure_ (i := 12) (N := some 107) (v := ?_) (a' := ?_) #[true, true, true, true, true, true, true, true, true, true, true, true, true, false, false, false, false, false, false, false, false, false, false, false, false, false] rfl rfl (any_of HT_.out (by kernel_rfl)) (fun _ _ _ h => h) (Or.inl ⟨by rfl, ?_⟩) ?_ ?_
                          rotate_left
                          · intro w'
                            go_simp
                            with_reducible rfl
                          rotate_left
                          · simp only [Act.put, List.setIfInBounds_toArray, List.set_cons_zero, List.set_cons_succ, i64_w, i32_w]
                            rfl
                          refine pure_ (i := 13) (N := some 108) (v := ?_) (a' := ?_) #[true, true, true, true, true, true, true, true, true, true, true, true, true, true, false, false, false, false, false, false, false, false, false, false, false, false] rfl rfl (any_of HT_.out (by kernel_rfl)) (fun _ _ _ h => h) (Or.inl ⟨by rfl, ?_⟩) ?_ ?_
                          rotate_left
                          · intro w'
                            go_simp
                            with_reducible rfl
                          rotate_left
                          · simp only [Act.put, List.setIfInBounds_toArray, List.set_cons_zero, List.set_cons_succ, i64_w, i32_w]
                            rfl
                          refine take_ (i := 14) (N := some 109) (v := ?_) (a' := ?_) #[true, true, true, true, true, true, true, true, true, true, true, true, true, true, true, false, false, false, false, false, false, false, false, false, false, false] rfl rfl (take_ofW HT_.out HW_.out (by kernel_rfl)) (fun _ _ _ h => h) (Or.inl ⟨by rfl, ?_⟩) hHeld ?_ ?_
                          rotate_left
                          · rintro w' ⟨s0, s1, s2, s3, s4, s5⟩
                            go_simp
                            with_reducible rfl
                          rotate_left
                          · simp only [Act.put, List.setIfInBounds_toArray, List.set_cons_zero, List.set_cons_succ, i64_w, i32_w]
                            rfl
                          refine take_ (i := 16) (N := some 111) (v := ?_) (a' := ?_) #[true, true, true, true, true, true, true, true, true, true, true, true, true, true, true, false, true, false, false, false, false, false, false, false, false, false] rfl rfl (take_ofW HT_.out HW_.out (by kernel_rfl)) (fun _ _ _ h => h) (Or.inl ⟨by rfl, ?_⟩) hHeld ?_ ?_
                          rotate_left
                          · rintro w' ⟨s0, s1, s2, s3, s4, s5⟩
                            go_simp
                            with_reducible rfl
                          rotate_left
                          · simp only [Act.put, List.setIfInBounds_toArray, List.set_cons_zero, List.set_cons_succ, i64_w, i32_w]
                            rfl
                          refine one_ (i := 15) (N := some 110) #[true, true, true, true, true, true, true, true, true, true, true, true, true, true, true, true, true, false, false, false, false, false, false, false, false, false] rfl rfl (one_of HT_.out (by kernel_rfl)) (by decide) (fun K hK => ?_)
                          refine goes_ Try.func19 (by kernel_rfl) rfl #[.agg #[.slice A0_0 l0_0.length c0_0, .int .i64 a0_1, .bool a0_2]] (by rfl) rfl rfl (by (try simp only [List.map_toArray, List.map_cons, List.map_nil]); first | done | rfl | (simp only [List.length_drop, List.length_take]; rfl)) ?_
                          with_reducible refine (res_Advance.calls _ _ l0_0 a0_1 a0_2 t246 _ ?side1 ?side2 A101.out).mono ?_
                          (case side1 => repeat (first | exact (Kd.C_below HR0_0.out HB.out) | (with_reducible refine Kd.C_alloc ?_ _) | (with_reducible refine Kd.C_drewN ?_ _) | (with_reducible refine Kd.C_drew ?_)))
                          (case side2 => exact HC0_0.out)
                          rintro e w114 ⟨rfl, hb⟩
                          refine ⟨_, rfl, ?_⟩
                          have n0_ := Aside0.mk (Kd.R_below (by (with_reducible repeat (first | apply Kd.R_alloc | apply Kd.R_drewN | apply Kd.R_drew)); exact HO_216000.out) hb)
                          have n1_ := Aside0.mk (blk_below (g := gb207) (o := .cells #[.slice A0_0 l0_0.length c0_0, .int .i64 a0_1, .bool a0_2] 26 (0, 0)) (by (with_reducible repeat (first | refine blk_drewN ?_ _ | refine blk_drew ?_ | refine blk_alloc ?_ _)); exact BK207.out) hb)
                          have n2_ := Aside0.mk (blk_below (g := gb208) (o := .cells #[.slice A1_0 l1_0.length c1_0, .int .i64 a1_1, .bool a1_2] 26 (0, 0)) (by (with_reducible repeat (first | refine blk_drewN ?_ _ | refine blk_drew ?_ | refine blk_alloc ?_ _)); exact BK208.out) hb)
                          have n3_ := Aside0.mk (blk_below (g := gb215) (o := .cells #[.slice Ao25 t210.length co25, .int .i64 t213, .bool t214] 26 (0, 0)) (by (with_reducible repeat (first | refine blk_drewN ?_ _ | refine blk_drew ?_ | refine blk_alloc ?_ _)); exact BK215.out) hb)
                          have n4_ := Aside0.mk (below_step (by repeat (first | (with_reducible first | exact HB.out | apply below_alloc | apply pw_below_drewN | apply below_drew1 | refine below_set ?_ GE207.out | refine below_set ?_ GE208.out | refine below_set ?_ GE215.out) | exact HB.out)) hb)
                          clear HO_216000
                          clear BK207
                          clear BK208
                          clear BK215
                          clear HB
                          have HO_216000 := n0_
                          have BK207 := n1_
                          have BK208 := n2_
                          have BK215 := n3_
                          have HB := n4_
                          clear n0_ n1_ n2_ n3_ n4_
                          (try clear hb)
                          (try clear hb2)
                          (try clear hk)
                          (try clear hi)
                          refine hK.out _ _ ⟨(blk_cell BK207.out 0).trans rfl, (blk_cell BK207.out 1).trans rfl, (blk_cell BK207.out 2).trans rfl, (blk_cell BK208.out 0).trans rfl, (blk_cell BK208.out 1).trans rfl, (blk_cell BK208.out 2).trans rfl⟩ (fun hHeld => ?_)
                          clear hK K
                          refine norm_ (a' := ?_) ?_ ?_
                          rotate_left
                          · show Act.put _ (some 110) _ = _
                            simp only [Act.put, List.setIfInBounds_toArray, List.set_cons_zero, List.set_cons_succ, i64_w, i32_w]
                            rfl
                          refine one_ (i := 17) (N := some 112) #[true, true, true, true, true, true, true, true, true, true, true, true, true, true, true, true, true, true, false, false, false, false, false, false, false, false] rfl rfl (one_of HT_.out (by kernel_rfl)) (by decide) (fun K hK => ?_)
                          refine goes_ Try.func19 (by kernel_rfl) rfl #[.agg #[.slice A1_0 l1_0.length c1_0, .int .i64 a1_1, .bool a1_2]] (by rfl) rfl rfl (by (try simp only [List.map_toArray, List.map_cons, List.map_nil]); first | done | rfl | (simp only [List.length_drop, List.length_take]; rfl)) ?_
                          with_reducible refine (res_Advance.calls _ _ l1_0 a1_1 a1_2 t247 _ ?side1 ?side2 A102.out).mono ?_
                          (case side1 => repeat (first | exact (Kd.C_below HR1_0.out HB.out) | (with_reducible refine Kd.C_alloc ?_ _) | (with_reducible refine Kd.C_drewN ?_ _) | (with_reducible refine Kd.C_drew ?_)))
                          (case side2 => exact HC1_0.out)
                          rintro e w115 ⟨rfl, hb⟩
                          refine ⟨_, rfl, ?_⟩
                          have n0_ := Aside0.mk (Kd.R_below (by (with_reducible repeat (first | apply Kd.R_alloc | apply Kd.R_drewN | apply Kd.R_drew)); exact HO_216000.out) hb)
                          have n1_ := Aside0.mk (blk_below (g := gb207) (o := .cells #[.slice A0_0 l0_0.length c0_0, .int .i64 a0_1, .bool a0_2] 26 (0, 0)) (by (with_reducible repeat (first | refine blk_drewN ?_ _ | refine blk_drew ?_ | refine blk_alloc ?_ _)); exact BK207.out) hb)
                          have n2_ := Aside0.mk (blk_below (g := gb208) (o := .cells #[.slice A1_0 l1_0.length c1_0, .int .i64 a1_1, .bool a1_2] 26 (0, 0)) (by (with_reducible repeat (first | refine blk_drewN ?_ _ | refine blk_drew ?_ | refine blk_alloc ?_ _)); exact BK208.out) hb)
                          have n3_ := Aside0.mk (blk_below (g := gb215) (o := .cells #[.slice Ao25 t210.length co25, .int .i64 t213, .bool t214] 26 (0, 0)) (by (with_reducible repeat (first | refine blk_drewN ?_ _ | refine blk_drew ?_ | refine blk_alloc ?_ _)); exact BK215.out) hb)
                          have n4_ := Aside0.mk (below_step (by repeat (first | (with_reducible first | exact HB.out | apply below_alloc | apply pw_below_drewN | apply below_drew1 | refine below_set ?_ GE207.out | refine below_set ?_ GE208.out | refine below_set ?_ GE215.out) | exact HB.out)) hb)
                          clear HO_216000
                          clear BK207
                          clear BK208
                          clear BK215
                          clear HB
                          have HO_216000 := n0_
                          have BK207 := n1_
                          have BK208 := n2_
                          have BK215 := n3_
                          have HB := n4_
                          clear n0_ n1_ n2_ n3_ n4_
                          (try clear hb)
                          (try clear hb2)
                          (try clear hk)
                          (try clear hi)
                          refine hK.out _ _ ⟨(blk_cell BK207.out 0).trans rfl, (blk_cell BK207.out 1).trans rfl, (blk_cell BK207.out 2).trans rfl, (blk_cell BK208.out 0).trans rfl, (blk_cell BK208.out 1).trans rfl, (blk_cell BK208.out 2).trans rfl⟩ (fun hHeld => ?_)
                          clear hK K
                          refine norm_ (a' := ?_) ?_ ?_
                          rotate_left
                          · show Act.put _ (some 112) _ = _
                            simp only [Act.put, List.setIfInBounds_toArray, List.set_cons_zero, List.set_cons_succ, i64_w, i32_w]
                            rfl
                          refine pure_ (i := 18) (N := some 113) (v := ?_) (a' := ?_) #[true, true, true, true, true, true, true, true, true, true, true, true, true, true, true, true, true, true, true, false, false, false, false, false, false, false] rfl rfl (any_of HT_.out (by kernel_rfl)) (fun _ _ _ h => h) (Or.inl ⟨by rfl, ?_⟩) ?_ ?_
                          rotate_left
                          · intro w'
                            go_simp
                            with_reducible rfl
                          rotate_left
                          · simp only [Act.put, List.setIfInBounds_toArray, List.set_cons_zero, List.set_cons_succ, i64_w, i32_w]
                            rfl
                          refine pure_ (i := 19) (N := some 114) (v := ?_) (a' := ?_) #[true, true, true, true, true, true, true, true, true, true, true, true, true, true, true, true, true, true, true, true, false, false, false, false, false, false] rfl rfl (any_of HT_.out (by kernel_rfl)) (fun _ _ _ h => h) (Or.inl ⟨by rfl, ?_⟩) ?_ ?_
                          rotate_left
                          · intro w'
                            go_simp
                            with_reducible rfl
                          rotate_left
                          · simp only [Act.put, List.setIfInBounds_toArray, List.set_cons_zero, List.set_cons_succ, i64_w, i32_w]
                            rfl
                          refine pure_ (i := 20) (N := some 115) (v := ?_) (a' := ?_) #[true, true, true, true, true, true, true, true, true, true, true, true, true, true, true, true, true, true, true, true, true, false, false, false, false, false] rfl rfl (any_of HT_.out (by kernel_rfl)) (fun _ _ _ h => h) (Or.inl ⟨by rfl, ?_⟩) ?_ ?_
                          rotate_left
                          · intro w'
                            go_simp
                            with_reducible rfl
                          rotate_left
                          · simp only [Act.put, List.setIfInBounds_toArray, List.set_cons_zero, List.set_cons_succ, i64_w, i32_w]
                            rfl
                          refine take_ (i := 21) (N := some 116) (v := ?_) (a' := ?_) #[true, true, true, true, true, true, true, true, true, true, true, true, true, true, true, true, true, true, true, true, true, true, false, false, false, false] rfl rfl (take_ofW HT_.out HW_.out (by kernel_rfl)) (fun _ _ _ h => h) (Or.inl ⟨by rfl, ?_⟩) hHeld ?_ ?_
                          rotate_left
                          · rintro w' ⟨s0, s1, s2, s3, s4, s5⟩
                            go_simp
                            with_reducible rfl
                          rotate_left
                          · simp only [Act.put, List.setIfInBounds_toArray, List.set_cons_zero, List.set_cons_succ, i64_w, i32_w]
                            rfl
                          refine take_ (i := 22) (N := some 117) (v := ?_) (a' := ?_) #[true, true, true, true, true, true, true, true, true, true, true, true, true, true, true, true, true, true, true, true, true, true, true, false, false, false] rfl rfl (take_ofW HT_.out HW_.out (by kernel_rfl)) (fun _ _ _ h => h) (Or.inl ⟨by rfl, ?_⟩) hHeld ?_ ?_
                          rotate_left
                          · rintro w' ⟨s0, s1, s2, s3, s4, s5⟩
                            go_simp
                            with_reducible rfl
                          rotate_left
                          · simp only [Act.put, List.setIfInBounds_toArray, List.set_cons_zero, List.set_cons_succ, i64_w, i32_w]
                            rfl
                          refine one_ (i := 23) (N := some 118) #[true, true, true, true, true, true, true, true, true, true, true, true, true, true, true, true, true, true, true, true, true, true, true, true, false, false] rfl rfl (one_of HT_.out (by kernel_rfl)) (by decide) (fun K hK => ?_)
                          refine goes_ Try.func24 (by kernel_rfl) rfl #[.agg #[.slice A1_0 l1_0.length c1_0, .int .i64 a1_1, .bool a1_2], .agg #[.slice A0_0 l0_0.length c0_0, .int .i64 a0_1, .bool a0_2]] (by rfl) rfl rfl (by (try simp only [List.map_toArray, List.map_cons, List.map_nil]); first | done | rfl | (simp only [List.length_drop, List.length_take]; rfl)) ?_
                          with_reducible refine (res_Alike.calls kj19 _ _ l1_0 a1_1 a1_2 _ _ l0_0 a0_1 a0_2 t248 _ ?side1 ?side2 ?side3 ?side4 A104.out).mono ?_
                          (case side1 => repeat (first | exact (Kd.C_below HR1_0.out HB.out) | (with_reducible refine Kd.C_alloc ?_ _) | (with_reducible refine Kd.C_drewN ?_ _) | (with_reducible refine Kd.C_drew ?_)))
                          (case side2 => exact HC1_0.out)
                          (case side3 => repeat (first | exact (Kd.C_below HR0_0.out HB.out) | (with_reducible refine Kd.C_alloc ?_ _) | (with_reducible refine Kd.C_drewN ?_ _) | (with_reducible refine Kd.C_drew ?_)))
                          (case side4 => exact HC0_0.out)
                          rintro e w116 ⟨rfl, hb⟩
                          refine ⟨_, rfl, ?_⟩
                          have n0_ := Aside0.mk (Kd.R_below (by (with_reducible repeat (first | apply Kd.R_alloc | apply Kd.R_drewN | apply Kd.R_drew)); exact HO_216000.out) hb)
                          have n1_ := Aside0.mk (blk_below (g := gb207) (o := .cells #[.slice A0_0 l0_0.length c0_0, .int .i64 a0_1, .bool a0_2] 26 (0, 0)) (by (with_reducible repeat (first | refine blk_drewN ?_ _ | refine blk_drew ?_ | refine blk_alloc ?_ _)); exact BK207.out) hb)
                          have n2_ := Aside0.mk (blk_below (g := gb208) (o := .cells #[.slice A1_0 l1_0.length c1_0, .int .i64 a1_1, .bool a1_2] 26 (0, 0)) (by (with_reducible repeat (first | refine blk_drewN ?_ _ | refine blk_drew ?_ | refine blk_alloc ?_ _)); exact BK208.out) hb)
                          have n3_ := Aside0.mk (blk_below (g := gb215) (o := .cells #[.slice Ao25 t210.length co25, .int .i64 t213, .bool t214] 26 (0, 0)) (by (with_reducible repeat (first | refine blk_drewN ?_ _ | refine blk_drew ?_ | refine blk_alloc ?_ _)); exact BK215.out) hb)
                          have n4_ := Aside0.mk (below_step (by repeat (first | (with_reducible first | exact HB.out | apply below_alloc | apply pw_below_drewN | apply below_drew1 | refine below_set ?_ GE207.out | refine below_set ?_ GE208.out | refine below_set ?_ GE215.out) | exact HB.out)) hb)
                          clear HO_216000
                          clear BK207
                          clear BK208
                          clear BK215
                          clear HB
                          have HO_216000 := n0_
                          have BK207 := n1_
                          have BK208 := n2_
                          have BK215 := n3_
                          have HB := n4_
                          clear n0_ n1_ n2_ n3_ n4_
                          (try clear hb)
                          (try clear hb2)
                          (try clear hk)
                          (try clear hi)
                          refine hK.out _ _ ⟨(blk_cell BK207.out 0).trans rfl, (blk_cell BK207.out 1).trans rfl, (blk_cell BK207.out 2).trans rfl, (blk_cell BK208.out 0).trans rfl, (blk_cell BK208.out 1).trans rfl, (blk_cell BK208.out 2).trans rfl⟩ (fun hHeld => ?_)
                          clear hK K
                          refine norm_ (a' := ?_) ?_ ?_
                          rotate_left
                          · show Act.put _ (some 118) _ = _
                            simp only [Act.put, List.setIfInBounds_toArray, List.set_cons_zero, List.set_cons_succ, i64_w, i32_w]
                            rfl
                          refine pure_ (i := 24) (N := some 119) (v := ?_) (a' := ?_) #[true, true, true, true, true, true, true, true, true, true, true, true, true, true, true, true, true, true, true, true, true, true, true, true, true, false] rfl rfl (any_of HT_.out (by kernel_rfl)) (fun _ _ _ h => h) (Or.inl ⟨by rfl, ?_⟩) ?_ ?_
                          rotate_left
                          · intro w'
                            go_simp
                            with_reducible rfl
                          rotate_left
                          · simp only [Act.put, List.setIfInBounds_toArray, List.set_cons_zero, List.set_cons_succ, i64_w, i32_w]
                            rfl
                          refine pure_ (i := 25) (N := some 6) (v := ?_) (a' := ?_) #[true, true, true, true, true, true, true, true, true, true, true, true, true, true, true, true, true, true, true, true, true, true, true, true, true, true] rfl rfl (any_of HT_.out (by kernel_rfl)) (fun _ _ _ h => h) (Or.inl ⟨by rfl, ?_⟩) ?_ ?_
                          rotate_left
                          · intro w'
                            go_simp
                            with_reducible rfl
                          rotate_left
                          · simp only [Act.put, List.setIfInBounds_toArray, List.set_cons_zero, List.set_cons_succ, i64_w, i32_w]
                            rfl
                          refine done_ (done_of HT_.out (by kernel_rfl)) ?_
                          try go_wp2
                          go_ret
                          exact ⟨by first | rfl | (simp [errW_none, errW_some] <;> rfl) | (simp [*, errW_none, errW_some] <;> rfl), by repeat (first | (with_reducible first | exact HB.out | apply below_alloc | apply pw_below_drewN | apply below_drew1 | refine below_set ?_ GE207.out | refine below_set ?_ GE208.out | refine below_set ?_ GE215.out) | exact HB.out)⟩
                        · exact (c103 (no_advs (by assumption) (by assumption) (by assumption))).elim
                      · exact (no_eq c100 (no_sizes (by assumption) (by assumption) (by assumption)).2.2).elim
                    · exact (c99 (no_sizes (by assumption) (by assumption) (by assumption)).2.1).elim
                  · exact (c98 (no_sizes (by assumption) (by assumption) (by assumption)).1).elim
                · replace c96 := Bool.eq_false_iff.mpr c96
                  subst c96
                  have H1 : ((res_Alike.f kj19 l1_0 a1_1 a1_2 l0_0 a0_1 a0_2).bind fun t242 => (some (!t242))) = some r := by rw [if_neg (show ¬ (false = true) by decide)] at H; exact H
                  clear H
                  have H := H1
                  clear H1
                  replace H := Option.bind_eq_some_iff.mp H
                  obtain ⟨t242, A1550, H⟩ := H
                  replace H : (some (!t242)) = some r := H
                  have A155 := Aside0.mk A1550
                  clear A1550
                  obtain rfl := Option.some.inj H
                  have hnb156 := NB207_208.out
                  have hnc156 := NB208_207.out
                  have hnb157 := NB207_215.out
                  have hnc157 := NB215_207.out
                  have hcz158_0 : wc.cell? ⟨gb207, 0, none⟩ = some (.slice A0_0 l0_0.length c0_0) := (blk_cell BK207.out 0).trans rfl
                  have hcz158_1 : wc.cell? ⟨gb207, 1, none⟩ = some (.int .i64 a0_1) := (blk_cell BK207.out 1).trans rfl
                  have hcz158_2 : wc.cell? ⟨gb207, 2, none⟩ = some (.bool a0_2) := (blk_cell BK207.out 2).trans rfl
                  have hfz158_0 := blk_frozen BK207.out 0
                  have hfz158_1 := blk_frozen BK207.out 1
                  have hfz158_2 := blk_frozen BK207.out 2
                  have hnb159 := NB208_215.out
                  have hnc159 := NB215_208.out
                  have hcz160_0 : wc.cell? ⟨gb208, 0, none⟩ = some (.slice A1_0 l1_0.length c1_0) := (blk_cell BK208.out 0).trans rfl
                  have hcz160_1 : wc.cell? ⟨gb208, 1, none⟩ = some (.int .i64 a1_1) := (blk_cell BK208.out 1).trans rfl
                  have hcz160_2 : wc.cell? ⟨gb208, 2, none⟩ = some (.bool a1_2) := (blk_cell BK208.out 2).trans rfl
                  have hfz160_0 := blk_frozen BK208.out 0
                  have hfz160_1 := blk_frozen BK208.out 1
                  have hfz160_2 := blk_frozen BK208.out 2
                  go_wp2_with (first | ((with_reducible refine gate_callee (f := 24) rfl ?_); refine goesL_ (some 82) rfl rfl Try.func24 (by kernel_rfl) rfl #[.agg #[.slice A0_0 l0_0.length c0_0, .int .i64 a0_1, .bool a0_2], .agg #[.slice A1_0 l1_0.length c1_0, .int .i64 a1_1, .bool a1_2]] rfl (by (try simp only [List.map_toArray, List.map_cons, List.map_nil]); first | done | rfl | (simp only [List.length_drop, List.length_take]; rfl)) ?_; (with_reducible refine (res_Alike.calls kj19 _ _ l0_0 a0_1 a0_2 _ _ l1_0 a1_1 a1_2 false _ ?side1 ?side2 ?side3 ?side4 A95.out).mono ?_); (case side1 => repeat (first | exact (Kd.C_below HR0_0.out HB.out) | (with_reducible refine Kd.C_alloc ?_ _) | (with_reducible refine Kd.C_drewN ?_ _) | (with_reducible refine Kd.C_drew ?_))); (case side2 => exact HC0_0.out); (case side3 => repeat (first | exact (Kd.C_below HR1_0.out HB.out) | (with_reducible refine Kd.C_alloc ?_ _) | (with_reducible refine Kd.C_drewN ?_ _) | (with_reducible refine Kd.C_drew ?_))); (case side4 => exact HC1_0.out); rintro e w161 ⟨rfl, hb⟩; refine ⟨_, rfl, ?_⟩; have n0_ := Aside0.mk (Kd.R_below (by (with_reducible repeat (first | apply Kd.R_alloc | apply Kd.R_drewN | apply Kd.R_drew)); exact HO_216000.out) hb); have n1_ := Aside0.mk (blk_below (g := gb207) (o := .cells #[.slice A0_0 l0_0.length c0_0, .int .i64 a0_1, .bool a0_2] 26 (0, 0)) (by (with_reducible repeat (first | refine blk_drewN ?_ _ | refine blk_drew ?_ | refine blk_alloc ?_ _)); exact BK207.out) hb); have n2_ := Aside0.mk (blk_below (g := gb208) (o := .cells #[.slice A1_0 l1_0.length c1_0, .int .i64 a1_1, .bool a1_2] 26 (0, 0)) (by (with_reducible repeat (first | refine blk_drewN ?_ _ | refine blk_drew ?_ | refine blk_alloc ?_ _)); exact BK208.out) hb); have n3_ := Aside0.mk (blk_below (g := gb215) (o := .cells #[.slice Ao25 t210.length co25, .int .i64 t213, .bool t214] 26 (0, 0)) (by (with_reducible repeat (first | refine blk_drewN ?_ _ | refine blk_drew ?_ | refine blk_alloc ?_ _)); exact BK215.out) hb); have n4_ := Aside0.mk (below_step (by repeat (first | (with_reducible first | exact HB.out | apply below_alloc | apply pw_below_drewN | apply below_drew1 | refine below_set ?_ GE207.out | refine below_set ?_ GE208.out | refine below_set ?_ GE215.out) | exact HB.out)) hb); clear HO_216000; clear BK207; clear BK208; clear BK215; clear HB; have HO_216000 := n0_; have BK207 := n1_; have BK208 := n2_; have BK215 := n3_; have HB := n4_; clear n0_ n1_ n2_ n3_ n4_; (try clear hb); (try clear hb2); (try clear hk); (try clear hi); have hcz162_0 : w161.cell? ⟨gb208, 0, none⟩ = some (.slice A1_0 l1_0.length c1_0) := (blk_cell BK208.out 0).trans rfl; have hcz162_1 : w161.cell? ⟨gb208, 1, none⟩ = some (.int .i64 a1_1) := (blk_cell BK208.out 1).trans rfl; have hcz162_2 : w161.cell? ⟨gb208, 2, none⟩ = some (.bool a1_2) := (blk_cell BK208.out 2).trans rfl; have hfz162_0 := blk_frozen BK208.out 0; have hfz162_1 := blk_frozen BK208.out 1; have hfz162_2 := blk_frozen BK208.out 2; have hcz163_0 : w161.cell? ⟨gb207, 0, none⟩ = some (.slice A0_0 l0_0.length c0_0) := (blk_cell BK207.out 0).trans rfl; have hcz163_1 : w161.cell? ⟨gb207, 1, none⟩ = some (.int .i64 a0_1) := (blk_cell BK207.out 1).trans rfl; have hcz163_2 : w161.cell? ⟨gb207, 2, none⟩ = some (.bool a0_2) := (blk_cell BK207.out 2).trans rfl; have hfz163_0 := blk_frozen BK207.out 0; have hfz163_1 := blk_frozen BK207.out 1; have hfz163_2 := blk_frozen BK207.out 2) | ((with_reducible refine gate_callee (f := 24) rfl ?_); refine goesL_ (some 86) rfl rfl Try.func24 (by kernel_rfl) rfl #[.agg #[.slice A1_0 l1_0.length c1_0, .int .i64 a1_1, .bool a1_2], .agg #[.slice A0_0 l0_0.length c0_0, .int .i64 a0_1, .bool a0_2]] rfl (by (try simp only [List.map_toArray, List.map_cons, List.map_nil]); first | done | rfl | (simp only [List.length_drop, List.length_take]; rfl)) ?_; (with_reducible refine (res_Alike.calls kj19 _ _ l1_0 a1_1 a1_2 _ _ l0_0 a0_1 a0_2 t242 _ ?side1 ?side2 ?side3 ?side4 A155.out).mono ?_); (case side1 => repeat (first | exact (Kd.C_below HR1_0.out HB.out) | (with_reducible refine Kd.C_alloc ?_ _) | (with_reducible refine Kd.C_drewN ?_ _) | (with_reducible refine Kd.C_drew ?_))); (case side2 => exact HC1_0.out); (case side3 => repeat (first | exact (Kd.C_below HR0_0.out HB.out) | (with_reducible refine Kd.C_alloc ?_ _) | (with_reducible refine Kd.C_drewN ?_ _) | (with_reducible refine Kd.C_drew ?_))); (case side4 => exact HC0_0.out); rintro e w164 ⟨rfl, hb⟩; refine ⟨_, rfl, ?_⟩; have n0_ := Aside0.mk (Kd.R_below (by (with_reducible repeat (first | apply Kd.R_alloc | apply Kd.R_drewN | apply Kd.R_drew)); exact HO_216000.out) hb); have n1_ := Aside0.mk (blk_below (g := gb207) (o := .cells #[.slice A0_0 l0_0.length c0_0, .int .i64 a0_1, .bool a0_2] 26 (0, 0)) (by (with_reducible repeat (first | refine blk_drewN ?_ _ | refine blk_drew ?_ | refine blk_alloc ?_ _)); exact BK207.out) hb); have n2_ := Aside0.mk (blk_below (g := gb208) (o := .cells #[.slice A1_0 l1_0.length c1_0, .int .i64 a1_1, .bool a1_2] 26 (0, 0)) (by (with_reducible repeat (first | refine blk_drewN ?_ _ | refine blk_drew ?_ | refine blk_alloc ?_ _)); exact BK208.out) hb); have n3_ := Aside0.mk (blk_below (g := gb215) (o := .cells #[.slice Ao25 t210.length co25, .int .i64 t213, .bool t214] 26 (0, 0)) (by (with_reducible repeat (first | refine blk_drewN ?_ _ | refine blk_drew ?_ | refine blk_alloc ?_ _)); exact BK215.out) hb); have n4_ := Aside0.mk (below_step (by repeat (first | (with_reducible first | exact HB.out | apply below_alloc | apply pw_below_drewN | apply below_drew1 | refine below_set ?_ GE207.out | refine below_set ?_ GE208.out | refine below_set ?_ GE215.out) | exact HB.out)) hb); clear HO_216000; clear BK207; clear BK208; clear BK215; clear HB; have HO_216000 := n0_; have BK207 := n1_; have BK208 := n2_; have BK215 := n3_; have HB := n4_; clear n0_ n1_ n2_ n3_ n4_; (try clear hb); (try clear hb2); (try clear hk); (try clear hi)))
                  go_ret
                  exact ⟨by first | rfl | (simp [errW_none, errW_some] <;> rfl) | (simp [*, errW_none, errW_some] <;> rfl), by repeat (first | (with_reducible first | exact HB.out | apply below_alloc | apply pw_below_drewN | apply below_drew1 | refine below_set ?_ GE207.out | refine below_set ?_ GE208.out | refine below_set ?_ GE215.out) | exact HB.out)⟩
  · replace c5 := Bool.eq_false_iff.mpr c5
    subst c5
    have H1 : (some false) = some r := by rw [if_neg (show ¬ (false = true) by decide)] at H; exact H
    clear H
    have H := H1
    clear H1
    obtain rfl := Option.some.inj H
    go_enter Try.func4, Try.ntmps4
    go_wp2_with (first | ((with_reducible refine gate_dst (N := 3) rfl ?_); (try (refine gate_guard (by rfl) ?_; dsimp only)); refine box_event ?hg (N := 3) ?hd (cs := #[.slice A0_0 l0_0.length c0_0, .int .i64 a0_1, .bool a0_2]) (t := 26) ?hr ?_; (case hd => rfl); (case hg => rfl); (case hr => first | (go_simp; done) | (go_simp; rfl)); intro gb207 hg w165 hbox hb; have n0_ := Aside0.mk (below_step (by repeat (first | (with_reducible first | exact HB.out | apply below_alloc | apply pw_below_drewN | apply below_drew1) | exact HB.out)) hb); have n1_ := Aside0.mk (hbox); have n2_ := Aside0.mk ((by rw [hg]; exact (below_size (by repeat (first | (with_reducible first | exact HB.out | apply below_alloc | apply pw_below_drewN | apply below_drew1) | exact HB.out))) : w.heap.size ≤ gb207)); have n3_ := Aside0.mk ((by rw [hg]; exact (below_size (by repeat (first | (with_reducible first | exact HB.out | apply below_alloc | apply pw_below_drewN | apply below_drew1) | exact HB.out))) : w.heap.size ≤ gb207)); clear HB; have HB := n0_; have BK207 := n1_; have GW207 := n2_; have GE207 := n3_; clear n0_ n1_ n2_ n3_; clear hb hbox hg) | ((with_reducible refine gate_dst (N := 4) rfl ?_); (try (refine gate_guard (by rfl) ?_; dsimp only)); refine box_event ?hg (N := 4) ?hd (cs := #[.slice A1_0 l1_0.length c1_0, .int .i64 a1_1, .bool a1_2]) (t := 26) ?hr ?_; (case hd => rfl); (case hg => rfl); (case hr => first | (go_simp; done) | (go_simp; rfl)); intro gb208 hg w166 hbox hb; have n0_ := Aside0.mk (blk_below (g := gb207) (o := .cells #[.slice A0_0 l0_0.length c0_0, .int .i64 a0_1, .bool a0_2] 26 (0, 0)) (by (with_reducible repeat (first | refine blk_drewN ?_ _ | refine blk_drew ?_ | refine blk_alloc ?_ _)); exact BK207.out) hb); have n1_ := Aside0.mk (below_step (by repeat (first | (with_reducible first | exact HB.out | apply below_alloc | apply pw_below_drewN | apply below_drew1 | refine below_set ?_ GE207.out) | exact HB.out)) hb); have n2_ := Aside0.mk (hbox); have n3_ := Aside0.mk ((by rw [hg]; exact (below_size (by repeat (first | (with_reducible first | exact HB.out | apply below_alloc | apply pw_below_drewN | apply below_drew1 | refine below_set ?_ GE207.out) | exact HB.out))) : w.heap.size ≤ gb208)); have n4_ := Aside0.mk ((by rw [hg]; exact (below_size (by repeat (first | (with_reducible first | exact HB.out | apply below_alloc | apply pw_below_drewN | apply below_drew1 | refine below_set ?_ GE207.out) | exact HB.out))) : w.heap.size ≤ gb208)); have n5_ := Aside0.mk ((by rw [hg]; exact Nat.ne_of_lt (blk_lt (g := gb207) (o := .cells #[.slice A0_0 l0_0.length c0_0, .int .i64 a0_1, .bool a0_2] 26 (0, 0)) (by (with_reducible repeat (first | refine blk_drewN ?_ _ | refine blk_drew ?_ | refine blk_alloc ?_ _)); exact BK207.out)) : gb207 ≠ gb208)); have n6_ := Aside0.mk ((by rw [hg]; exact Nat.ne_of_gt (blk_lt (g := gb207) (o := .cells #[.slice A0_0 l0_0.length c0_0, .int .i64 a0_1, .bool a0_2] 26 (0, 0)) (by (with_reducible repeat (first | refine blk_drewN ?_ _ | refine blk_drew ?_ | refine blk_alloc ?_ _)); exact BK207.out)) : gb208 ≠ gb207)); clear BK207; clear HB; have BK207 := n0_; have HB := n1_; have BK208 := n2_; have GW208 := n3_; have GE208 := n4_; have NB207_208 := n5_; have NB208_207 := n6_; clear n0_ n1_ n2_ n3_ n4_ n5_ n6_; clear hb hbox hg) | ((with_reducible refine gate_callee (f := 11) rfl ?_); refine goesL_ (some 17) rfl rfl Try.func11 (by kernel_rfl) rfl #[] rfl (by (try simp only [List.map_toArray, List.map_cons, List.map_nil]); first | done | rfl | (simp only [List.length_drop, List.length_take]; rfl)) ?_; (with_reducible refine (scrimlaw13_awake.calls  false _ A4.out).mono ?_); rintro e w167 ⟨rfl, hb⟩; refine ⟨_, rfl, ?_⟩; have n0_ := Aside0.mk (blk_below (g := gb207) (o := .cells #[.slice A0_0 l0_0.length c0_0, .int .i64 a0_1, .bool a0_2] 26 (0, 0)) (by (with_reducible repeat (first | refine blk_drewN ?_ _ | refine blk_drew ?_ | refine blk_alloc ?_ _)); exact BK207.out) hb); have n1_ := Aside0.mk (blk_below (g := gb208) (o := .cells #[.slice A1_0 l1_0.length c1_0, .int .i64 a1_1, .bool a1_2] 26 (0, 0)) (by (with_reducible repeat (first | refine blk_drewN ?_ _ | refine blk_drew ?_ | refine blk_alloc ?_ _)); exact BK208.out) hb); have n2_ := Aside0.mk (below_step (by repeat (first | (with_reducible first | exact HB.out | apply below_alloc | apply pw_below_drewN | apply below_drew1 | refine below_set ?_ GE207.out | refine below_set ?_ GE208.out) | exact HB.out)) hb); clear BK207; clear BK208; clear HB; have BK207 := n0_; have BK208 := n1_; have HB := n2_; clear n0_ n1_ n2_; (try clear hb); (try clear hb2); (try clear hk); (try clear hi)))
    go_ret
    exact ⟨by first | rfl | (simp [errW_none, errW_some] <;> rfl) | (simp [*, errW_none, errW_some] <;> rfl), by repeat (first | (with_reducible first | exact HB.out | apply below_alloc | apply pw_below_drewN | apply below_drew1 | refine below_set ?_ GE207.out | refine below_set ?_ GE208.out) | exact HB.out)⟩

end Go.Proofs.Ytnjheeoogglnaaa.R
