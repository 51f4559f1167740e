/- The filler of lines, walked: end. -/
import Derived.Test.YthkipbnigokcfaaLnW
import Derived.Deep.DeepCutAuto
import Derived.Deep.CutBlock
namespace Go.Proofs.Ythkipbnigokcfaa.Q
open Go.RowKit Go.IntWalk Go.Proofs.Ythkipbnigokcfaa.Mem Go.Proofs.YthkipbnigokcfaaW.PrintWords Go.Proofs.YthkipbnigokcfaaW.PrintLast Go.Proofs.YthkipbnigokcfaaW.PrintMore
set_option linter.unusedVariables false
set_option linter.unusedSimpArgs false
attribute [local go_sem] max_two max2_I

theorem add_same (a b : Int) (w : World) : Calls Try.prog 25 #[.int .i64 a, .int .i64 b] w fun e w' => e = .returned (.tuple #[.int .i64 (addV a b), .bool (addB a b)]) ∧ w = w' := add_calls a b w
theorem getD_set {l : List Pl} {i : Nat} {x : Pl} (h : i < l.length) : (l.set i x).getD i z30 = x := by
  rw [List.getD_eq_getElem?_getD, List.getElem?_set_self h]; rfl
theorem of_same (g : Nat) (n : Int) (ex r : Bool) (w : World) (h8 : w.cell? ⟨g, 8, none⟩ = some (.bool r)) (f8 : w.frozen? ⟨g, 8, none⟩ = false) :
    Calls Try.prog 26 #[.pointer (some ⟨g, 0, none⟩), .int .i64 n, .bool ex] w fun e w' => e = .returned (.int .i64 n) ∧ w.setCell ⟨g, 8, none⟩ (.bool (r || !ex)) = w' := (of_calls g n ex r w h8 f8).mono fun e w' ⟨h1, h2⟩ => ⟨h1, h2.symm⟩
theorem fin_fine {s : St} {n : Nat} {room align : Int} (h : Fine s n) (hr : In room) : Fine (s.fin room align) n := by
  have h1 := h.len
  have h2 := h.op
  have hb := by_in (align := align) hr h.wide
  unfold St.fin
  split
  · exact h
  · have h3 := h.many0
    have h4 := h.manyN
    refine ⟨by simp; omega, by simp; omega, by show 0 ≤ s.many + 1; omega, ?_, by simp [In], by simp [In], addV_ok h.top h.high, fun x hx' => ?_⟩
    · show s.many + 1 ≤ ((s.out.length : Nat) : Int)
      omega
    · rcases List.mem_append.1 hx' with hx' | hx'
      · exact h.out x (List.mem_of_mem_take hx')
      · obtain ⟨y, hy, rfl⟩ := List.mem_map.1 hx'
        have := h.out y (List.mem_of_mem_drop hy)
        exact ⟨addV_ok this.1 hb, this.2⟩
/-- So much of the line is moved. -/
def St.finTo (s : St) (b : Int) (j : Nat) : St :=
  { s with out := s.out.take s.op ++ (((s.out.drop s.op).take j).map (mvd b s.top s.high) ++ (s.out.drop s.op).drop j), rough := s.rough || ((s.out.drop s.op).take j).any (mvR b s.top s.high) }
theorem finTo_zero (s : St) (b : Int) : s.finTo b 0 = s := by simp [St.finTo]
theorem finTo_len (s : St) (b : Int) (j : Nat) : (s.finTo b j).out.length = s.out.length := by simp [St.finTo]; omega
theorem finTo_all (s : St) (b : Int) (m : Nat) (h : s.out.length = s.op + m) : s.finTo b m = { s with out := s.out.take s.op ++ (s.out.drop s.op).map (mvd b s.top s.high), rough := s.rough || (s.out.drop s.op).any (mvR b s.top s.high) } := by
  unfold St.finTo
  rw [List.take_of_length_le (l := s.out.drop s.op) (by simp; omega), List.drop_of_length_le (l := s.out.drop s.op) (by simp; omega), List.append_nil]
theorem finTo_get (s : St) (b : Int) (j : Nat) (h : s.op + j < s.out.length) : (s.finTo b j).out.getD (s.op + j) z30 = s.out[s.op + j] := by
  unfold St.finTo
  have h1 : (s.out.take s.op).length = s.op := by simp; omega
  have h2 : (((s.out.drop s.op).take j).map (mvd b s.top s.high)).length = j := by simp; omega
  rw [List.getD_eq_getElem?_getD, List.getElem?_append_right (by omega), h1, List.getElem?_append_right (by omega), h2, List.getElem?_drop, List.getElem?_drop]
  rw [show s.op + (j + (s.op + j - s.op - j)) = s.op + j from by omega, List.getElem?_eq_getElem h]
  rfl
theorem finTo_succ (s : St) (b : Int) (j : Nat) (h : s.op + j < s.out.length) : s.finTo b (j + 1) = { s.finTo b j with out := (s.finTo b j).out.set (s.op + j) (mvd b s.top s.high s.out[s.op + j]), rough := (s.finTo b j).rough || mvR b s.top s.high s.out[s.op + j] } := by
  have hj : j < (s.out.drop s.op).length := by simp; omega
  have h1 : (s.out.take s.op).length = s.op := by simp; omega
  have h2 : (((s.out.drop s.op).take j).map (mvd b s.top s.high)).length = j := by simp; omega
  have hg : (s.out.drop s.op)[j] = s.out[s.op + j] := by simp
  unfold St.finTo
  simp only
  rw [List.take_succ_eq_append_getElem hj, hg, List.map_append, List.any_append, List.set_append_right _ _ (by omega), h1, List.set_append_right _ _ (by omega), h2, List.drop_eq_getElem_cons hj, hg, show s.op + j - s.op - j = 0 from by omega]
  simp [Bool.or_assoc]
theorem FI.cells {g g' : Nat} {w0 w1 : World} {room align : Int} {s : St} {n cap : Nat} {wr : World} (h : FI g w0 w1 room align s (.slice (some ⟨g', 0, none⟩) n cap) wr) (i : Nat) (hi : i < n) {x : Pl} (hx : s.out.getD i z30 = x) :
    wr.cell? ⟨g', i * 6 + 2, none⟩ = some (.int .i64 x.f2.f0) ∧ wr.cell? ⟨g', i * 6 + 3, none⟩ = some (.int .i64 x.f2.f1) ∧ wr.cell? ⟨g', i * 6 + 5, none⟩ = some (.int .i64 x.f2.f3) ∧ ∀ j, wr.frozen? ⟨g', i * 6 + j, none⟩ = false := by
  obtain ⟨c, hcl, hcM, hcc, hcf⟩ := Kd.R_elem h.row z30 (i : Int) (by omega) (by omega)
  rw [Int.toNat_natCast, hx] at hcM
  have hc6 := k30_openM hcM
  simp only [Int.toNat_natCast] at hcc hcf
  exact ⟨hcc 2 _ (by rw [hc6]; rfl), hcc 3 _ (by rw [hc6]; rfl), hcc 5 _ (by rw [hc6]; rfl), hcf⟩
theorem FI.elem {g g' : Nat} {w0 w1 : World} {room align : Int} {s : St} {n cap : Nat} {wr : World} (h : FI g w0 w1 room align s (.slice (some ⟨g', 0, none⟩) n cap) wr) (i : Nat) (hi : i < n) {x x' : Pl} (hx : s.out.getD i z30 = x) (j : Nat) (n1 : Int)
    (hj : j = 2 ∧ x' = ⟨x.f0, x.f1, ⟨n1, x.f2.f1, x.f2.f2, x.f2.f3⟩⟩ ∨ j = 3 ∧ x' = ⟨x.f0, x.f1, ⟨x.f2.f0, n1, x.f2.f2, x.f2.f3⟩⟩) :
    FI g w0 w1 room align { s with out := s.out.set i x' } (.slice (some ⟨g', 0, none⟩) n cap) (wr.setCell ⟨g', i * 6 + j, none⟩ (.int .i64 n1)) := by
  obtain ⟨c, hcl, hcM, hcc, hcf⟩ := Kd.R_elem h.row z30 (i : Int) (by omega) (by omega)
  rw [Int.toNat_natCast, hx] at hcM
  have hc6 := k30_openM hcM
  have hn := (Kd.R_reads' h.row).1
  obtain ⟨g2, cap2, hv, hg1, hg2, cells, hcell⟩ := Kd.R_form h.row (by omega)
  simp only [Value.slice.injEq, Option.some.injEq, Addr.mk.injEq] at hv
  obtain ⟨⟨rfl, -, -⟩, -, rfl⟩ := hv
  have hne : g ≠ g' := blk_ne h.box hcell (by decide)
  have hs := (Kd.R_seg (x' := x') (okp := fun _ => False) (c := c) (seg := [.int .i64 n1]) (j := j) h.row (i : Int) (by omega) (by omega) hcl hcc (show j + 1 ≤ 6 by omega) (by
    rw [hc6]
    rcases hj with ⟨rfl, rfl⟩ | ⟨rfl, rfl⟩
    · exact k30_mkM _ _ _ ⟨x.f0, x.f1, ⟨n1, x.f2.f1, x.f2.f2, x.f2.f3⟩⟩
    · exact k30_mkM _ _ _ ⟨x.f0, x.f1, ⟨x.f2.f0, n1, x.f2.f2, x.f2.f3⟩⟩) (fun _ hf => hf.elim)).1
  rw [Int.toNat_natCast] at hs
  exact ⟨h.box.setCell_other _ hne, hs, h.below.setCell hg1 _, h.ge, h.kept.setRow hcell _ _⟩
set_option maxRecDepth 100000 in
set_option maxHeartbeats 4000000 in
theorem end_calls (g : Nat) (w0 w1 : World) (room align : Int) (s : St) (v : Value) (n : Nat) (w : World) (hI : FI g w0 w1 room align s v w) (hF : Fine s n) (hr : In room) (hn : n ≤ 1000000000000) :
    Calls Try.prog 20 #[.pointer (some ⟨g, 0, none⟩)] w fun e w' => e = .returned (.tuple #[]) ∧ ∃ v', FI g w0 w1 room align (s.fin room align) v' w' := by
  have HI := Lib.hid hI
  have HF := Lib.hid hF
  obtain ⟨A1, c1, rfl⟩ := Kd.R_slice HI.out.row
  have i1 := hr.1
  have i2 := hr.2
  have i3 := hF.wide.1
  have i4 := hF.wide.2
  by_cases hc : s.out.length = s.op
  · have hc' : ((s.out.length : Int) == (s.op : Int)) = true := by simp; omega
    have hfin : Hid (s.fin room align = s) := Lib.hid (by unfold St.fin; rw [if_pos hc])
    have b0 := HI.out.box.cell 0
    have b1 := HI.out.box.cell 1
    simp only [FB, List.getElem?_toArray, List.getElem?_cons_zero, List.getElem?_cons_succ] at b0 b1
    clear hI hF hr hc
    go_enter Try.func20, Try.ntmps20
    go_upto_region 0 with (fail)
    go_still (by kernel_rfl)
    clear b0 b1
    show Exit.then _ _ _ _ w.drew
    have HP1 := Lib.hid HI.out.drew
    generalize w.drew = W1 at HP1 ⊢
    go_wp2_with fail
    refine bodyPost_ret (results_none rfl _ _ _) rfl ?_
    exact ⟨rfl, _, by rw [hfin.out]; exact HP1.out⟩
  · have hc' : ((s.out.length : Int) == (s.op : Int)) = false := by simp; omega
    obtain ⟨g2, cap2, hv2, hg2, hg3, cells2, hcell2⟩ := Kd.R_form HI.out.row (by have := hF.op; have := hF.len; omega)
    simp only [Value.slice.injEq] at hv2
    obtain ⟨rfl, -, rfl⟩ := hv2
    have hne : g ≠ g2 := blk_ne HI.out.box hcell2 (by decide)
    have hne' : g2 ≠ g := fun e => hne e.symm
    clear hI hF hr hcell2 hg2 hg3
    go_enter Try.func20, Try.ntmps20
    -- THE WALK
    go_upto_region 0 with (fail)
    have b0 := HI.out.box.cell 0
    have b1 := HI.out.box.cell 1
    simp only [FB, List.getElem?_toArray, List.getElem?_cons_zero, List.getElem?_cons_succ] at b0 b1
    go_still (by kernel_rfl)
    clear b0 b1
    show Exit.then _ _ _ _ w.drew
    have HP1 := Lib.hid HI.out.drew
    generalize w.drew = W1 at HP1 ⊢
    clear HI
    go_upto_region 1 with (fail)
    have b3 := HP1.out.box.cell 3
    have b6 := HP1.out.box.cell 6
    simp only [FB, List.getElem?_toArray, List.getElem?_cons_zero, List.getElem?_cons_succ] at b3 b6
    go_still (by kernel_rfl)
    clear b3 b6
    show Exit.then _ _ _ _ W1.drew
    have HP2 := Lib.hid HP1.out.drew
    generalize W1.drew = W2 at HP2 ⊢
    clear HP1
    have b7 := HP2.out.box.cell 7
    simp only [FB, List.getElem?_toArray, List.getElem?_cons_zero, List.getElem?_cons_succ] at b7
    go_upto_block 0 with (fail)
    have i5 : mxI (room - s.wide) 0 = max (room - s.wide) 0 := rfl
    have i6 : IntKind.i64.wrap (room - s.wide) = room - s.wide := i64_in _ (by omega)
    have i7 : 0 ≤ mxI (room - s.wide) 0 := by unfold mxI; omega
    have i8 : mxI (room - s.wide) 0 ≤ 1099511627776 := by unfold mxI; omega
    have I5 := Lib.hid i5
    clear i5
    go_cut [2] from 29 to 34 (fun b wc => b = .int .i64 (byOf room align s.wide) ∧ wc = W2)
    case first =>
      by_cases ha1 : align = 1
      · have h1 : (align == 1) = true := by simp [ha1]
        have hb : Hid (byOf room align s.wide = mxI (room - s.wide) 0 / 2) := Lib.hid (by unfold byOf; rw [if_pos ha1])
        clear ha1
        go_wp2_with fail
        go_meet
        case rel => exact ⟨by rw [hb.out]; try rw [i6], rfl⟩
      · have h1 : (align == 1) = false := by simp [ha1]
        by_cases ha2 : align = 2
        · have h2 : (align == 2) = true := by simp [ha2]
          have hb : Hid (byOf room align s.wide = mxI (room - s.wide) 0) := Lib.hid (by unfold byOf; rw [if_neg ha1, if_pos ha2])
          clear ha1 ha2
          go_wp2_with fail
          go_meet
          case rel => exact ⟨by rw [hb.out]; try rw [i6], rfl⟩
        · have h2 : (align == 2) = false := by simp [ha2]
          have hb : Hid (byOf room align s.wide = 0) := Lib.hid (by unfold byOf; rw [if_neg ha1, if_neg ha2])
          clear ha1 ha2
          go_wp2_with fail
          go_meet
          case rel => exact ⟨by rw [hb.out]; try rw [i6], rfl⟩
    case rest =>
      obtain ⟨rfl, rfl⟩ := hcut
      have hby : In (byOf room align s.wide) := by_in ⟨i1, i2⟩ ⟨i3, i4⟩
      obtain ⟨b, hb_⟩ : ∃ b, byOf room align s.wide = b := ⟨_, rfl⟩
      rw [hb_] at hby ⊢
      have HB_ := Lib.hid hb_
      clear hb_
      have HBY := Lib.hid hby
      clear hby i6 i7 i8 b7
      go_upto_region 7 with (fail)
      have hcap := (Kd.R_reads' HP2.out.row).2.1
      have hop := HF.out.op
      have hlen := HF.out.len
      have j1 : (0 : Int) ≤ (s.op : Int) := by omega
      have j2 : (s.op : Int) ≤ (s.out.length : Int) := by omega
      have j3 : (s.out.length : Int) ≤ (c1 : Int) := by omega
      have j4 : s.op < s.out.length := by omega
      obtain ⟨m, hm⟩ : ∃ m, s.out.length = s.op + m := ⟨s.out.length - s.op, by omega⟩
      have j5 : s.out.length - s.op = m := by omega
      have HLEN := Lib.hid hlen
      clear hlen
      have HM := Lib.hid hm
      clear hm
      have b0 := HP2.out.box.cell 0
      have b1 := HP2.out.box.cell 1
      simp only [FB, List.getElem?_toArray, List.getElem?_cons_zero, List.getElem?_cons_succ] at b0 b1
      go_still (by kernel_rfl)
      clear b0 b1
      show Exit.then _ _ _ _ wc.drew
      have HP3 := Lib.hid HP2.out.drew
      generalize wc.drew = W3 at HP3 ⊢
      clear HP2
      have hml : s.op + m = s.out.length := by omega
      have HML := Lib.hid hml
      clear j5 hml HM
      go_wp2_with fail
      go_loopw [45] (fun i wr => ∃ j : Nat, j ≤ m ∧ i = .int .i64 j ∧ Hid (FI g w0 w1 room align (s.finTo b j) (.slice (some ⟨g2, 0, none⟩) s.out.length c1) wr)) (fun i wr => m - (intOf i).toNat)
      case atStart => exact ⟨0, Nat.zero_le _, rfl, by rw [finTo_zero]; exact HP3⟩
      case round =>
        obtain ⟨j, hj, rfl, Q⟩ := hrel
        clear HP3
        by_cases hlt : j < m
        · have hml := HML.out
          have hoj : s.op + j < s.out.length := by omega
          have hfl := finTo_len s b j
          obtain ⟨x, hx⟩ : ∃ x, s.out[s.op + j] = x := ⟨_, rfl⟩
          have hgx := finTo_get s b j hoj
          rw [hx] at hgx
          have hsx := finTo_succ s b j hoj
          rw [hx] at hsx
          have hxi := HF.out.out x (by rw [← hx]; exact List.getElem_mem _)
          have hhi := HF.out.high
          have hti := HF.out.top
          have o1 : (s.finTo b j).op = s.op ∧ (s.finTo b j).high = s.high ∧ (s.finTo b j).top = s.top ∧ (s.finTo b j).out.length = s.out.length := ⟨rfl, rfl, rfl, hfl⟩
          have HSX := Lib.hid hsx
          have HGX := Lib.hid hgx
          clear hsx hgx hx hfl
          generalize s.finTo b j = u at *
          obtain ⟨o1, o2, o3, o4⟩ := o1
          obtain ⟨ux, e2, e3, e5, ef⟩ : ∃ ux : True, wr.cell? ⟨g2, (s.op + j) * 6 + 2, none⟩ = some (.int .i64 x.f2.f0) ∧ wr.cell? ⟨g2, (s.op + j) * 6 + 3, none⟩ = some (.int .i64 x.f2.f1) ∧ wr.cell? ⟨g2, (s.op + j) * 6 + 5, none⟩ = some (.int .i64 x.f2.f3) ∧ ∀ j_, wr.frozen? ⟨g2, (s.op + j) * 6 + j_, none⟩ = false := by have h := FI.cells Q.out (s.op + j) (by omega) HGX.out; exact ⟨trivial, h⟩
          have HE2 := Lib.hid e2
          have HE3 := Lib.hid e3
          have HE5 := Lib.hid e5
          have HEF := Lib.hid ef
          clear ux e2 e3 e5 ef
          have HO := Lib.hid (And.intro o1 (And.intro o2 (And.intro o3 o4)))
          have hln : s.out.length ≤ 1000000000000 := by rw [HLEN.out]; exact hn
          have i9 : IntKind.i64.wrap ((s.op : Int) + (j : Int)) = (s.op : Int) + (j : Int) := i64_in _ (by omega)
          have i10 : ((s.op : Int) + (j : Int)).toNat = s.op + j := by omega
          have i11 : (0 : Int) ≤ (s.op : Int) + (j : Int) := by omega
          have i12 : (s.op : Int) + (j : Int) < (s.out.length : Int) := by omega
          have hlt' : (j : Int) < (m : Int) := by omega
          obtain ⟨X0, X1, ⟨Y0, Y1, Y2, Y3⟩⟩ := x
          simp only at HE2 HE3 HE5 hxi
          clear o1 o2 o3 o4
          go_upto_region 10 with (fail)
          have b0 := Q.out.box.cell 0
          have b1 := Q.out.box.cell 1
          simp only [FB, List.getElem?_toArray, List.getElem?_cons_zero, List.getElem?_cons_succ] at b0 b1
          rw [HO.out.1] at b1
          go_still (by kernel_rfl)
          clear b0 b1
          show Exit.then _ _ _ _ wr.drew
          have Q1 := Lib.hid Q.out.drew
          have HE2' : Hid (wr.drew.cell? _ = _) := HE2
          have HE3' : Hid (wr.drew.cell? _ = _) := HE3
          have HE5' : Hid (wr.drew.cell? _ = _) := HE5
          have HEF' : Hid (∀ j_, wr.drew.frozen? ⟨g2, (s.op + j) * 6 + j_, none⟩ = false) := HEF
          generalize wr.drew = R1 at Q1 HE2' HE3' HE5' HEF' ⊢
          clear HE2 HE3 HE5 HEF i9 i10 i11 i12
          go_upto_region 11 with (fail)
          have b8 := Q1.out.box.cell 8
          have f8 := Q1.out.box.free 8
          simp only [FB, List.getElem?_toArray, List.getElem?_cons_zero, List.getElem?_cons_succ] at b8
          have e2 := HE2'.out
          have f2 := HEF'.out 2
          have e2' : (R1.setCell ⟨g, 8, none⟩ (.bool (u.rough || !addB Y0 b))).cell? ⟨g2, (s.op + j) * 6 + 2, none⟩ = some (.int .i64 Y0) := by rw [World.cell?_setCell_other _ _ _ _ (by simp [hne, hne'])]; exact e2
          have f2' : (R1.setCell ⟨g, 8, none⟩ (.bool (u.rough || !addB Y0 b))).frozen? ⟨g2, (s.op + j) * 6 + 2, none⟩ = false := by rw [World.frozen?_setCell]; exact f2
          go_upto_region 12 with (first | (go_at_call 25; refine (add_same _ _ _).mono ?_; rintro e w' ⟨rfl, rfl⟩) | (go_at_call 26; refine (of_same g _ _ u.rough _ b8 f8).mono ?_; rintro e w' ⟨rfl, rfl⟩))
          have hul := HO.out.2.2.2
          have Q2 : Hid (FI g w0 w1 room align { u with out := (u.out.set (s.op + j) ⟨X0, X1, ⟨(addV Y0 b), Y1, Y2, Y3⟩⟩), rough := (u.rough || !addB Y0 b) } (.slice (some ⟨g2, 0, none⟩) s.out.length c1) ((R1.setCell ⟨g, 8, none⟩ (.bool (u.rough || !addB Y0 b))).setCell ⟨g2, (s.op + j) * 6 + 2, none⟩ (.int .i64 (addV Y0 b)))) := Lib.hid (FI.elem (Q1.out.turn (s' := { u with rough := (u.rough || !addB Y0 b) }) 8 _ rfl rfl) (s.op + j) (by omega) HGX.out 2 (addV Y0 b) (.inl ⟨rfl, rfl⟩))
          have HUL := Lib.hid hul
          clear hul Q1 HE2' HE3' HE5' HEF' b8 f8 e2 f2 e2' f2'
          generalize ((R1.setCell ⟨g, 8, none⟩ (.bool (u.rough || !addB Y0 b))).setCell ⟨g2, (s.op + j) * 6 + 2, none⟩ (.int .i64 (addV Y0 b))) = R2 at Q2 ⊢
          obtain ⟨e2, e3, e5, ef⟩ := FI.cells Q2.out (s.op + j) (by omega) (getD_set (by rw [HUL.out]; omega))
          have HE3 := Lib.hid e3
          have HE5 := Lib.hid e5
          have HEF := Lib.hid ef
          clear e2 e3 e5 ef
          simp only at HE3 HE5
          have Q3 := Lib.hid Q2.out.drew
          have HE3' : Hid (R2.drew.cell? _ = _) := HE3
          have HE5' : Hid (R2.drew.cell? _ = _) := HE5
          have HEF' : Hid (∀ j_, R2.drew.frozen? ⟨g2, (s.op + j) * 6 + j_, none⟩ = false) := HEF
          obtain ⟨R3, hR3⟩ : ∃ W_, W_ = R2.drew := ⟨_, rfl⟩
          rw [← hR3] at Q3 HE3' HE5' HEF'
          have HR3 := Lib.hid hR3
          clear hR3 Q2 HE3 HE5 HEF
          have b4 := Q3.out.box.cell 4
          have b5 := Q3.out.box.cell 5
          have b8 := Q3.out.box.cell 8
          have f8 := Q3.out.box.free 8
          simp only [FB, List.getElem?_toArray, List.getElem?_cons_zero, List.getElem?_cons_succ] at b4 b5 b8
          rw [HO.out.2.1] at b4
          rw [HO.out.2.2.1] at b5
          have e5 := HE5'.out
          have e3 := HE3'.out
          have f3 := HEF'.out 3
          have i13 : IntKind.i64.wrap (s.high - Y3) = s.high - Y3 := i64_in _ (by unfold In at hhi hxi; omega)
          show (Code.region _ _ _).wp _ _ _ R2
          obtain ⟨L1, hL1⟩ : ∃ L1 : List World, L1 = [R3, R3, (R3.setCell ⟨g, 8, none⟩ (.bool ((u.rough || !addB Y0 b) || !addB s.top (s.high - Y3)))), (R3.setCell ⟨g, 8, none⟩ (.bool ((u.rough || !addB Y0 b) || !addB s.top (s.high - Y3)))).setCell ⟨g2, (s.op + j) * 6 + 3, none⟩ (.int .i64 (addV s.top (s.high - Y3)))] := ⟨_, rfl⟩
          have HL1_0 : Hid (L1[0]? = some (R3)) := Lib.hid (by rw [hL1]; rfl)
          have HL1_1 : Hid (L1[1]? = some (R3)) := Lib.hid (by rw [hL1]; rfl)
          have HL1_2 : Hid (L1[2]? = some ((R3.setCell ⟨g, 8, none⟩ (.bool ((u.rough || !addB Y0 b) || !addB s.top (s.high - Y3)))))) := Lib.hid (by rw [hL1]; rfl)
          have HL1_3 : Hid (L1[3]? = some ((R3.setCell ⟨g, 8, none⟩ (.bool ((u.rough || !addB Y0 b) || !addB s.top (s.high - Y3)))).setCell ⟨g2, (s.op + j) * 6 + 3, none⟩ (.int .i64 (addV s.top (s.high - Y3))))) := Lib.hid (by rw [hL1]; rfl)
          clear hL1
          have ne1 := Mix.CL.ne HL1_0.out
          have nx1 := Mix.CL.nx (p := 0) (q := 0) HL1_0.out (Nat.le_refl _)
          have q5 := Mix.CL.at0 HL1_0.out b5
          have q9 := Mix.CL.at0 HL1_0.out b4
          have q13 := Mix.CL.at0 HL1_0.out e5
          refine Mix.wp_region_mix (C := Mix.CL L1) [15, 18, 21] (by kernel_rfl) (by kernel_rfl) (by rw [← HR3.out]; exact HL1_0.out) ?_
          iterate 5 (refine Mix.mix_still (by decide) (fun K hK => ?_); go_simp; refine hK _ ?_; clear hK K)
          iterate 1 (refine Mix.mix_in 0 0 (by decide) (by kernel_rfl) (fun K hK => ?_); go_simp; refine hK _ ?_; clear hK K)
          iterate 3 (refine Mix.mix_still (by decide) (fun K hK => ?_); go_simp; refine hK _ ?_; clear hK K)
          iterate 1 (refine Mix.mix_in 0 0 (by decide) (by kernel_rfl) (fun K hK => ?_); go_simp; refine hK _ ?_; clear hK K)
          iterate 3 (refine Mix.mix_still (by decide) (fun K hK => ?_); go_simp; refine hK _ ?_; clear hK K)
          iterate 1 (refine Mix.mix_in 0 0 (by decide) (by kernel_rfl) (fun K hK => ?_); go_simp; refine hK _ ?_; clear hK K)
          iterate 1 (refine Mix.mix_still (by decide) (fun K hK => ?_); go_simp; refine hK _ ?_; clear hK K)
          refine Mix.mix_turn (by decide) (fun K hK => ?_)
          go_simp
          refine ⟨(.tuple #[.int .i64 (addV s.top (s.high - Y3)), .bool (addB s.top (s.high - Y3))]), fun w_ hw_ => ?_, hK _ ?_⟩
          · have e_ := (Mix.CL.eq HL1_0.out hw_).symm
            subst e_
            exact (add_still s.top (s.high - Y3) _).mono fun e_ w_ ⟨h1_, h2_⟩ => ⟨h1_, by first | exact h2_ ▸ HL1_1.out | (rw [h2_]; exact HL1_1.out)⟩
          clear hK K
          iterate 2 (refine Mix.mix_still (by decide) (fun K hK => ?_); go_simp; refine hK _ ?_; clear hK K)
          refine Mix.mix_turn (by decide) (fun K hK => ?_)
          go_simp
          refine ⟨(.int .i64 (addV s.top (s.high - Y3))), fun w_ hw_ => ?_, hK _ ?_⟩
          · have e_ := (Mix.CL.eq HL1_1.out hw_).symm
            subst e_
            exact (of_calls g (addV s.top (s.high - Y3)) (addB s.top (s.high - Y3)) (u.rough || !addB Y0 b) _ b8 f8).mono fun e_ w_ ⟨h1_, h2_⟩ => ⟨h1_, by first | exact h2_ ▸ HL1_2.out | (rw [h2_]; exact HL1_2.out)⟩
          clear hK K
          iterate 2 (refine Mix.mix_still (by decide) (fun K hK => ?_); go_simp; refine hK _ ?_; clear hK K)
          refine Mix.mix_turn (by decide) (fun K hK => ?_)
          go_simp
          refine ⟨⟨undef, fun w_ hw_ => ?_⟩, hK _ ?_⟩
          · have e_ := (Mix.CL.eq HL1_2.out hw_).symm
            subst e_
            have d1_ := (show (R3.setCell ⟨g, 8, none⟩ (.bool ((u.rough || !addB Y0 b) || !addB s.top (s.high - Y3)))).cell? ⟨g2, (s.op + j) * 6 + 3, none⟩ = some (.int .i64 Y1) by rw [World.cell?_setCell_other _ _ _ _ (by simp [hne, hne'])]; exact e3)
            have d2_ := (show (R3.setCell ⟨g, 8, none⟩ (.bool ((u.rough || !addB Y0 b) || !addB s.top (s.high - Y3)))).frozen? ⟨g2, (s.op + j) * 6 + 3, none⟩ = false by rw [World.frozen?_setCell]; exact f3)
            have hs_ := HL1_3.out
            clear ne1 nx1 q5 q9 q13 b4 b5 b8 f8 e3 e5 f3 i13
            generalize (R3.setCell ⟨g, 8, none⟩ (.bool ((u.rough || !addB Y0 b) || !addB s.top (s.high - Y3)))) = yw_ at d1_ d2_ hs_ ⊢
            go_simp
            all_goals exact hs_
          clear hK K
          refine Mix.mix_nil ?_
          intro w_ hw_
          have e_ := (Mix.CL.eq HL1_3.out hw_).symm
          subst e_
          clear ne1 nx1 q5 q9 q13 hw_
          clear b4 b5 b8 f8 e3 e5 f3 i13
          have Q4 : Hid (FI g w0 w1 room align { u with out := (u.out.set (s.op + j) ⟨X0, X1, ⟨(addV Y0 b), (addV s.top (s.high - Y3)), Y2, Y3⟩⟩), rough := ((u.rough || !addB Y0 b) || !addB s.top (s.high - Y3)) } (.slice (some ⟨g2, 0, none⟩) s.out.length c1) ((R3.setCell ⟨g, 8, none⟩ (.bool ((u.rough || !addB Y0 b) || !addB s.top (s.high - Y3)))).setCell ⟨g2, (s.op + j) * 6 + 3, none⟩ (.int .i64 (addV s.top (s.high - Y3))))) := Lib.hid (by
            have h := FI.elem (Q3.out.turn (s' := { u with out := (u.out.set (s.op + j) ⟨X0, X1, ⟨(addV Y0 b), Y1, Y2, Y3⟩⟩), rough := ((u.rough || !addB Y0 b) || !addB s.top (s.high - Y3)) }) 8 _ rfl rfl) (s.op + j) (by omega) (x := ⟨X0, X1, ⟨(addV Y0 b), Y1, Y2, Y3⟩⟩) (getD_set (by rw [HUL.out]; omega)) 3 (addV s.top (s.high - Y3)) (.inr ⟨rfl, rfl⟩)
            simp only [List.set_set] at h
            exact h)
          clear Q3 HE3' HE5' HEF' HR3
          generalize ((R3.setCell ⟨g, 8, none⟩ (.bool ((u.rough || !addB Y0 b) || !addB s.top (s.high - Y3)))).setCell ⟨g2, (s.op + j) * 6 + 3, none⟩ (.int .i64 (addV s.top (s.high - Y3)))) = R4 at Q4 ⊢
          go_wp2_with fail
          go_roundw
          case rel =>
            refine ⟨j + 1, by omega, by go_num, Lib.hid ?_⟩
            rw [HSX.out]
            have h := Q4.out
            rw [Bool.or_assoc] at h
            exact h
          case measure => simp [intOf]; omega
        · obtain rfl : j = m := by omega
          have hfa := finTo_all s b j HML.out.symm
          have HFA := Lib.hid hfa
          have hmv : (s.finTo b j).op = s.op ∧ (s.finTo b j).many = s.many ∧ (s.finTo b j).wide = s.wide ∧ (s.finTo b j).high = s.high ∧ (s.finTo b j).top = s.top ∧ (s.finTo b j).out.length = s.out.length := ⟨rfl, rfl, rfl, rfl, rfl, finTo_len s b j⟩
          have HMV := Lib.hid hmv
          clear hfa hmv
          obtain ⟨u, hu⟩ : ∃ u, u = s.finTo b j := ⟨_, rfl⟩
          rw [← hu] at HFA HMV Q
          clear hu
          have hm1 := HF.out.many0
          have hm2 := HF.out.manyN
          go_upto_region 14 with (fail)
          have Q1 := Lib.hid Q.out.drew
          obtain ⟨R1, hR1⟩ : ∃ W_, W_ = wr.drew := ⟨_, rfl⟩
          rw [← hR1] at Q1
          have HR1 := Lib.hid hR1
          clear hR1 Q
          have b4 := Q1.out.box.cell 4
          have b5 := Q1.out.box.cell 5
          have b8 := Q1.out.box.cell 8
          have f5 := Q1.out.box.free 5
          have f8 := Q1.out.box.free 8
          simp only [FB, List.getElem?_toArray, List.getElem?_cons_zero, List.getElem?_cons_succ] at b4 b5 b8
          rw [HMV.out.2.2.2.1] at b4
          rw [HMV.out.2.2.2.2.1] at b5
          show (Code.region _ _ _).wp _ _ _ wr
          obtain ⟨L2, hL2⟩ : ∃ L2 : List World, L2 = [R1, R1, (R1.setCell ⟨g, 8, none⟩ (.bool (u.rough || !addB s.top s.high))), (R1.setCell ⟨g, 8, none⟩ (.bool (u.rough || !addB s.top s.high))).setCell ⟨g, 5, none⟩ (.int .i64 (addV s.top s.high))] := ⟨_, rfl⟩
          have HL2_0 : Hid (L2[0]? = some (R1)) := Lib.hid (by rw [hL2]; rfl)
          have HL2_1 : Hid (L2[1]? = some (R1)) := Lib.hid (by rw [hL2]; rfl)
          have HL2_2 : Hid (L2[2]? = some ((R1.setCell ⟨g, 8, none⟩ (.bool (u.rough || !addB s.top s.high))))) := Lib.hid (by rw [hL2]; rfl)
          have HL2_3 : Hid (L2[3]? = some ((R1.setCell ⟨g, 8, none⟩ (.bool (u.rough || !addB s.top s.high))).setCell ⟨g, 5, none⟩ (.int .i64 (addV s.top s.high)))) := Lib.hid (by rw [hL2]; rfl)
          clear hL2
          have ne2 := Mix.CL.ne HL2_0.out
          have nx2 := Mix.CL.nx (p := 0) (q := 0) HL2_0.out (Nat.le_refl _)
          have q5 := Mix.CL.at0 HL2_0.out b5
          have q9 := Mix.CL.at0 HL2_0.out b4
          refine Mix.wp_region_mix (C := Mix.CL L2) [10, 13, 16] (by kernel_rfl) (by kernel_rfl) (by rw [← HR1.out]; exact HL2_0.out) ?_
          iterate 5 (refine Mix.mix_still (by decide) (fun K hK => ?_); go_simp; refine hK _ ?_; clear hK K)
          iterate 1 (refine Mix.mix_in 0 0 (by decide) (by kernel_rfl) (fun K hK => ?_); go_simp; refine hK _ ?_; clear hK K)
          iterate 3 (refine Mix.mix_still (by decide) (fun K hK => ?_); go_simp; refine hK _ ?_; clear hK K)
          iterate 1 (refine Mix.mix_in 0 0 (by decide) (by kernel_rfl) (fun K hK => ?_); go_simp; refine hK _ ?_; clear hK K)
          refine Mix.mix_turn (by decide) (fun K hK => ?_)
          go_simp
          refine ⟨(.tuple #[.int .i64 (addV s.top s.high), .bool (addB s.top s.high)]), fun w_ hw_ => ?_, hK _ ?_⟩
          · have e_ := (Mix.CL.eq HL2_0.out hw_).symm
            subst e_
            exact (add_still s.top s.high _).mono fun e_ w_ ⟨h1_, h2_⟩ => ⟨h1_, by first | exact h2_ ▸ HL2_1.out | (rw [h2_]; exact HL2_1.out)⟩
          clear hK K
          iterate 2 (refine Mix.mix_still (by decide) (fun K hK => ?_); go_simp; refine hK _ ?_; clear hK K)
          refine Mix.mix_turn (by decide) (fun K hK => ?_)
          go_simp
          refine ⟨(.int .i64 (addV s.top s.high)), fun w_ hw_ => ?_, hK _ ?_⟩
          · have e_ := (Mix.CL.eq HL2_1.out hw_).symm
            subst e_
            exact (of_calls g (addV s.top s.high) (addB s.top s.high) u.rough _ b8 f8).mono fun e_ w_ ⟨h1_, h2_⟩ => ⟨h1_, by first | exact h2_ ▸ HL2_2.out | (rw [h2_]; exact HL2_2.out)⟩
          clear hK K
          iterate 2 (refine Mix.mix_still (by decide) (fun K hK => ?_); go_simp; refine hK _ ?_; clear hK K)
          refine Mix.mix_turn (by decide) (fun K hK => ?_)
          go_simp
          refine ⟨⟨undef, fun w_ hw_ => ?_⟩, hK _ ?_⟩
          · have e_ := (Mix.CL.eq HL2_2.out hw_).symm
            subst e_
            have d1_ := (show (R1.setCell ⟨g, 8, none⟩ (.bool (u.rough || !addB s.top s.high))).cell? ⟨g, 5, none⟩ = some (.int .i64 s.top) by rw [World.cell?_setCell_other _ _ _ _ (by simp)]; exact b5)
            have d2_ := (show (R1.setCell ⟨g, 8, none⟩ (.bool (u.rough || !addB s.top s.high))).frozen? ⟨g, 5, none⟩ = false by rw [World.frozen?_setCell]; exact f5)
            have hs_ := HL2_3.out
            clear ne2 nx2 q5 q9 b4 b5 b8 f5 f8
            generalize (R1.setCell ⟨g, 8, none⟩ (.bool (u.rough || !addB s.top s.high))) = yw_ at d1_ d2_ hs_ ⊢
            go_simp
            all_goals exact hs_
          clear hK K
          refine Mix.mix_nil ?_
          intro w_ hw_
          have e_ := (Mix.CL.eq HL2_3.out hw_).symm
          subst e_
          clear ne2 nx2 q5 q9 hw_
          clear b4 b5 b8 f5 f8
          have Q2 : Hid (FI g w0 w1 room align { u with rough := (u.rough || !addB s.top s.high), top := (addV s.top s.high) } (.slice (some ⟨g2, 0, none⟩) s.out.length c1) ((R1.setCell ⟨g, 8, none⟩ (.bool (u.rough || !addB s.top s.high))).setCell ⟨g, 5, none⟩ (.int .i64 (addV s.top s.high)))) := Lib.hid ((Q1.out.turn (s' := { u with rough := (u.rough || !addB s.top s.high) }) 8 _ rfl rfl).turn (s' := { u with rough := (u.rough || !addB s.top s.high), top := (addV s.top s.high) }) 5 _ rfl rfl)
          clear Q1 HR1
          generalize ((R1.setCell ⟨g, 8, none⟩ (.bool (u.rough || !addB s.top s.high))).setCell ⟨g, 5, none⟩ (.int .i64 (addV s.top s.high))) = R2 at Q2 ⊢
          have b0 := Q2.out.box.cell 0
          have b1 := Q2.out.box.cell 1
          have b2 := Q2.out.box.cell 2
          have b3 := Q2.out.box.cell 3
          have b4 := Q2.out.box.cell 4
          have f1 := Q2.out.box.free 1
          have f2 := Q2.out.box.free 2
          have f3 := Q2.out.box.free 3
          have f4 := Q2.out.box.free 4
          simp only [FB, List.getElem?_toArray, List.getElem?_cons_zero, List.getElem?_cons_succ] at b0 b1 b2 b3 b4
          rw [HMV.out.2.1] at b2
          have e3 : ∀ v : Value, (R2.setCell ⟨g, 1, none⟩ v).cell? ⟨g, 3, none⟩ = R2.cell? ⟨g, 3, none⟩ := fun v => World.cell?_setCell_other _ _ _ _ (by simp)
          go_wp2_with fail
          go_end0
          refine ⟨rfl, (.slice (some ⟨g2, 0, none⟩) s.out.length c1), ?_⟩
          have hfin : s.fin room align = { out := u.out, op := s.out.length, many := s.many + 1, wide := 0, high := 0, top := (addV s.top s.high), rough := (u.rough || !addB s.top s.high) } := by
            unfold St.fin; rw [if_neg hc, HFA.out, HB_.out]
          rw [hfin]
          have h := (((Q2.out.turn (s' := { u with rough := (u.rough || !addB s.top s.high), top := (addV s.top s.high), op := s.out.length }) 1 (.int .i64 s.out.length) rfl rfl).turn (s' := { u with rough := (u.rough || !addB s.top s.high), top := (addV s.top s.high), op := s.out.length, wide := 0 }) 3 (.int .i64 0) rfl rfl).turn (s' := { u with rough := (u.rough || !addB s.top s.high), top := (addV s.top s.high), op := s.out.length, wide := 0, high := 0 }) 4 (.int .i64 0) rfl rfl).turn (s' := { u with rough := (u.rough || !addB s.top s.high), top := (addV s.top s.high), op := s.out.length, wide := 0, high := 0, many := s.many + 1 }) 2 (.int .i64 (s.many + 1)) rfl rfl
          have hue : ({ u with rough := (u.rough || !addB s.top s.high), top := (addV s.top s.high), op := s.out.length, wide := 0, high := 0, many := s.many + 1 } : St) = { out := u.out, op := s.out.length, many := s.many + 1, wide := 0, high := 0, top := (addV s.top s.high), rough := (u.rough || !addB s.top s.high) } := rfl
          exact h
end Go.Proofs.Ythkipbnigokcfaa.Q
