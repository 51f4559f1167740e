/- What the proof of treeMay_holds needs, of the texts that this work has written and of the words that the kit's print lends. -/
import Derived.Test.YtkjgnkmnngaioaaGreatZdh
import Derived.Test.YtkjgnkmnngaioaaGreatZde
import Derived.Test.YtkjgnkmnngaioaaGreatZdi
import Derived.Test.YtkjgnkmnngaioaaGreatZdg
import Derived.Test.YtkjgnkmnngaioaaGreatZdb
import Derived.Lib.Slices
import Derived.Lib.SlBuf
namespace Go.Proofs.YtkjgnkmnngaioaaGreat.Q
open Go.RowKit Go.IntWalk Go.Proofs.YtkjgnkmnngaioaaGreat.Mem Go.Proofs.YtkjgnkmnngaioaaGreatW.PrintWords Go.Proofs.YtkjgnkmnngaioaaGreatW.PrintLast Go.Proofs.YtkjgnkmnngaioaaGreatW.PrintMore
set_option linter.unusedVariables false
set_option linter.unusedSimpArgs false
/-- Tokens that building may be asked of here: sizes. -/
def okTs (ts : List Tk) : Prop := ts.length ≤ 1000000 ∧ ∀ t ∈ ts, t.f1.size ≤ 9223372036854775807 ∧ t.f2.size ≤ 1000000 ∧ t.f3.length ≤ 1000000 ∧ ∀ x ∈ t.f3, x.f0.size ≤ 9223372036854775807
def tkAt (l : List Tk) (i : Nat) : Tk := l.getD i z46
theorem bdF_step {ts : List Tk} {k : Nat} {l : List Nd} {a : Nat} (h : k < ts.length) : bdF (ts.drop k) l a = if bdE l a (tkAt ts k) = 0 then bdF (ts.drop (k + 1)) (bdL l a (tkAt ts k)) (bdA l a (tkAt ts k)) else ([], bdE l a (tkAt ts k)) := by
  rw [List.drop_eq_getElem_cons h, bdF]
  have : ts[k] = tkAt ts k := by unfold tkAt; rw [List.getD_eq_getElem?_getD, List.getElem?_eq_getElem h]; rfl
  rw [this]
def BuP (ts : List Tk) (w : World) (e : Ending) (w' : World) : Prop :=
  ∃ v, e = .returned (.tuple #[v, .int .i64 (buildF ts).2]) ∧ Kd.S k49 49 w' w.heap.size (fun _ => True) v (buildF ts).1 ∧ Below w.heap.size w w'
set_option maxRecDepth 100000 in
set_option maxHeartbeats 8000000 in
theorem buildT_calls (A : Option Addr) (c : Nat) (ts : List Tk) (w : World) (hC : Kd.C k46 w A ts.length ts) (hok : okTs ts) :
    Calls Tryz.prog 25 #[.slice A ts.length c] w (BuP ts w) := by
  have HC := Lib.hid hC
  have HO := Lib.hid hok
  clear hC hok
  go_enter Tryz.func25, Tryz.ntmps25
  go_wp2_with (first
    | ((with_reducible refine gate_dst (N := 9) rfl ?_); refine Kd.S_lit k49 w.heap.size 49 ?hg (N := 9) ?hd (w0 := w) (xs := [rootN]) (inner := [.int .i64 (-1), .string ⟨#[114, 111, 111, 116]⟩, .string ⟨#[]⟩, .slice none 0 0, .slice none 0 0]) (ok := fun _ => True) (okp := fun _ => True) ?hr ?hp (fun _ hk => hk) trivial (Below.refl _ _) (Nat.le_refl _) (by simp) ?_; (case hd => rfl); (case hg => rfl); (case hr => first | (go_simp; done) | (go_simp; rfl)); (case hp => exact Reps.snoc (ps := []) (cs := []) (Reps.none _ _) (k49_mkM _ _ _ rootN (Kd.R_nil _ _ _ _ _) (Kd.R_nil _ _ _ _ _)) rfl); intro v1 w1 ho hb hg hat; have HS1 := Lib.hid ho; have HB1 := Lib.hid hb; obtain ⟨A1, c1, hv1⟩ := Kd.S_slice ho; subst hv1; clear ho hb hg hat))
  have HBD := Lib.hid (show Bd w1.heap.size w.heap.size (fun k => k ≠ w1.heap.size) (.slice A1 1 c1) [rootN] ((0 : Nat) : Int) (w1.alloc (.cells #[.slice A1 1 c1, .int .i64 0] 92)) from
    ⟨Blk.alloc _ _ _, Kd.S_alloc (Kd.S_mono (Kd.S_bound HS1.out) (fun k hk => by have := hk.2.2.1; omega)) _, HB1.out.size⟩)
  have HB2 := Lib.hid (below_alloc HB1.out (.cells #[.slice A1 1 c1, .int .i64 0] 92))
  have HLL := Lib.hid HO.out.1
  go_loopw [14] (fun i wr => ∃ (k : Nat) (l : List Nd) (a : Nat) (v : Value), k ≤ ts.length ∧ i = .int .i64 k ∧ Hid (bdF (ts.drop k) l a = buildF ts) ∧ Hid (BOk k l a) ∧ Hid (Bd w1.heap.size w.heap.size (fun k => k ≠ w1.heap.size) v l a wr) ∧ Hid (Below w.heap.size w wr)) (fun i wr => ts.length - (intOf i).toNat)
  case atStart => exact ⟨0, [rootN], 0, _, Nat.zero_le _, rfl, Lib.hid rfl, Lib.hid BOk.start, HBD, HB2⟩
  case round =>
    obtain ⟨k, l, a, v, hk, rfl, HF, HK, HD, HB⟩ := hrel
    by_cases hlt : k < ts.length
    · obtain ⟨ad, A3, c3, rfl, e0, e1, e2, e3, l3, g3⟩ := at_T46 (Kd.C_below HC.out HB.out) (k : Int) (by omega) (by omega)
      have hrd : rd_T46 ts (k : Int) = tkAt ts k := by unfold rd_T46 tkAt; rw [Int.toNat_natCast]
      rw [hrd] at e0 e1 e2 e3 l3 g3
      simp only [Int.toNat_natCast] at e0 e1 e2 e3
      have hmem : tkAt ts k ∈ ts := by unfold tkAt; rw [List.getD_eq_getElem?_getD, List.getElem?_eq_getElem hlt]; exact List.getElem_mem _
      have hsz := HO.out.2 _ hmem
      have HST := Lib.hid (bdF_step (l := l) (a := a) hlt)
      obtain ⟨t, ht⟩ : ∃ t, t = tkAt ts k := ⟨_, rfl⟩
      rw [← ht] at e0 e1 e2 e3 l3 g3 hsz HST
      have HSZ := Lib.hid hsz
      clear hrd hmem hsz ht
      have X1 := Lib.hid (Blk.alloc wr #[.int .i64 t.f0, .string t.f1, .string t.f2, .slice A3 t.f3.length c3] 46)
      have X2 := Lib.hid (HD.out.below (below_alloc (Below.refl wr.heap.size wr) (.cells #[.int .i64 t.f0, .string t.f1, .string t.f2, .slice A3 t.f3.length c3] 46)))
      have X3 := Lib.hid (Kd.C_below g3 (below_alloc (Below.refl wr.heap.size wr) (.cells #[.int .i64 t.f0, .string t.f1, .string t.f2, .slice A3 t.f3.length c3] 46)))
      have X4 := Lib.hid (below_alloc HB.out (.cells #[.int .i64 t.f0, .string t.f1, .string t.f2, .slice A3 t.f3.length c3] 46))
      have HL3 := Lib.hid l3
      have i9 : ts.length ≤ 1000000 := HLL.out
      clear g3 l3
      go_upto_region 7 with (fail)
      generalize wr.alloc (.cells #[.int .i64 t.f0, .string t.f1, .string t.f2, .slice A3 t.f3.length c3] 46) = w2 at X1 X2 X3 X4 ⊢
      have y0 := X1.out.cell 0
      have y1 := X1.out.cell 1
      have y2 := X1.out.cell 2
      have y3 := X1.out.cell 3
      simp only [List.getElem?_toArray, List.getElem?_cons_zero, List.getElem?_cons_succ] at y0 y1 y2 y3
      clear e0 e1 e2 e3
      rcases (show rightF t = false ∨ rightF t = true by cases rightF t <;> simp) with hr | hr
      · have HR := Lib.hid hr
        have HE := Lib.hid (show buildF ts = ([], 2) from by rw [← HF.out, HST.out]; unfold bdE; rw [hr]; rfl)
        clear hr
        go_wp2_with (go_at_call 60; refine (right_calls t A3 c3 _ X3.out HL3.out (by have := HSZ.out.2.2.1; omega) HSZ.out.2.2.2 HSZ.out.1).mono ?_; rintro e w3 ⟨rfl, hb3⟩; rw [HR.out]; have HB3 := Lib.hid (X4.out.trans (hb3.mono X4.out.size)); clear hb3)
        go_ret2
        refine ⟨.slice none 0 0, ?_, ?_, HB3.out⟩
        · rw [HE.out]; rfl
        · rw [HE.out]; exact Kd.S_nil _ _ _ _ _
      · by_cases h1 : t.f0 = 1
        · have u1 : (t.f0 == 1) = true := by simpa using h1
          by_cases he : opE l a t = 0
          · have HEE := Lib.hid he
            have HE := Lib.hid (show bdE l a t = 0 from by unfold bdE; rw [if_pos hr, if_pos h1]; exact he)
            have HR := Lib.hid hr
            have HL := Lib.hid (show bdL l a t = opLs l a t from by unfold bdL; rw [if_pos h1])
            have HA := Lib.hid (show bdA l a t = opA l a t from by unfold bdA; rw [if_pos h1])
            clear he hr h1
            go_wp2_with (first | (go_at_call 60; refine (right_calls t A3 c3 _ X3.out HL3.out (by have := HSZ.out.2.2.1; omega) HSZ.out.2.2.2 HSZ.out.1).mono ?_; rintro e w3 ⟨rfl, hb3⟩; rw [HR.out]; have HB3 := Lib.hid (X4.out.trans (hb3.mono X4.out.size)); have HD3 := Lib.hid (X2.out.below hb3); have HC3 := Lib.hid (Kd.C_below X3.out hb3); have z0 : w3.cell? ⟨wr.heap.size, 0, none⟩ = some (.int .i64 t.f0) := (X1.out.below hb3 X1.out.lt).cell 0; have z1 : w3.cell? ⟨wr.heap.size, 1, none⟩ = some (.string t.f1) := (X1.out.below hb3 X1.out.lt).cell 1; have z2 : w3.cell? ⟨wr.heap.size, 2, none⟩ = some (.string t.f2) := (X1.out.below hb3 X1.out.lt).cell 2; have z3 : w3.cell? ⟨wr.heap.size, 3, none⟩ = some (.slice A3 t.f3.length c3) := (X1.out.below hb3 X1.out.lt).cell 3; clear hb3 y0 y1 y2 y3) | (go_at_call 61; refine (open_calls w1.heap.size w.heap.size v l a t A3 c3 _ HD3.out HK.out.at_ HK.out.up HK.out.kids HK.out.len HC3.out HSZ.out.2.2.1).mono ?_; rintro e w4 ⟨rfl, hd4, hb4, -⟩; rw [HEE.out]; have HD4 := Lib.hid hd4; have HB4 := Lib.hid (HB3.out.trans hb4); clear hd4 hb4 z0 z1 z2 z3))
            go_roundw
            case rel => exact ⟨k + 1, bdL l a t, bdA l a t, HD4.out.choose, by omega, by go_num, Lib.hid (by rw [← HF.out, HST.out, if_pos HE.out]), Lib.hid (HK.out.step HSZ.out.2.1 HE.out), Lib.hid (by rw [HL.out, HA.out]; exact HD4.out.choose_spec), HB4⟩
            case measure => simp [intOf]; omega
          · have HE := Lib.hid (show buildF ts = ([], opE l a t) from by
              have h1 : bdE l a t = opE l a t := by unfold bdE; rw [if_pos hr, if_pos h1]
              rw [← HF.out, HST.out, h1, if_neg he])
            have HR := Lib.hid hr
            have v9 : (opE l a t == 0) = false := by simpa using he
            clear he hr h1
            go_wp2_with (first | (go_at_call 60; refine (right_calls t A3 c3 _ X3.out HL3.out (by have := HSZ.out.2.2.1; omega) HSZ.out.2.2.2 HSZ.out.1).mono ?_; rintro e w3 ⟨rfl, hb3⟩; rw [HR.out]; have HB3 := Lib.hid (X4.out.trans (hb3.mono X4.out.size)); have HD3 := Lib.hid (X2.out.below hb3); have HC3 := Lib.hid (Kd.C_below X3.out hb3); have z0 : w3.cell? ⟨wr.heap.size, 0, none⟩ = some (.int .i64 t.f0) := (X1.out.below hb3 X1.out.lt).cell 0; have z1 : w3.cell? ⟨wr.heap.size, 1, none⟩ = some (.string t.f1) := (X1.out.below hb3 X1.out.lt).cell 1; have z2 : w3.cell? ⟨wr.heap.size, 2, none⟩ = some (.string t.f2) := (X1.out.below hb3 X1.out.lt).cell 2; have z3 : w3.cell? ⟨wr.heap.size, 3, none⟩ = some (.slice A3 t.f3.length c3) := (X1.out.below hb3 X1.out.lt).cell 3; clear hb3 y0 y1 y2 y3) | (go_at_call 61; refine (open_calls w1.heap.size w.heap.size v l a t A3 c3 _ HD3.out HK.out.at_ HK.out.up HK.out.kids HK.out.len HC3.out HSZ.out.2.2.1).mono ?_; rintro e w4 ⟨rfl, hd4, hb4, -⟩; have HD4 := Lib.hid hd4; have HB4 := Lib.hid (HB3.out.trans hb4); clear hd4 hb4 z0 z1 z2 z3))
            go_ret2
            refine ⟨.slice none 0 0, ?_, ?_, HB4.out⟩
            · rw [HE.out]; rfl
            · rw [HE.out]; exact Kd.S_nil _ _ _ _ _
        by_cases h2 : t.f0 = 2
        · have u1 : (t.f0 == 1) = false := by simpa using h1
          have u2 : (t.f0 == 2) = true := by simpa using h2
          have HE := Lib.hid (show bdE l a t = 0 from by unfold bdE; rw [if_pos hr, if_neg h1, if_pos h2])
          have HR := Lib.hid hr
          have HL := Lib.hid (show bdL l a t = l from by unfold bdL; rw [if_neg h1, if_pos h2])
          have HA := Lib.hid (show ((bdA l a t : Nat) : Int) = endA l (a : Int) t.f1 from by unfold bdA; rw [if_neg h1, if_pos h2]; have := endA_ok HK.out t.f1; omega)
          clear hr h1 h2
          go_wp2_with (first | (go_at_call 60; refine (right_calls t A3 c3 _ X3.out HL3.out (by have := HSZ.out.2.2.1; omega) HSZ.out.2.2.2 HSZ.out.1).mono ?_; rintro e w3 ⟨rfl, hb3⟩; rw [HR.out]; have HB3 := Lib.hid (X4.out.trans (hb3.mono X4.out.size)); have HD3 := Lib.hid (X2.out.below hb3); have HC3 := Lib.hid (Kd.C_below X3.out hb3); have z0 : w3.cell? ⟨wr.heap.size, 0, none⟩ = some (.int .i64 t.f0) := (X1.out.below hb3 X1.out.lt).cell 0; have z1 : w3.cell? ⟨wr.heap.size, 1, none⟩ = some (.string t.f1) := (X1.out.below hb3 X1.out.lt).cell 1; have z2 : w3.cell? ⟨wr.heap.size, 2, none⟩ = some (.string t.f2) := (X1.out.below hb3 X1.out.lt).cell 2; have z3 : w3.cell? ⟨wr.heap.size, 3, none⟩ = some (.slice A3 t.f3.length c3) := (X1.out.below hb3 X1.out.lt).cell 3; clear hb3 y0 y1 y2 y3) | (go_at_call 62; refine (end_el_calls w1.heap.size w.heap.size v l (a : Int) t.f1 _ HD3.out HK.out.up HK.out.len).mono ?_; rintro e w4 ⟨rfl, hd4, hb4, -⟩; have HD4 := Lib.hid hd4; have HB4 := Lib.hid (HB3.out.trans hb4); clear hd4 hb4 z0 z1 z2 z3))
          go_roundw
          case rel => exact ⟨k + 1, bdL l a t, bdA l a t, HD4.out.choose, by omega, by go_num, Lib.hid (by rw [← HF.out, HST.out, if_pos HE.out]), Lib.hid (HK.out.step HSZ.out.2.1 HE.out), Lib.hid (by rw [HL.out, HA.out]; exact HD4.out.choose_spec), HB4⟩
          case measure => simp [intOf]; omega
        · have u1 : (t.f0 == 1) = false := by simpa using h1
          have u2 : (t.f0 == 2) = false := by simpa using h2
          by_cases he : txE l a t.f2 = 0
          · have HEE := Lib.hid he
            have HE := Lib.hid (show bdE l a t = 0 from by unfold bdE; rw [if_pos hr, if_neg h1, if_neg h2]; exact he)
            have HR := Lib.hid hr
            have HL := Lib.hid (show bdL l a t = txL l a t.f2 from by unfold bdL; rw [if_neg h1, if_neg h2])
            have HA := Lib.hid (show bdA l a t = a from by unfold bdA; rw [if_neg h1, if_neg h2])
            clear he hr h1 h2
            go_wp2_with (first | (go_at_call 60; refine (right_calls t A3 c3 _ X3.out HL3.out (by have := HSZ.out.2.2.1; omega) HSZ.out.2.2.2 HSZ.out.1).mono ?_; rintro e w3 ⟨rfl, hb3⟩; rw [HR.out]; have HB3 := Lib.hid (X4.out.trans (hb3.mono X4.out.size)); have HD3 := Lib.hid (X2.out.below hb3); have HC3 := Lib.hid (Kd.C_below X3.out hb3); have z0 : w3.cell? ⟨wr.heap.size, 0, none⟩ = some (.int .i64 t.f0) := (X1.out.below hb3 X1.out.lt).cell 0; have z1 : w3.cell? ⟨wr.heap.size, 1, none⟩ = some (.string t.f1) := (X1.out.below hb3 X1.out.lt).cell 1; have z2 : w3.cell? ⟨wr.heap.size, 2, none⟩ = some (.string t.f2) := (X1.out.below hb3 X1.out.lt).cell 2; have z3 : w3.cell? ⟨wr.heap.size, 3, none⟩ = some (.slice A3 t.f3.length c3) := (X1.out.below hb3 X1.out.lt).cell 3; clear hb3 y0 y1 y2 y3) | (go_at_call 63; refine (text_calls w1.heap.size w.heap.size v l a t.f2 _ HD3.out HK.out.at_ HK.out.up HK.out.kids HK.out.len (fun i => by have := HK.out.txt i; have := HSZ.out.2.1; omega)).mono ?_; rintro e w4 ⟨rfl, hd4, hb4, -⟩; rw [HEE.out]; have HD4 := Lib.hid hd4; have HB4 := Lib.hid (HB3.out.trans hb4); clear hd4 hb4 z0 z1 z2 z3))
            go_roundw
            case rel => exact ⟨k + 1, bdL l a t, bdA l a t, HD4.out.choose, by omega, by go_num, Lib.hid (by rw [← HF.out, HST.out, if_pos HE.out]), Lib.hid (HK.out.step HSZ.out.2.1 HE.out), Lib.hid (by rw [HL.out, HA.out]; exact HD4.out.choose_spec), HB4⟩
            case measure => simp [intOf]; omega
          · have HE := Lib.hid (show buildF ts = ([], txE l a t.f2) from by
              have h1 : bdE l a t = txE l a t.f2 := by unfold bdE; rw [if_pos hr, if_neg h1, if_neg h2]
              rw [← HF.out, HST.out, h1, if_neg he])
            have HR := Lib.hid hr
            have v9 : (txE l a t.f2 == 0) = false := by simpa using he
            clear he hr h1 h2
            go_wp2_with (first | (go_at_call 60; refine (right_calls t A3 c3 _ X3.out HL3.out (by have := HSZ.out.2.2.1; omega) HSZ.out.2.2.2 HSZ.out.1).mono ?_; rintro e w3 ⟨rfl, hb3⟩; rw [HR.out]; have HB3 := Lib.hid (X4.out.trans (hb3.mono X4.out.size)); have HD3 := Lib.hid (X2.out.below hb3); have HC3 := Lib.hid (Kd.C_below X3.out hb3); have z0 : w3.cell? ⟨wr.heap.size, 0, none⟩ = some (.int .i64 t.f0) := (X1.out.below hb3 X1.out.lt).cell 0; have z1 : w3.cell? ⟨wr.heap.size, 1, none⟩ = some (.string t.f1) := (X1.out.below hb3 X1.out.lt).cell 1; have z2 : w3.cell? ⟨wr.heap.size, 2, none⟩ = some (.string t.f2) := (X1.out.below hb3 X1.out.lt).cell 2; have z3 : w3.cell? ⟨wr.heap.size, 3, none⟩ = some (.slice A3 t.f3.length c3) := (X1.out.below hb3 X1.out.lt).cell 3; clear hb3 y0 y1 y2 y3) | (go_at_call 63; refine (text_calls w1.heap.size w.heap.size v l a t.f2 _ HD3.out HK.out.at_ HK.out.up HK.out.kids HK.out.len (fun i => by have := HK.out.txt i; have := HSZ.out.2.1; omega)).mono ?_; rintro e w4 ⟨rfl, hd4, hb4, -⟩; have HD4 := Lib.hid hd4; have HB4 := Lib.hid (HB3.out.trans hb4); clear hd4 hb4 z0 z1 z2 z3))
            go_ret2
            refine ⟨.slice none 0 0, ?_, ?_, HB4.out⟩
            · rw [HE.out]; rfl
            · rw [HE.out]; exact Kd.S_nil _ _ _ _ _
    · have HFE := Lib.hid (show buildF ts = (l, 0) from by rw [← HF.out, List.drop_of_length_le (by omega)]; rfl)
      have b0 := HD.out.box.cell 0
      simp only [List.getElem?_toArray, List.getElem?_cons_zero, List.getElem?_cons_succ] at b0
      go_wp2_with fail
      go_ret2
      refine ⟨v, ?_, ?_, HB.out⟩
      · rw [HFE.out]; rfl
      · rw [HFE.out]; exact Kd.S_mono HD.out.rows (fun _ _ => trivial)
end Go.Proofs.YtkjgnkmnngaioaaGreat.Q
namespace Go.Proofs.YtkjgnkmnngaioaaGreat.Q
open Go.RowKit Go.Proofs.YtkjgnkmnngaioaaGreatW.PrintWords Go.Proofs.YtkjgnkmnngaioaaGreatW.PrintLast Go.Proofs.YtkjgnkmnngaioaaGreatW.PrintMore
attribute [local go_sem] max2_int min2_int max_two min_two max_three min_three max_four min_four   -- for this text's walks alone
set_option linter.unusedVariables false
set_option linter.unusedSimpArgs false
attribute [local go_sem high] eqA70
def scrimref04_SameAttrs.l0 : Nat → List (S70) → List (S70) → Int → Option (Bool)
  | 0, _, _, _ => none
  | k + 1, x0, x1, x5 => if x5 < (x0.length : Int) then (if 0 ≤ x5 then (if x5 < (x1.length : Int) then (if (!((((rd_T70 x0 x5).f0).toList) == (((rd_T70 x1 x5).f0).toList)) || (!((((rd_T70 x0 x5).f1).toList) == (((rd_T70 x1 x5).f1).toList)))) = true then (some false) else (scrimref04_SameAttrs.l0 k x0 x1 (wrap64 (x5 + 1)))) else (none)) else (none)) else (some true)
def scrimref04_SameAttrs.f (k : Nat) (l0 : List (S70)) (l1 : List (S70)) : Option (Bool) := if (l0.length : Int) = (l1.length : Int) then (scrimref04_SameAttrs.l0 k l0 l1 0) else (some false)
set_option maxHeartbeats 8000000 in
set_option maxRecDepth 100000 in
theorem scrimref04_SameAttrs.calls (k : Nat) (A0 : Option Addr) (c0 : Nat) (l0 : List (S70)) (A1 : Option Addr) (c1 : Nat) (l1 : List (S70)) (r : Bool) (w : World) (hr0 : Kd.C k70 w A0 l0.length l0) (hc0 : l0.length ≤ c0) (hr1 : Kd.C k70 w A1 l1.length l1) (hc1 : l1.length ≤ c1) (h : scrimref04_SameAttrs.f k l0 l1 = some r) :
    Calls Tryz.prog 52 #[.slice A0 l0.length c0, .slice A1 l1.length c1] w fun e w' => e = .returned (.bool r) ∧ Drawn0 w w' := by
  have hu70 := Tryz.underlying70
  have HR0 := Aside0.mk hr0
  have HC0 := Aside0.mk hc0
  clear hr0 hc0
  have HR1 := Aside0.mk hr1
  have HC1 := Aside0.mk hc1
  clear hr1 hc1
  have H : (if (l0.length : Int) = (l1.length : Int) then (scrimref04_SameAttrs.l0 k l0 l1 0) else (some false)) = some r := h
  clear h
  by_cases c3 : (l0.length : Int) = (l1.length : Int)
  · rw [if_pos c3] at H
    have c3b0 : ((l0.length : Int) == (l1.length : Int)) = true := beq_iff_eq.mpr c3
    have c3b1 : ((l0.length : Int) != (l1.length : Int)) = false := bne_eq_false_iff_eq.mpr c3
    have c3b2 : (l0.length == l1.length) = true := by first | simpa using c3 | (simp at c3 ⊢; omega)
    clear c3
    have H' := Aside0.mk H
    clear H
    go_enter Tryz.func52, Tryz.ntmps52
    go_wp2
    repeat (go_quiet (fail); try go_wp2)
    go_loopg [5] k (fun kq v5 w' => ∃ (x5_1 : Int), v5 = .int .i64 x5_1 ∧ Aside0 (scrimref04_SameAttrs.l0 kq l0 l1 x5_1 = some r) ∧ Aside0 (kq ≤ k) ∧ Drawn0 w w')
    case atStart => exact ⟨(0), (by first | rfl | (simp; done) | (simp [*]; done)), H', ⟨Nat.le_refl _⟩, by repeat (first | exact Drawn0.refl _ | apply Drawn0.step)⟩
    case round =>
      clear H'
      try clear c1
      try clear p2
      try clear c3
      try clear c3b0
      try clear c3b1
      try clear c3b2
      obtain ⟨x5_1, rfl, HA, HK1, ⟨m1, rfl⟩⟩ := hrel
      cases gk with
      | zero => exact absurd HA.out (by simp [scrimref04_SameAttrs.l0])
      | succ k1 =>
        have H := HA.out
        clear HA
        simp only [scrimref04_SameAttrs.l0] at H
        by_cases c4 : x5_1 < (l0.length : Int)
        · rw [if_pos c4] at H
          have c4b0 : decide (x5_1 < (l0.length : Int)) = true := decide_eq_true c4
          clear c4
          by_cases c5 : 0 ≤ x5_1
          · rw [if_pos c5] at H
            have c5b0 : decide (0 ≤ x5_1) = true := decide_eq_true c5
            clear c5
            by_cases c6 : x5_1 < (l1.length : Int)
            · rw [if_pos c6] at H
              have c6b0 : decide (x5_1 < (l1.length : Int)) = true := decide_eq_true c6
              clear c6
              by_cases c7 : (!((((rd_T70 l0 x5_1).f0).toList) == (((rd_T70 l1 x5_1).f0).toList)) || (!((((rd_T70 l0 x5_1).f1).toList) == (((rd_T70 l1 x5_1).f1).toList)))) = true
              · rw [if_pos c7] at H
                have c7b0 : (!((((rd_T70 l0 x5_1).f0).toList) == (((rd_T70 l1 x5_1).f0).toList)) || (!((((rd_T70 l0 x5_1).f1).toList) == (((rd_T70 l1 x5_1).f1).toList)))) = true := c7
                clear c7
                obtain rfl := Option.some.inj H
                have p121 : 0 ≤ (x5_1 : Int) := of_decide_eq_true (by first | (with_reducible assumption) | assumption)
                have q121 : x5_1 < (l0.length : Int) := of_decide_eq_true (by first | (with_reducible assumption) | assumption)
                obtain ⟨ad121, e121, hx121_0, hx121_1⟩ := at_T70 HR0.out x5_1 p121 q121
                cases e121
                replace p121 := eq_true p121
                replace q121 := eq_true q121
                have p122 : 0 ≤ (x5_1 : Int) := of_decide_eq_true (by first | (with_reducible assumption) | assumption)
                have q122 : x5_1 < (l1.length : Int) := of_decide_eq_true (by first | (with_reducible assumption) | assumption)
                obtain ⟨ad122, e122, hx122_0, hx122_1⟩ := at_T70 HR1.out x5_1 p122 q122
                cases e122
                replace p122 := eq_true p122
                replace q122 := eq_true q122
                go_wp2
                repeat (go_quiet (fail); try go_wp2)
                go_ret
                exact ⟨by first | rfl | (simp; done) | (simp [*]; done), by repeat (first | exact Drawn0.refl _ | apply Drawn0.step)⟩
              · rw [if_neg c7] at H
                have c7b0 : (!((((rd_T70 l0 x5_1).f0).toList) == (((rd_T70 l1 x5_1).f0).toList)) || (!((((rd_T70 l0 x5_1).f1).toList) == (((rd_T70 l1 x5_1).f1).toList)))) = false := by simpa using c7
                clear c7
                have H' := Aside0.mk H
                clear H
                have p121 : 0 ≤ (x5_1 : Int) := of_decide_eq_true (by first | (with_reducible assumption) | assumption)
                have q121 : x5_1 < (l0.length : Int) := of_decide_eq_true (by first | (with_reducible assumption) | assumption)
                obtain ⟨ad121, e121, hx121_0, hx121_1⟩ := at_T70 HR0.out x5_1 p121 q121
                cases e121
                replace p121 := eq_true p121
                replace q121 := eq_true q121
                have p122 : 0 ≤ (x5_1 : Int) := of_decide_eq_true (by first | (with_reducible assumption) | assumption)
                have q122 : x5_1 < (l1.length : Int) := of_decide_eq_true (by first | (with_reducible assumption) | assumption)
                obtain ⟨ad122, e122, hx122_0, hx122_1⟩ := at_T70 HR1.out x5_1 p122 q122
                cases e122
                replace p122 := eq_true p122
                replace q122 := eq_true q122
                go_wp2
                repeat (go_quiet (fail); try go_wp2)
                go_roundg k1
                case measure => have := HK1.out; omega
                case rel => exact ⟨(wrap64 (x5_1 + 1)), (by first | rfl | (simp; done) | (simp [*]; done)), H', ⟨by have := HK1.out; omega⟩, by repeat (first | exact Drawn0.refl _ | apply Drawn0.step)⟩
            · rw [if_neg c6] at H
              exact absurd H (by simp)
          · rw [if_neg c5] at H
            exact absurd H (by simp)
        · rw [if_neg c4] at H
          have c4b0 : decide (x5_1 < (l0.length : Int)) = false := decide_eq_false c4
          clear c4
          obtain rfl := Option.some.inj H
          go_wp2
          repeat (go_quiet (fail); try go_wp2)
          go_ret
          exact ⟨by first | rfl | (simp; done) | (simp [*]; done), by repeat (first | exact Drawn0.refl _ | apply Drawn0.step)⟩
  · rw [if_neg c3] at H
    have c3b0 : ((l0.length : Int) == (l1.length : Int)) = false := beq_eq_false_iff_ne.mpr c3
    have c3b1 : ((l0.length : Int) != (l1.length : Int)) = true := bne_iff_ne.mpr c3
    have c3b2 : (l0.length == l1.length) = false := by first | simpa using c3 | (simp at c3 ⊢; omega)
    obtain rfl := Option.some.inj H
    go_enter Tryz.func52, Tryz.ntmps52
    go_wp2
    repeat (go_quiet (fail); try go_wp2)
    go_ret
    exact ⟨by first | rfl | (simp; done) | (simp [*]; done), by repeat (first | exact Drawn0.refl _ | apply Drawn0.step)⟩
end Go.Proofs.YtkjgnkmnngaioaaGreat.Q
namespace Go.Proofs.YtkjgnkmnngaioaaGreat.Q
open Go.RowKit Go.IntWalk Go.Proofs.YtkjgnkmnngaioaaGreat.Mem Go.Proofs.YtkjgnkmnngaioaaGreatW.PrintWords Go.Proofs.YtkjgnkmnngaioaaGreatW.PrintLast Go.Proofs.YtkjgnkmnngaioaaGreatW.PrintMore
set_option linter.unusedVariables false
set_option linter.unusedSimpArgs false
theorem sa_same {l : List S70} (hl : l.length ≤ 1000000) : ∀ (f i : Nat), i ≤ l.length → l.length - i < f → scrimref04_SameAttrs.l0 f l l (i : Int) = some true
  | 0, i, _, h => absurd h (Nat.not_lt_zero _)
  | f + 1, i, h0, h => by
    unfold scrimref04_SameAttrs.l0
    by_cases hi : i < l.length
    · rw [if_pos (by omega), if_pos (by omega), if_pos (by omega), if_neg (by simp), IntWalk.wrap64_in _ (by omega), show (i : Int) + 1 = ((i + 1 : Nat) : Int) by omega]
      exact sa_same hl f (i + 1) (by omega) (by omega)
    · rw [if_neg (by omega)]
theorem sa_eq {l : List S70} (hl : l.length ≤ 1000000) : scrimref04_SameAttrs.f (l.length + 1) l l = some true := by
  unfold scrimref04_SameAttrs.f
  rw [if_pos rfl]
  exact sa_same hl _ 0 (Nat.zero_le _) (by omega)
/-- Nodes that are not too many, nor have too much. -/
def okNs (l : List Nd) : Prop := l.length ≤ 1000000 ∧ ∀ x ∈ l, x.f3.length ≤ 1000000 ∧ x.f4.length ≤ 1000000
theorem int_at {w : World} {A : Option Addr} {n : Nat} {xs : List Int} (h : Kd.C (Kd.int .i64) w A n xs) (q : Nat) (hq : q < n) : ∃ ad, A = some ad ∧ w.cell? (ad.add q) = some (.int .i64 (xs.getD q 0)) := by
  obtain ⟨ad, c, e, -, hK, hc⟩ := Kd.C_get h (0 : Int) (q : Int) (by omega) (by omega)
  refine ⟨ad, e, ?_⟩
  rw [Int.toNat_natCast] at hK
  have hK2 : c = [.int .i64 (xs.getD q 0)] := hK
  subst hK2
  have := hc 0 _ rfl
  rw [Int.toNat_natCast] at this
  simpa [Kd.int, Kd.scalar] using this
set_option maxRecDepth 100000 in
set_option maxHeartbeats 8000000 in
theorem same_calls (A : Option Addr) (c : Nat) (A' : Option Addr) (c' : Nat) (l : List Nd) (w : World) (hC : Kd.C k49 w A l.length l) (hC' : Kd.C k49 w A' l.length l) (hc : l.length ≤ c) (hc' : l.length ≤ c') (hok : okNs l) :
    Calls Tryz.prog 29 #[.slice A l.length c, .slice A' l.length c'] w fun e w' => e = .returned (.bool true) ∧ Below w.heap.size w w' := by
  have HC := Lib.hid hC
  have HC' := Lib.hid hC'
  have HO := Lib.hid hok
  clear hC hC' hok
  go_enter Tryz.func29, Tryz.ntmps29
  go_wp2_with fail
  go_loopw [5] (fun i wr => ∃ k : Nat, k ≤ l.length ∧ i = .int .i64 k ∧ Hid (Below w.heap.size w wr)) (fun i wr => l.length - (intOf i).toNat)
  case atStart => exact ⟨0, Nat.zero_le _, rfl, Lib.hid (Below.refl _ _)⟩
  case round =>
    obtain ⟨k, hk, rfl, HB⟩ := hrel
    by_cases hlt : k < l.length
    · obtain ⟨ad, A3, c3, A4, c4, rfl, e0, e1, e2, e3, e4, l3, g3, l4, g4⟩ := at_T49 (Kd.C_below HC.out HB.out) (k : Int) (by omega) (by omega)
      obtain ⟨ad', A3', c3', A4', c4', rfl, e0', e1', e2', e3', e4', l3', g3', l4', g4'⟩ := at_T49 (Kd.C_below HC'.out HB.out) (k : Int) (by omega) (by omega)
      have hrd : rd_T49 l (k : Int) = ndAt l k := by unfold rd_T49 ndAt; rw [Int.toNat_natCast]
      have hmem : ndAt l k ∈ l := by unfold ndAt; rw [List.getD_eq_getElem?_getD, List.getElem?_eq_getElem hlt]; exact List.getElem_mem _
      have hsz := HO.out.2 _ hmem
      obtain ⟨x, hx⟩ : ∃ x, x = ndAt l k := ⟨_, rfl⟩
      rw [hrd, ← hx] at e0 e1 e2 e3 e4 l3 g3 l4 g4 e0' e1' e2' e3' e4' l3' g3' l4' g4'
      rw [← hx] at hsz
      simp only [Int.toNat_natCast] at e0 e1 e2 e3 e4 e0' e1' e2' e3' e4'
      have HSZ := Lib.hid hsz
      have HG3 := Lib.hid g3; have HG4 := Lib.hid g4; have HG3' := Lib.hid g3'; have HG4' := Lib.hid g4'
      have HL3 := Lib.hid l3; have HL3' := Lib.hid l3'
      have i9 : l.length ≤ 1000000 := HO.out.1
      clear hrd hmem hx hsz g3 g4 g3' g4' l3 l3' l4 l4'
      have i8 : x.f4.length ≤ 1000000 := HSZ.out.2
      have i7 : (k : Int) < (l.length : Int) := by omega
      have HSA := Lib.hid (fun y (hy : ∃ n, y = wr.drewN n) => (show Calls Tryz.prog 52 #[.slice A3 x.f3.length c3, .slice A3' x.f3.length c3'] y fun e w' => e = .returned (.bool true) ∧ ∃ n, w' = wr.drewN n from by
        obtain ⟨n, rfl⟩ := hy
        exact (scrimref04_SameAttrs.calls (x.f3.length + 1) A3 c3 x.f3 A3' c3' x.f3 true _ (Kd.C_drewN HG3.out n) HL3.out (Kd.C_drewN HG3'.out n) HL3'.out (sa_eq HSZ.out.1)).mono fun e w' h => ⟨h.1, by obtain ⟨m, hm⟩ := h.2.out; exact ⟨n + m, by rw [hm, World.drewN_drewN]⟩⟩))
      go_upto_region 6 with (fail)
      obtain ⟨C, hC⟩ : ∃ C : Nat → World → Prop, C = fun _ y => ∃ n, y = wr.drewN n := ⟨_, rfl⟩
      have HCI : Hid (∀ i y, C i y ↔ ∃ n, y = wr.drewN n) := Lib.hid (fun i y => by rw [hC])
      clear hC
      have ne : Nonempty (Mix.Wd C 0) := ⟨⟨wr, 0, Nat.le_refl _, (HCI.out _ _).2 ⟨0, rfl⟩⟩⟩
      have fact : ∀ (p : Addr) (u : Value), wr.cell? p = some u → ∀ q : Mix.Wd C 0, q.1.cell? p = some u := fun p u h ⟨y, i, _, hy⟩ => by obtain ⟨n, rfl⟩ := (HCI.out _ _).1 hy; exact h
      have q0 := fact _ _ e0; have q1 := fact _ _ e1; have q2 := fact _ _ e2; have q3 := fact _ _ e3; have q4 := fact _ _ e4
      have r0 := fact _ _ e0'; have r1 := fact _ _ e1'; have r2 := fact _ _ e2'; have r3 := fact _ _ e3'; have r4 := fact _ _ e4'
      clear fact
      have i6 : (0 : Int) ≤ (k : Int) := by omega
      refine Mix.wp_region_mix (C := C) [48] (by kernel_rfl) (by kernel_rfl) ((HCI.out _ _).2 ⟨1, rfl⟩) ?_
      iterate 48 (refine Mix.mix_still (by decide) (fun K hK => ?_); go_simp; refine hK _ ?_; clear hK K)
      refine Mix.mix_turn (by decide) (fun K hK => ?_)
      go_simp
      refine ⟨.bool true, fun w_ hw_ => ?_, hK _ ?_⟩
      · exact (HSA.out w_ ((HCI.out _ _).1 hw_)).mono fun e_ w_ h => ⟨h.1, (HCI.out _ _).2 h.2⟩
      clear hK K
      iterate 17 (refine Mix.mix_still (by decide) (fun K hK => ?_); go_simp; refine hK _ ?_; clear hK K)
      refine Mix.mix_nil ?_
      intro w_ hw_
      obtain ⟨nn, hnn⟩ := (HCI.out _ _).1 hw_
      subst hnn
      clear ne q0 q1 q2 q3 q4 r0 r1 r2 r3 r4 hw_ HCI HSA
      show Exit.then _ _ _ _ _
      go_wp2_with fail
      go_loopw [6] (fun j w3 => ∃ q : Nat, q ≤ x.f4.length ∧ j = .int .i64 q ∧ Hid (∃ n, w3 = wr.drewN n)) (fun j w3 => x.f4.length - (intOf j).toNat)
      case atStart => exact ⟨0, Nat.zero_le _, rfl, Lib.hid ⟨_, rfl⟩⟩
      case round =>
        obtain ⟨q, hq, rfl, HQ⟩ := hrel
        obtain ⟨n, hn⟩ := HQ.out
        subst hn
        clear HQ
        by_cases hqlt : q < x.f4.length
        · obtain ⟨a4, ha4, p4⟩ := int_at HG4.out q hqlt
          obtain ⟨a4', ha4', p4'⟩ := int_at HG4'.out q hqlt
          subst ha4 ha4'
          obtain ⟨z, hz⟩ : ∃ z, z = x.f4.getD q 0 := ⟨_, rfl⟩
          rw [← hz] at p4 p4'
          have i1 : (q : Int) < (x.f4.length : Int) := by omega
          have i2 : (0 : Int) ≤ (q : Int) := by omega
          have i3 : (0 : Int) ≤ (k : Int) := by omega
          clear hz
          go_upto_region 11 with (fail)
          obtain ⟨C, hC⟩ : ∃ C : Nat → World → Prop, C = fun _ y => ∃ n, y = wr.drewN n := ⟨_, rfl⟩
          have HCI : Hid (∀ i y, C i y ↔ ∃ n, y = wr.drewN n) := Lib.hid (fun i y => by rw [hC])
          clear hC
          have ne : Nonempty (Mix.Wd C 0) := ⟨⟨wr, 0, Nat.le_refl _, (HCI.out _ _).2 ⟨0, rfl⟩⟩⟩
          have fact : ∀ (p : Addr) (u : Value), wr.cell? p = some u → ∀ q : Mix.Wd C 0, q.1.cell? p = some u := fun p u h ⟨y, i, _, hy⟩ => by obtain ⟨n, rfl⟩ := (HCI.out _ _).1 hy; exact h
          have s4 := fact _ _ e4
          have s4' := fact _ _ e4'
          have s5 := fact _ _ p4
          have s5' := fact _ _ p4'
          clear fact
          refine Mix.wp_region_mix (C := C) [] (by kernel_rfl) (by kernel_rfl) ((HCI.out _ _).2 ⟨n + 1, rfl⟩) ?_
          iterate 17 (refine Mix.mix_still (by decide) (fun K hK => ?_); go_simp; refine hK _ ?_; clear hK K)
          refine Mix.mix_nil ?_
          intro w_ hw_
          obtain ⟨m, hm⟩ := (HCI.out _ _).1 hw_
          subst hm
          clear ne s4 s4' s5 s5' hw_ HCI
          show Exit.then _ _ _ _ _
          go_wp2_with fail
          go_roundw
          case rel => exact ⟨q + 1, by omega, by go_num, Lib.hid ⟨_, rfl⟩⟩
          case measure => simp [intOf]; omega
        · have i1 : ¬ ((q : Int) < (x.f4.length : Int)) := by omega
          go_wp2_with fail
          go_roundw
          case rel => exact ⟨k + 1, by omega, by go_num, Lib.hid (pw_below_drewN HB.out n)⟩
          case measure => simp [intOf]; omega
    · go_wp2_with fail
      go_ret
      exact ⟨rfl, HB.out⟩
end Go.Proofs.YtkjgnkmnngaioaaGreat.Q
namespace Go.Proofs.YtkjgnkmnngaioaaGreat.Q
open Go.RowKit Go.Proofs.YtkjgnkmnngaioaaGreat.Mem Go.Proofs.YtkjgnkmnngaioaaGreatW.PrintWords Go.Proofs.YtkjgnkmnngaioaaGreatW.PrintLast Go.Proofs.YtkjgnkmnngaioaaGreatW.PrintMore
set_option linter.unusedVariables false
set_option linter.unusedSimpArgs false
instance (ts : List Tk) : Decidable (okTs ts) := by unfold okTs; infer_instance
instance (l : List Nd) : Decidable (okNs l) := by unfold okNs; infer_instance
def tree_Build.f (l0 : List S46) : Option (List S49 × Int) := if okTs l0 then some (buildF l0) else none
theorem tree_Build.calls (A0 : Option Addr) (c0 : Nat) (l0 : List S46) (r0 : List S49) (r1 : Int) (w : World) (hr0 : Kd.C k46 w A0 l0.length l0) (hc0 : l0.length ≤ c0) (h : tree_Build.f l0 = some (r0, r1)) :
    Calls Tryz.prog 25 #[.slice A0 l0.length c0] w fun e w' => ∃ v, e = .returned (.tuple #[v, .int .i64 r1]) ∧ Kd.S k49 49 w' w.heap.size (fun _ => True) v r0 ∧ Below w.heap.size w w' := by
  unfold tree_Build.f at h
  split at h
  · rename_i h1
    injection h with h
    have e0 : (buildF l0).1 = r0 := by rw [h]
    have e1 : (buildF l0).2 = r1 := by rw [h]
    subst e0 e1
    exact buildT_calls A0 c0 l0 w hr0 h1
  · cases h
instance (l : List At) : Decidable (∀ x ∈ l, x.f0.size ≤ 9223372036854775807) := inferInstance
def tree_attrs.f (l0 : List S70) : Option Bool := if l0.length ≤ 1000000 ∧ ∀ x ∈ l0, x.f0.size ≤ 9223372036854775807 then some (attrsF l0) else none
theorem tree_attrs.calls (A0 : Option Addr) (c0 : Nat) (l0 : List S70) (r : Bool) (w : World) (hr0 : Kd.C k70 w A0 l0.length l0) (hc0 : l0.length ≤ c0) (h : tree_attrs.f l0 = some r) :
    Calls Tryz.prog 95 #[.slice A0 l0.length c0] w fun e w' => e = .returned (.bool r) ∧ Below w.heap.size w w' := by
  unfold tree_attrs.f at h
  split at h
  · rename_i h1
    injection h with h
    subst h
    exact attrs_calls A0 c0 l0 w hr0 hc0 (by omega) h1.2
  · cases h
def atEq (a b : S70) : Bool := decide (a.f0.data.toList = b.f0.data.toList) && decide (a.f1.data.toList = b.f1.data.toList)
def lsEq {α : Type} (f : α → α → Bool) : List α → List α → Bool
  | [], [] => true
  | x :: l, y :: m => f x y && lsEq f l m
  | _, _ => false
theorem lsEq_iff {α : Type} {f : α → α → Bool} (hf : ∀ x y, f x y = true ↔ x = y) : ∀ (l m : List α), lsEq f l m = true ↔ l = m
  | [], [] => by simp [lsEq]
  | [], y :: m => by simp [lsEq]
  | x :: l, [] => by simp [lsEq]
  | x :: l, y :: m => by rw [lsEq, Bool.and_eq_true, hf, lsEq_iff hf l m, List.cons.injEq]
theorem ba_same {a b : ByteArray} : a.data.toList = b.data.toList ↔ a = b := ⟨fun h => by cases a; cases b; congr; exact Array.toList_inj.1 h, fun h => by rw [h]⟩
theorem atEq_iff (a b : S70) : atEq a b = true ↔ a = b := by
  unfold atEq
  rw [Bool.and_eq_true, decide_eq_true_iff, decide_eq_true_iff, ba_same, ba_same]
  cases a; cases b; simp
def ndEq (a b : S49) : Bool := decide (a.f0 = b.f0) && decide (a.f1.data.toList = b.f1.data.toList) && decide (a.f2.data.toList = b.f2.data.toList) && lsEq atEq a.f3 b.f3 && lsEq (fun x y => decide (x = y)) a.f4 b.f4
theorem ndEq_iff (a b : S49) : ndEq a b = true ↔ a = b := by
  unfold ndEq
  rw [Bool.and_eq_true, Bool.and_eq_true, Bool.and_eq_true, Bool.and_eq_true, decide_eq_true_iff, decide_eq_true_iff, decide_eq_true_iff, ba_same, ba_same, lsEq_iff atEq_iff, lsEq_iff (fun x y => by simp)]
  cases a; cases b; simp [and_assoc]
def scrimref05_Same.f (l0 l1 : List S49) : Option Bool := if lsEq ndEq l0 l1 = true ∧ okNs l0 then some true else none
theorem scrimref05_Same.calls (A0 : Option Addr) (c0 : Nat) (l0 : List S49) (A1 : Option Addr) (c1 : Nat) (l1 : List S49) (r : Bool) (w : World) (hr0 : Kd.C k49 w A0 l0.length l0) (hc0 : l0.length ≤ c0) (hr1 : Kd.C k49 w A1 l1.length l1) (hc1 : l1.length ≤ c1) (h : scrimref05_Same.f l0 l1 = some r) :
    Calls Tryz.prog 29 #[.slice A0 l0.length c0, .slice A1 l1.length c1] w fun e w' => e = .returned (.bool r) ∧ Below w.heap.size w w' := by
  unfold scrimref05_Same.f at h
  split at h
  · rename_i h1
    injection h with h
    subst h
    obtain rfl := (lsEq_iff ndEq_iff l0 l1).1 h1.1
    exact same_calls A0 c0 A1 c1 l0 w hr0 hr1 hc0 hc1 h1.2
  · cases h
theorem scrimref05_Same.self {l : List S49} (h : okNs l) : scrimref05_Same.f l l = some true := by
  unfold scrimref05_Same.f
  rw [if_pos ⟨(lsEq_iff ndEq_iff l l).2 rfl, h⟩]
end Go.Proofs.YtkjgnkmnngaioaaGreat.Q
namespace Go.Proofs.YtkjgnkmnngaioaaGreat.Q
open Go.RowKit Go.IntWalk Go.Proofs.YtkjgnkmnngaioaaGreat.Mem Go.Proofs.YtkjgnkmnngaioaaGreatW.PrintWords Go.Proofs.YtkjgnkmnngaioaaGreatW.PrintLast Go.Proofs.YtkjgnkmnngaioaaGreatW.PrintMore Go.Proofs.YtkjgnkmnngaioaaGreatW.PrintWords.Kd
set_option linter.unusedVariables false
set_option linter.unusedSimpArgs false
theorem N_copy {P : Program} {α : Type} (d : Kd α) {W : World} (base e : Nat) {ok okF : Nat → Prop} {g n cap c : Nat} {A : Option Addr} {zs xs : List α} (t t' ty : TypeId) (ht : P.underlying t = some (.slice e)) (hinfo : (P.info? e).map (·.size) = some d.sz)
    (hs0 : 0 < d.sz) (hp : 0 < n)
    (HO : Kd.N d e W base ok (.slice (some ⟨g, 0, none⟩) n cap) zs) (HF : Kd.F d W okF A n xs) (hokF : ∀ k, okF k → ok k ∧ k ≠ g) :
    ∃ w1, (Builtin.copy_ #[t, t'] ty #[.slice (some ⟨g, 0, none⟩) n cap, .slice A n c]).run P W = .ok (goInt n) w1 ∧ Kd.N d e w1 base ok (.slice (some ⟨g, 0, none⟩) n cap) xs ∧ W.grownBy w1 (some g) := by
  have hrows := F_rows HF
  obtain ⟨ad, rfl, _⟩ := hrows.2.2 hp
  obtain ⟨inner, hrep, hsrc⟩ := ReadsRow.inner_ hrows
  have hxl : xs.length = n := hrows.1
  have hil : inner.length = n * d.sz := by rw [hrep.1, hxl]
  obtain ⟨h0, rows, hl, ⟨_, inn0, ⟨hi0, hown⟩, hr0⟩, hf⟩ := HO
  obtain ⟨cur, hb, hh, hnc, hcm, hcs, htk⟩ : ∃ cur, base ≤ g ∧ W.heap[g]? = some (.cells cur e (0, 0)) ∧ n ≤ cap ∧ cap ≤ maxLen ∧ cur.size = cap * d.sz ∧ True := by
    rcases hown with ⟨hv, _⟩ | ⟨g', cap', cur, hv, hb, hh, hnc, hcm, hcs, _⟩
    · cases hv
    · injection hv with e1 e2 e3
      injection e1 with e1
      injection e1 with e1
      subst e1 e3
      exact ⟨cur, hb, hh, by rw [e2]; exact hnc, hcm, hcs, trivial⟩
  have hK1 : ∀ u ∈ inner, u.oneCell' = true := by
    intro u hu
    obtain ⟨m, hm, rfl⟩ := List.mem_iff_getElem.1 hu
    have hj : m / d.sz < xs.length := by rw [hxl]; exact Nat.div_lt_of_lt_mul (by rw [Nat.mul_comm]; omega)
    have hq := hrep.2 (m / d.sz) _ (List.getElem?_eq_getElem hj)
    refine d.K_one (FK_now hq) _ ?_
    have hlt : m % d.sz < d.sz := Nat.mod_lt _ hs0
    have : inner[m]? = ((inner.drop (m / d.sz * d.sz)).take d.sz)[m % d.sz]? := by
      rw [List.getElem?_take, if_pos hlt, List.getElem?_drop, Nat.div_add_mod' m d.sz]
    exact List.mem_of_getElem? (this ▸ List.getElem?_eq_getElem hm)
  have hfit : 0 + inner.length ≤ cur.size := by rw [hil, hcs, Nat.zero_add]; exact Nat.mul_le_mul_right _ hnc
  have hld := run_loadCells_list (P := P) W ad inner hsrc
  have hst := run_storeCells_cells (P := P) g 0 inner 0 W (fun j hj => by rw [cell_of_row W g _ cur e (0, 0) hh]; simp; omega) (fun j _ => blk_frozen hh _) hK1
  obtain ⟨cur', h3, h4, h5⟩ := setCells_row inner 0 W cur hh hfit
  obtain ⟨s1, s2, s3, s4⟩ := setCells_same g inner 0 W
  have hG : W.grownBy (W.setCells g 0 inner) (some g) := ⟨s1, s2, s3, by rw [s4]; exact Nat.le_refl _, fun k _ hk => setCells_far _ _ k (fun he => hk (by rw [he]))⟩
  refine ⟨W.setCells g 0 inner, ?_, ⟨h0, chunks d.sz xs.length inner, chunks_length _ _ _, ?_, ?_⟩, hG⟩
  · cases hq : P.info? e with
    | none => simp [hq] at hinfo
    | some i =>
      have hi : i.size = d.sz := by simpa [hq] using hinfo
      have hmin : Nat.min n n = n := Nat.min_self n
      rw [hil] at hld
      simp [Builtin.copy_, run_underlying ht, Builtin.lenOf, Builtin.firstCells, sizeOf, typeInfo, hq, hi, hld] 
      simp at hst
      simp [hst]
  · refine ⟨fun k hk => hk.symm, inner, ⟨by rw [chunks_length, hxl]; exact hil, .inr ⟨g, cap, cur', by rw [chunks_length, hxl], hb, h3, by rw [chunks_length, hxl]; exact hnc, hcm, by rw [h4, hcs]; rfl, ?_⟩⟩, reps_raw hrep (fun y cc hk => ⟨d.K_len (FK_now hk), d.K_one (FK_now hk)⟩)⟩
    rw [h5, List.take_zero, List.nil_append, chunks_length, hxl, show (raw d.sz).sz = d.sz from rfl, ← hil, List.take_append_of_le_length (Nat.le_refl _), List.take_length]
  · intro j x cc hx hcc
    rw [chunks_get hcc]
    have hq := hrep.2 j x hx
    refine FK_mono (FK_step hq (fun k hk hlt => hG.block k hlt (fun he => (hokF k hk).2 (by injection he)))) (fun k hk => ⟨(hokF k hk).1, fun he => (hokF k hk).2 (by simpa [Value.ownBlock] using he)⟩)
end Go.Proofs.YtkjgnkmnngaioaaGreat.Q
namespace Go.Proofs.YtkjgnkmnngaioaaGreat.Q
open Go.RowKit Go.IntWalk Go.Proofs.YtkjgnkmnngaioaaGreat.Mem Go.Proofs.YtkjgnkmnngaioaaGreatW.PrintWords Go.Proofs.YtkjgnkmnngaioaaGreatW.PrintLast Go.Proofs.YtkjgnkmnngaioaaGreatW.PrintMore
set_option linter.unusedVariables false
set_option linter.unusedSimpArgs false
abbrev NdC := S49
theorem cp_zero (W : World) : Kd.FK k49 W (fun _ => False) (⟨0, ⟨#[]⟩, ⟨#[]⟩, [], []⟩ : NdC) [.int .i64 0, .string ⟨#[]⟩, .string ⟨#[]⟩, .slice none 0 0, .slice none 0 0] :=
  fun W' _ => k49_mk W' (⟨0, ⟨#[]⟩, ⟨#[]⟩, [], []⟩ : NdC) (Nat.le_refl _) ⟨rfl, by decide, fun h => absurd h (by decide)⟩ (Nat.le_refl _) ⟨rfl, by decide, fun h => absurd h (by decide)⟩
theorem cp_get {l : List NdC} {i : Nat} (h : i < l.length) : l.getD i ⟨0, ⟨#[]⟩, ⟨#[]⟩, [], []⟩ ∈ l := by
  rw [List.getD_eq_getElem?_getD, List.getElem?_eq_getElem h]; exact List.getElem_mem _
/-- Round: two rows of one's own put into node i. -/
theorem cp_put {W : World} {base g n cap : Nat} {l : List NdC} {i : Nat} {va vk : Value} {B : Nat} (HN : Kd.N k49 49 W base (fun _ => True) (.slice (some ⟨g, 0, none⟩) n cap) l) (hn : n = l.length) (hi : i < l.length)
    (hg : g < B) (HA : Kd.R k70 70 W B (fun _ => True) va (l.getD i ⟨0, ⟨#[]⟩, ⟨#[]⟩, [], []⟩).f3) (HK : Kd.R (Kd.int .i64) 3 W B (fun _ => True) vk (l.getD i ⟨0, ⟨#[]⟩, ⟨#[]⟩, [], []⟩).f4) :
    Kd.N k49 49 ((W.setCell ⟨g, i * 5 + 3, none⟩ va).setCell ⟨g, i * 5 + 4, none⟩ vk) base (fun _ => True) (.slice (some ⟨g, 0, none⟩) n cap) l ∧ W.grownBy ((W.setCell ⟨g, i * 5 + 3, none⟩ va).setCell ⟨g, i * 5 + 4, none⟩ vk) (some g) := by
  obtain ⟨c, hcl, hM, hcc, hfr⟩ := Kd.N_elem HN (⟨0, ⟨#[]⟩, ⟨#[]⟩, [], []⟩ : NdC) (i : Int) (by omega) (by omega)
  simp only [Int.toNat_natCast] at hM hcc
  obtain ⟨x, hx⟩ : ∃ x, x = l.getD i ⟨0, ⟨#[]⟩, ⟨#[]⟩, [], []⟩ := ⟨_, rfl⟩
  rw [← hx] at HA HK hM
  obtain ⟨A3, c3, A4, c4, rfl, l3, g3, l4, g4⟩ := k49_openF hM
  have hM2 : Kd.FK k49 W (fun k => k ≠ g) x [.int .i64 x.f0, .string x.f1, .string x.f2, va, vk] := by
    refine Kd.FK_mono (Kd.FK_of_M (k49_mkM W B (fun k => B ≤ k) x ?_ ?_)) (fun k hk => by omega)
    · exact ⟨fun k hk => own_base HA.2.choose_spec.1 k hk, HA.2.choose, HA.2.choose_spec.1, HA.2.choose_spec.2.imp_ (fun _ _ _ => by rename_i h; exact h)⟩
    · exact ⟨fun k hk => own_base HK.2.choose_spec.1 k hk, HK.2.choose, HK.2.choose_spec.1, HK.2.choose_spec.2.imp_ (fun _ _ _ => by rename_i h; exact h)⟩
  have := Kd.N_seg HN (i : Int) (by omega) (by omega) (c := [.int .i64 x.f0, .string x.f1, .string x.f2, .slice A3 x.f3.length c3, .slice A4 x.f4.length c4]) (seg := [va, vk]) (j := 3) rfl (by simpa using hcc) (show 3 + 2 ≤ 5 by decide) (x' := x) (okp := fun k => k ≠ g) hM2 (fun k hk => ⟨trivial, hk⟩)
  rw [Int.toNat_natCast, show l.set i x = l from by rw [hx]; apply List.ext_getElem?; intro j; rw [List.getElem?_set]; split <;> simp_all [List.getD_eq_getElem?_getD]] at this
  exact this
theorem cp_cells {W : World} {base g n cap : Nat} {l : List NdC} {i : Nat} (v : Value) (HN : Kd.N k49 49 W base (fun _ => True) (.slice (some ⟨g, 0, none⟩) n cap) l) (hn : n = l.length) (hi : i < l.length) :
    ∃ u1 u2, W.cell? ⟨g, i * 5 + 3, none⟩ = some u1 ∧ W.frozen? ⟨g, i * 5 + 3, none⟩ = false ∧ (W.setCell ⟨g, i * 5 + 3, none⟩ v).cell? ⟨g, i * 5 + 4, none⟩ = some u2 ∧ (W.setCell ⟨g, i * 5 + 3, none⟩ v).frozen? ⟨g, i * 5 + 4, none⟩ = false := by
  obtain ⟨c, hcl, hM, hcc, hfr⟩ := Kd.N_elem HN (⟨0, ⟨#[]⟩, ⟨#[]⟩, [], []⟩ : NdC) (i : Int) (by omega) (by omega)
  simp only [Int.toNat_natCast] at hM hcc hfr
  have hc5 : c.length = 5 := hcl
  have hb : ∃ cur, W.heap[g]? = some (.cells cur 49 (0, 0)) := by
    obtain ⟨g', cap', hv, _, _, cur, h⟩ := Kd.N_form HN (by omega)
    injection hv with e1 e2 e3
    injection e1 with e1
    injection e1 with e1
    exact ⟨cur, by rw [e1]; exact h⟩
  obtain ⟨cur, hb⟩ := hb
  have e3 : W.cell? ⟨g, i * 5 + 3, none⟩ = some c[3] := hcc 3 _ (List.getElem?_eq_getElem (by omega))
  have e4 : W.cell? ⟨g, i * 5 + 4, none⟩ = some c[4] := hcc 4 _ (List.getElem?_eq_getElem (by omega))
  have hb' := blk_set hb (i * 5 + 3) v
  refine ⟨c[3], c[4], e3, blk_frozen hb _, ?_, blk_frozen hb' _⟩
  rw [cell_of_row _ g _ _ 49 (0, 0) hb] at e4
  rw [cell_of_row _ g _ _ 49 (0, 0) hb']
  simp at e4 ⊢
  exact e4
set_option maxRecDepth 100000 in
set_option maxHeartbeats 8000000 in
theorem copy_calls (A : Option Addr) (c : Nat) (l : List NdC) (w : World) (hC : Kd.C k49 w A l.length l) (hc : l.length ≤ c) (hl : l.length ≤ 1000000) (hx : ∀ x ∈ l, x.f3.length ≤ 1000000 ∧ x.f4.length ≤ 1000000) :
    Calls Tryz.prog 47 #[.slice A l.length c] w fun e w' => ∃ v, e = .returned v ∧ Kd.N k49 49 w' w.heap.size (fun _ => True) v l ∧ Below w.heap.size w w' := by
  have HC := Lib.hid hC
  have HX := Lib.hid hx
  have HCC := Lib.hid hc
  clear hC hx hc
  by_cases h0 : l = []
  · subst h0
    go_enter Tryz.func47, Tryz.ntmps47
    go_wp2_with fail
    go_ret
    exact ⟨_, rfl, Kd.N_nil _ _ _ _ _, Below.refl _ _⟩
  have h1 : ¬ l.length = 0 := fun h => h0 (List.length_eq_zero_iff.1 h)
  have v1 : ((l.length : Int) == 0) = false := by simp; exact h0
  have hpos : 0 < l.length := by omega
  have HL := Lib.hid hl
  clear h0 hl
  go_enter Tryz.func47, Tryz.ntmps47
  go_wp2_with (first
    | ((with_reducible refine gate_dst (N := 11) rfl ?_); (refine Kd.N_make k49 w.heap.size 49 (w0 := w) rfl (N' := 11) rfl 38 (.tmp 10) (.tmp 10) rfl (l.length : Int) rfl rfl Tryz.underlying38 (.agg #[(.int .i64 0), (.string ⟨#[]⟩), (.string ⟨#[]⟩), (.slice none 0 0), (.slice none 0 0)]) 88 (by kernel_rfl) rfl (by decide) (by decide) _ (cp_zero w) (fun _ h => trivial) trivial (by omega) (by have := HL.out; omega) (Below.refl _ _) (Nat.le_refl _) ?_; intro v2 w1 hN hb hg hat; obtain ⟨g, cap, hv, hbg, hgl, -⟩ := Kd.N_form hN (by simp; omega); simp only [Int.toNat_natCast, List.length_replicate] at hv; subst hv; obtain ⟨w2, hrun, hN2, hG2⟩ := N_copy (P := Tryz.prog) k49 w.heap.size 49 (c := c) (xs := l) (okF := fun k => k < w.heap.size) 38 38 3 Tryz.underlying38 (by kernel_rfl) (by decide) hpos hN (Kd.F_mono (Kd.F_below (Kd.C_F k49_heap HC.out) hb) (fun k hk => hk)) (fun k hk => ⟨trivial, by omega⟩); have HN2 := Lib.hid hN2; have HB2 := Lib.hid (hb.grown hG2 hb.size (fun k hk => by injection hk with hk; omega)); have HGB := Lib.hid hbg; (try clear hbg); (try clear hN2); (try clear hG2); (try clear hN); (try clear hat); (try clear hg); (try clear hb)))
    | ((with_reducible refine gate_builtin (b := .copy) (xs := #[.tmp 12, .tmp 13]) rfl ?_); at_builtin; refine Lib.wpList_copy_run _ rfl _ _ 38 38 rfl _ _ rfl rfl hrun ?_))
  clear hrun
  go_loopw [17] (fun i wr => ∃ k : Nat, k ≤ l.length ∧ i = .int .i64 k ∧ Hid (Kd.N k49 49 wr w.heap.size (fun _ => True) (.slice (some ⟨g, 0, none⟩) l.length cap) l) ∧ Hid (Below w.heap.size w wr) ∧ Hid (g < wr.heap.size)) (fun i wr => l.length - (intOf i).toNat)
  case atStart => exact ⟨0, Nat.zero_le _, rfl, HN2, HB2, Lib.hid (Kd.N_lt HN2.out g rfl)⟩
  case round =>
    obtain ⟨k, hk, rfl, HI, HB, HG⟩ := hrel
    by_cases hlt : k < l.length
    · obtain ⟨ad, A3, c3, A4, c4, had, h0, h1, h2, h3, h4, l3, r3, l4, r4⟩ := at_T49 (Kd.N_reads' HI.out).2.2 (k : Int) (by omega) (by omega)
      cases had
      have hrd : rd_T49 l (k : Int) = l.getD k ⟨0, ⟨#[]⟩, ⟨#[]⟩, [], []⟩ := by unfold rd_T49; rw [Int.toNat_natCast]; rfl
      have hxm := HX.out _ (cp_get hlt)
      rw [hrd] at h0 h1 h2 h3 h4 l3 r3 l4 r4
      simp only [Int.toNat_natCast] at h0 h1 h2 h3 h4
      obtain ⟨x, hx⟩ : ∃ x, x = l.getD k ⟨0, ⟨#[]⟩, ⟨#[]⟩, [], []⟩ := ⟨_, rfl⟩
      rw [← hx] at h0 h1 h2 h3 h4 l3 r3 l4 r4 hxm
      have HXE := Lib.hid hx
      have HR3 := Lib.hid r3
      have HR4 := Lib.hid r4
      have HXM := Lib.hid hxm
      clear hx hrd r3 r4 hxm l3 l4
      have hadd : (⟨g, 0, none⟩ : Addr).add (k * 5) = ⟨g, k * 5, none⟩ := by unfold Addr.add; split <;> simp_all
      rw [hadd] at h0 h1 h2 h3 h4
      simp only [] at h0 h1 h2 h3 h4
      clear hadd
      go_upto_region 8 with (fail)
      clear h0 h1 h2 h3 h4
      have X1 := Lib.hid (Blk.alloc wr #[.int .i64 x.f0, .string x.f1, .string x.f2, .slice A3 x.f3.length c3, .slice A4 x.f4.length c4] 49)
      have X2 := Lib.hid (below_alloc (Below.refl wr.heap.size wr) (.cells #[.int .i64 x.f0, .string x.f1, .string x.f2, .slice A3 x.f3.length c3, .slice A4 x.f4.length c4] 49))
      generalize (wr.alloc (.cells #[.int .i64 x.f0, .string x.f1, .string x.f2, .slice A3 x.f3.length c3, .slice A4 x.f4.length c4] 49)) = w1 at X1 X2 ⊢
      have x3 := X1.out.cell 3
      have x4 := X1.out.cell 4
      simp only [List.getElem?_toArray, List.getElem?_cons_zero, List.getElem?_cons_succ] at x3 x4
      go_region_law (first
        | (go_simp; go_at_call 83; refine (cloneA_calls A3 c3 x.f3 _ (Kd.C_below (Kd.C_below HR3.out X2.out) (below_drew (Below.refl _ _))) HXM.out.1).mono ?_; rintro e w3 ⟨va, rfl, hr, hb⟩; have hb1 : Below w1.heap.size w1 w3 := Below.trans (b := w1.drew) ⟨rfl, rfl, rfl, Nat.le_refl _, fun _ _ => rfl⟩ hb; have HRA := Lib.hid (show Kd.R k70 70 w3 w1.heap.size (fun _ => True) va x.f3 from hr); have HB1 := Lib.hid hb1; obtain ⟨Aa, ca, hva⟩ := Kd.R_slice hr; subst hva; have x4' : w3.cell? ⟨wr.heap.size, 4, none⟩ = some (.slice A4 x.f4.length c4) := (X1.out.below hb1 X1.out.lt).cell 4; clear hr hb hb1)
        | (go_simp; go_at_call 84; refine (cloneI_calls A4 c4 x.f4 _ (Kd.C_below (Kd.C_below HR4.out X2.out) HB1.out) HXM.out.2).mono ?_; rintro e w4 ⟨vk, rfl, hr, hb⟩; have HRK := Lib.hid hr; obtain ⟨Ak, ck, hvk⟩ := Kd.R_slice hr; subst hvk; have HB2 := Lib.hid hb; have HN4 := Lib.hid (Kd.N_below (Kd.N_below (Kd.N_below HI.out X2.out) HB1.out) hb); obtain ⟨u1, u2, s1, s2, s3, s4⟩ := cp_cells (.slice Aa x.f3.length ca) HN4.out rfl hlt; clear hr hb))
      all_goals
        obtain ⟨hp, hg5⟩ := cp_put HN4.out rfl hlt (B := w1.heap.size) (va := .slice Aa x.f3.length ca) (vk := .slice Ak x.f4.length ck) (Nat.lt_of_lt_of_le HG.out X2.out.size) (HXE.out ▸ Kd.R_below HRA.out HB2.out) (HXE.out ▸ Kd.R_lower HRK.out HB1.out.size)
        have HP := Lib.hid hp
        have HG5 := Lib.hid (show g < _ from Nat.lt_of_lt_of_le (Nat.lt_of_lt_of_le HG.out (Nat.le_trans X2.out.size (Nat.le_trans HB1.out.size HB2.out.size))) hg5.size)
        have HB5 := Lib.hid ((((HB.out.trans (X2.out.mono HB.out.size)).trans (HB1.out.mono (Nat.le_trans HB.out.size X2.out.size))).trans (HB2.out.mono (Nat.le_trans HB.out.size (Nat.le_trans X2.out.size HB1.out.size)))).grown hg5 (Nat.le_trans HB.out.size (Nat.le_trans X2.out.size (Nat.le_trans HB1.out.size HB2.out.size))) (fun j hj => by injection hj with hj; have := HGB.out; omega))
        clear hp hg5 s1 s2 s3 s4 x3 x4 x4'
        have v2 : IntKind.i64.wrap ((k : Int) + 1) = (k : Int) + 1 := i64_in _ (by have := HL.out; omega)
        generalize (((w4.setCell ⟨g, k * 5 + 3, none⟩ (.slice Aa x.f3.length ca))).setCell ⟨g, k * 5 + 4, none⟩ (.slice Ak x.f4.length ck)) = w5 at HP HG5 HB5 ⊢
        go_wp2_with fail
        exact ⟨⟨k + 1, by omega, by simp, HP, HB5, HG5⟩, by simp only [intOf]; omega⟩
    · go_wp2_with fail
      go_ret
      exact ⟨_, rfl, HI.out, HB.out⟩
end Go.Proofs.YtkjgnkmnngaioaaGreat.Q
namespace Go.Proofs.YtkjgnkmnngaioaaGreat.Q
open Go.RowKit Go.Proofs.YtkjgnkmnngaioaaGreatW.PrintWords Go.Proofs.YtkjgnkmnngaioaaGreatW.PrintLast Go.Proofs.YtkjgnkmnngaioaaGreatW.PrintMore
attribute [local go_sem] max2_int min2_int max_two min_two max_three min_three max_four min_four   -- for this text's walks alone
set_option linter.unusedVariables false
set_option linter.unusedSimpArgs false
def tree_Read.f (a0 : ByteArray) : Option ((List (S49)) × Int) := (token_Read.f a0).bind fun bt132 => (if bt132.2 = 0 then ((tree_Build.f bt132.1).bind fun bt136 => (some (bt136.1, bt136.2))) else (some (([] : List (S49)), bt132.2)))
set_option maxHeartbeats 8000000 in
set_option maxRecDepth 100000 in
theorem tree_Read.calls (a0 : ByteArray) (r1 : List (S49)) (r2 : Int) (w : World) (h : tree_Read.f a0 = some (r1, r2)) :
    Calls Tryz.prog 26 #[.string a0] w fun e w' => ∃ v0_ : Value, e = .returned (.tuple #[v0_, .int .i64 r2]) ∧ Kd.S k49 49 w' w.heap.size (fun _ => True) v0_ r1 ∧ Below w.heap.size w w' := by
  have HB := Aside0.mk (Below.refl w.heap.size w)
  have H : ((token_Read.f a0).bind fun bt132 => (if bt132.2 = 0 then ((tree_Build.f bt132.1).bind fun bt136 => (some (bt136.1, bt136.2))) else (some (([] : List (S49)), bt132.2)))) = some (r1, r2) := h
  clear h
  replace H := Option.bind_eq_some_iff.mp H
  obtain ⟨⟨t132, t133⟩, A20, H⟩ := H
  replace H : (if t133 = 0 then ((tree_Build.f t132).bind fun bt136 => (some (bt136.1, bt136.2))) else (some (([] : List (S49)), t133))) = some (r1, r2) := H
  have A2 := Aside0.mk A20
  clear A20
  by_cases c3 : t133 = 0
  · rw [if_pos c3] at H
    have c3b0 : (t133 == 0) = true := beq_iff_eq.mpr c3
    have c3b1 : (t133 != 0) = false := bne_eq_false_iff_eq.mpr c3
    clear c3
    replace H := Option.bind_eq_some_iff.mp H
    obtain ⟨⟨t136, t137⟩, A40, H⟩ := H
    replace H : (some (t136, t137)) = some (r1, r2) := H
    have A4 := Aside0.mk A40
    clear A40
    simp only [Option.some.injEq, Prod.mk.injEq] at H
    obtain ⟨rfl, rfl⟩ := H
    go_enter Tryz.func26, Tryz.ntmps26
    go_wp2_with (first | ((with_reducible refine gate_callee (f := 13) rfl ?_); refine goesL_ (some 8) rfl rfl Tryz.func13 (by kernel_rfl) rfl #[.string a0] rfl (by (try simp only [List.map_toArray, List.map_cons, List.map_nil]); first | done | rfl | (simp only [List.length_drop, List.length_take]; rfl)) ?_; (with_reducible refine (token_Read.calls a0 t132 t133 _ A2.out).mono ?_); rintro e w5 ⟨v134, rfl, ho0, hb⟩; refine ⟨_, rfl, ?_⟩; have n0_ := Aside0.mk (Kd.S_lower ho0 (below_size (by repeat (first | (with_reducible first | exact HB.out | apply below_alloc | apply pw_below_drewN | apply below_drew1) | exact HB.out)))); have n1_ := Aside0.mk (below_step (by repeat (first | (with_reducible first | exact HB.out | apply below_alloc | apply pw_below_drewN | apply below_drew1) | exact HB.out)) hb); clear HB; have HO135 := n0_; have HB := n1_; clear n0_ n1_; (try clear hb); (try clear hb2); (try clear hk); (try clear hi); (try clear ho0); obtain ⟨Ao6, co6, eo6⟩ := Kd.S_slice HO135.out; subst eo6) | ((with_reducible refine gate_callee (f := 25) rfl ?_); refine goesL_ (some 15) rfl rfl Tryz.func25 (by kernel_rfl) rfl #[.slice Ao6 t132.length co6] rfl (by (try simp only [List.map_toArray, List.map_cons, List.map_nil]); first | done | rfl | (simp only [List.length_drop, List.length_take]; rfl)) ?_; (with_reducible refine (tree_Build.calls _ _ t132 t136 t137 _ ?side1 ?side2 A4.out).mono ?_); (case side1 => repeat (first | exact (Kd.S_reads' HO135.out).2.2 | (with_reducible refine Kd.C_alloc ?_ _) | (with_reducible refine Kd.C_drewN ?_ _) | (with_reducible refine Kd.C_drew ?_))); (case side2 => exact (Kd.S_reads' HO135.out).2.1); rintro e w7 ⟨v138, rfl, ho0, hb⟩; refine ⟨_, rfl, ?_⟩; have n0_ := Aside0.mk (Kd.S_below (by (with_reducible repeat (first | apply Kd.S_alloc | apply Kd.S_drewN | apply Kd.S_drew)); exact HO135.out) hb); have n1_ := Aside0.mk (Kd.S_lower ho0 (below_size (by repeat (first | (with_reducible first | exact HB.out | apply below_alloc | apply pw_below_drewN | apply below_drew1) | exact HB.out)))); have n2_ := Aside0.mk (below_step (by repeat (first | (with_reducible first | exact HB.out | apply below_alloc | apply pw_below_drewN | apply below_drew1) | exact HB.out)) hb); clear HO135; clear HB; have HO135 := n0_; have HO139 := n1_; have HB := n2_; clear n0_ n1_ n2_; (try clear hb); (try clear hb2); (try clear hk); (try clear hi); (try clear ho0)))
    go_ret2
    exact ⟨_, by first | rfl | (simp [errW_none, errW_some] <;> rfl) | (simp [*, errW_none, errW_some] <;> rfl), by (with_reducible repeat (first | apply Kd.S_alloc | apply Kd.S_drewN | apply Kd.S_drew)); exact HO139.out, by repeat (first | (with_reducible first | exact HB.out | apply below_alloc | apply pw_below_drewN | apply below_drew1) | exact HB.out)⟩
  · rw [if_neg c3] at H
    have c3b0 : (t133 == 0) = false := beq_eq_false_iff_ne.mpr c3
    have c3b1 : (t133 != 0) = true := bne_iff_ne.mpr c3
    simp only [Option.some.injEq, Prod.mk.injEq] at H
    obtain ⟨rfl, rfl⟩ := H
    go_enter Tryz.func26, Tryz.ntmps26
    go_wp2_with (first | ((with_reducible refine gate_callee (f := 13) rfl ?_); refine goesL_ (some 8) rfl rfl Tryz.func13 (by kernel_rfl) rfl #[.string a0] rfl (by (try simp only [List.map_toArray, List.map_cons, List.map_nil]); first | done | rfl | (simp only [List.length_drop, List.length_take]; rfl)) ?_; (with_reducible refine (token_Read.calls a0 t132 t133 _ A2.out).mono ?_); rintro e w8 ⟨v134, rfl, ho0, hb⟩; refine ⟨_, rfl, ?_⟩; have n0_ := Aside0.mk (Kd.S_lower ho0 (below_size (by repeat (first | (with_reducible first | exact HB.out | apply below_alloc | apply pw_below_drewN | apply below_drew1) | exact HB.out)))); have n1_ := Aside0.mk (below_step (by repeat (first | (with_reducible first | exact HB.out | apply below_alloc | apply pw_below_drewN | apply below_drew1) | exact HB.out)) hb); clear HB; have HO135 := n0_; have HB := n1_; clear n0_ n1_; (try clear hb); (try clear hb2); (try clear hk); (try clear hi); (try clear ho0)))
    go_ret2
    exact ⟨_, by first | rfl | (simp [errW_none, errW_some] <;> rfl) | (simp [*, errW_none, errW_some] <;> rfl), by first | exact Kd.S_nil _ _ _ _ _ | exact Kd.N_nil _ _ _ _ _ | exact Kd.V_nil _ _ _ _ _ | exact Kd.Q_nil _ _ _ _ _ | exact Kd.R_nil _ _ _ _ _, by repeat (first | (with_reducible first | exact HB.out | apply below_alloc | apply pw_below_drewN | apply below_drew1) | exact HB.out)⟩
end Go.Proofs.YtkjgnkmnngaioaaGreat.Q
