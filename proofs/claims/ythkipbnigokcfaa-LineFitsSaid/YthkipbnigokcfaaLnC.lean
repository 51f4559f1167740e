/- Fill's question to every piece: slices.ContainsFunc with the function that asks whether its numbers may be laid. -/
import Derived.Test.YthkipbnigokcfaaLnW
namespace Go.Proofs.Ythkipbnigokcfaa.Q
open Go.RowKit Go.IntWalk Go.Proofs.Ythkipbnigokcfaa.Mem Go.Proofs.YthkipbnigokcfaaW.PrintWords Go.Proofs.YthkipbnigokcfaaW.PrintLast Go.Proofs.YthkipbnigokcfaaW.PrintMore
set_option linter.unusedVariables false
set_option linter.unusedSimpArgs false

def badP (p : Pc) : Bool := !inB p.f1 || !inB p.f2 || !inB p.f3
theorem bad_calls (p : Pc) (w : World) : Calls Try.prog 17 #[.agg #[.int .i64 p.f0, .int .i64 p.f1, .int .i64 p.f2, .int .i64 p.f3, .string p.f4, .bool p.f5]] w fun e w' => e = .returned (.bool (badP p)) ∧ Below w.heap.size w w' := by
  obtain ⟨x0, x1, x2, x3, x4, x5⟩ := p
  dsimp only
  unfold badP
  dsimp only
  generalize h1 : inB x1 = b1
  generalize h2 : inB x2 = b2
  generalize h3 : inB x3 = b3
  have H1 := Lib.hid h1
  have H2 := Lib.hid h2
  have H3 := Lib.hid h3
  clear h1 h2 h3
  cases b1 <;> cases b2 <;> cases b3
  all_goals
    go_enter Try.func17, Try.ntmps17
    go_wp2_with (go_at_call 15; refine (within_calls _ _).mono ?_; rintro e w' ⟨rfl, rfl⟩; first | rw [H1.out] | rw [H2.out] | rw [H3.out])
    go_ret
    exact ⟨rfl, (Below.refl _ _).alloc (Nat.le_refl _) _⟩

/-- The first piece, from a place on, that may not be laid; -1: there is none. -/
def badFrom : List Pc → Nat → Int
  | [], _ => -1
  | x :: l, k => if badP x = true then (k : Int) else badFrom l (k + 1)
theorem badFrom_drop (l : List Pc) (k : Nat) (h : k < l.length) : badFrom (l.drop k) k = if badP l[k] = true then (k : Int) else badFrom (l.drop (k + 1)) (k + 1) := by
  rw [List.drop_eq_getElem_cons h]; rfl
theorem badFrom_any : ∀ (l : List Pc) (k : Nat), decide (badFrom l k ≥ 0) = l.any badP
  | [], _ => rfl
  | x :: l, k => by
    unfold badFrom
    by_cases h : badP x = true
    · rw [if_pos h]; simp [h]
    · rw [if_neg h, badFrom_any l (k + 1)]; simp [h]

set_option maxHeartbeats 1000000 in
theorem index_calls (A0 : Option Addr) (c0 : Nat) (l : List Pc) (w : World) (hr0 : Kd.C k32 w A0 l.length l) (hl : l.length ≤ 9223372036854775806) :
    Calls Try.prog 23 #[.slice A0 l.length c0, .func (.func 17) #[] #[]] w fun e w' => e = .returned (.int .i64 (badFrom l 0)) ∧ Below w.heap.size w w' := by
  have HR := Lib.hid hr0
  clear hr0
  go_enter Try.func23, Try.ntmps23
  go_wp2_with fail
  go_loopw [8] (fun i wr => ∃ k : Nat, k ≤ l.length ∧ i = .int .i64 k ∧ Hid (badFrom l 0 = badFrom (l.drop k) k) ∧ Hid (Below w.heap.size w wr)) (fun i wr => l.length - (intOf i).toNat)
  case atStart => exact ⟨0, Nat.zero_le _, rfl, Lib.hid rfl, Lib.hid (Below.refl _ _)⟩
  case round =>
    obtain ⟨k, hk, rfl, HI, HB⟩ := hrel
    by_cases hlt : k < l.length
    · obtain ⟨ad, rfl, h0, h1, h2, h3, h4, h5⟩ := at_T32 (Kd.C_below HR.out HB.out) (k : Int) (by omega) (by omega)
      have hrd : Hid (rd_T32 l (k : Int) = l[k]) := Lib.hid (by simp [rd_T32, hlt])
      have HS := Lib.hid (badFrom_drop l k hlt)
      simp only [Int.toNat_natCast] at h0 h1 h2 h3 h4 h5
      generalize hx : rd_T32 l (k : Int) = x at *
      have HX := Lib.hid hx
      clear hx
      rcases (show badP x = false ∨ badP x = true by cases badP x <;> simp) with he | he
      · have HE := Lib.hid he
        clear he
        go_wp2_with fail
        refine (bad_calls x _).mono ?_
        rintro e w' ⟨rfl, hb'⟩
        rw [HE.out]
        have HB' := Lib.hid (HB.out.trans (hb'.mono HB.out.size))
        clear hb'
        go_wp2_with fail
        go_roundw
        case rel => exact ⟨k + 1, by omega, by go_num, Lib.hid (by rw [HI.out, HS.out, ← hrd.out, if_neg (by rw [HE.out]; decide)]), HB'⟩
        case measure => simp [intOf]; omega
      · have HE := Lib.hid he
        clear he
        go_wp2_with fail
        refine (bad_calls x _).mono ?_
        rintro e w' ⟨rfl, hb'⟩
        rw [HE.out]
        have HB' := Lib.hid (HB.out.trans (hb'.mono HB.out.size))
        clear hb'
        go_wp2_with fail
        go_ret
        exact ⟨by rw [HI.out, HS.out, ← hrd.out, if_pos HE.out]; rfl, HB'.out⟩
    · have hd : l.drop k = [] := by rw [List.drop_eq_nil_iff]; omega
      have HD := Lib.hid hd
      clear hd
      go_wp2_with fail
      go_ret
      exact ⟨by rw [HI.out, HD.out]; rfl, HB.out⟩

theorem contains_calls (A0 : Option Addr) (c0 : Nat) (l : List Pc) (w : World) (hr0 : Kd.C k32 w A0 l.length l) (hl : l.length ≤ 9223372036854775806) :
    Calls Try.prog 16 #[.slice A0 l.length c0, .func (.func 17) #[] #[]] w fun e w' => e = .returned (.bool (l.any badP)) ∧ Below w.heap.size w w' := by
  have HR := Lib.hid hr0
  clear hr0
  go_enter Try.func16, Try.ntmps16
  go_wp2_with fail
  refine (index_calls A0 c0 l _ HR.out hl).mono ?_
  rintro e w' ⟨rfl, hb'⟩
  have HB' := Lib.hid hb'
  clear hb'
  go_wp2_with fail
  go_ret
  exact ⟨by rw [← badFrom_any l 0]; rfl, HB'.out⟩
end Go.Proofs.Ythkipbnigokcfaa.Q
