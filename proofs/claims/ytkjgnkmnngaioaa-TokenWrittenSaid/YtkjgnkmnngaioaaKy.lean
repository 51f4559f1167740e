/- An attribute's name is asked for: slices.ContainsFunc with the function that asks. -/
import Derived.Test.YtkjgnkmnngaioaaQx0
import Derived.Test.YtkjgnkmnngaioaaMmx
namespace Go.Proofs.Ytkjgnkmnngaioaa.Q
open Go.RowKit Go.Proofs.Ytkjgnkmnngaioaa.Mem Go.Proofs.YtkjgnkmnngaioaaW.PrintWords Go.Proofs.YtkjgnkmnngaioaaW.PrintLast Go.Proofs.YtkjgnkmnngaioaaW.PrintMore
set_option linter.unusedVariables false
set_option linter.unusedSimpArgs false

/-- Are two texts the same? -/
def eqS (a b : ByteArray) : Bool := decide (a.toList = b.toList)
theorem ret_bool' {a b : Bool} (h : a = b) : Ending.returned (.bool a) = .returned (.bool b) := by rw [h]
theorem asks_calls (s x : ByteArray) (b : Nat) (src : ByteArray) (w : World) (hc : w.cell? ⟨b, 0, none⟩ = some (.string src)) (hb : b < w.heap.size) :
    Calls Try.prog 32 #[.agg #[.string s, .string x], .pointer (some ⟨b, 0, none⟩)] w fun e w' => e = .returned (.bool (eqS s src)) ∧ Below w.heap.size w w' := by
  have hn : b ≠ w.heap.size := by omega
  go_enter Try.func32, Try.ntmps32
  go_wp2
  go_ret
  exact ⟨ret_bool' (by unfold eqS; rw [Bool.eq_iff_iff]; simp), (Below.refl _ _).alloc (Nat.le_refl _) _⟩

/-- The first place whose attribute has that name, from a place on; -1: there is none. -/
def kidxFrom (src : ByteArray) : List S36 → Nat → Int
  | [], _ => -1
  | x :: l, k => if eqS x.f0 src = true then (k : Int) else kidxFrom src l (k + 1)
theorem kidxFrom_drop (src : ByteArray) (l : List S36) (k : Nat) (h : k < l.length) : kidxFrom src (l.drop k) k = if eqS l[k].f0 src = true then (k : Int) else kidxFrom src (l.drop (k + 1)) (k + 1) := by
  rw [List.drop_eq_getElem_cons h]; rfl
theorem kidxFrom_any (src : ByteArray) : ∀ (l : List S36) (k : Nat), decide (kidxFrom src l k ≥ 0) = l.any (fun x => eqS x.f0 src)
  | [], _ => rfl
  | x :: l, k => by
    unfold kidxFrom
    by_cases h : eqS x.f0 src = true
    · rw [if_pos h]; simp [h]
    · rw [if_neg h, kidxFrom_any src l (k + 1)]; simp [h]

set_option maxHeartbeats 1000000 in
theorem kindex_calls (A0 : Option Addr) (c0 : Nat) (l : List S36) (b : Nat) (src : ByteArray) (w : World) (hr0 : Kd.C k36 w A0 l.length l) (hl : l.length ≤ 9223372036854775806)
    (hc : w.cell? ⟨b, 0, none⟩ = some (.string src)) (hb : b < w.heap.size) :
    Calls Try.prog 42 #[.slice A0 l.length c0, .func (.func 32) #[] #[.pointer (some ⟨b, 0, none⟩)]] w fun e w' => e = .returned (.int .i64 (kidxFrom src l 0)) ∧ Below w.heap.size w w' := by
  have HR := Lib.hid hr0
  have HC := Lib.hid hc
  clear hr0 hc
  go_enter Try.func42, Try.ntmps42
  go_wp2_with fail
  go_loopw [8] (fun i wr => ∃ k : Nat, k ≤ l.length ∧ i = .int .i64 k ∧ Hid (kidxFrom src l 0 = kidxFrom src (l.drop k) k) ∧ Hid (Below w.heap.size w wr)) (fun i wr => l.length - (intOf i).toNat)
  case atStart => exact ⟨0, Nat.zero_le _, rfl, Lib.hid rfl, Lib.hid (Below.refl _ _)⟩
  case round =>
    obtain ⟨k, hk, rfl, HI, HB⟩ := hrel
    by_cases hlt : k < l.length
    · obtain ⟨ad, rfl, h0, h1⟩ := at_T36 (Kd.C_below HR.out HB.out) (k : Int) (by omega) (by omega)
      have hrd : Hid (rd_T36 l (k : Int) = l[k]) := Lib.hid (by simp [rd_T36, hlt])
      have HS := Lib.hid (kidxFrom_drop src l k hlt)
      simp only [Int.toNat_natCast] at h0 h1
      generalize hx : rd_T36 l (k : Int) = x at *
      have HX := Lib.hid hx
      clear hx
      have q0 : (wr.cell? ⟨b, 0, none⟩ = some (.string src)) := by rw [HB.out.cell (p := ⟨b, 0, none⟩) hb]; exact HC.out
      have q1 : b < wr.heap.size := Nat.lt_of_lt_of_le hb HB.out.size
      have Q0 := Lib.hid q0
      clear q0
      rcases (show eqS x.f0 src = false ∨ eqS x.f0 src = true by cases eqS x.f0 src <;> simp) with he | he
      · have HE := Lib.hid he
        clear he
        go_wp2_with fail
        refine (asks_calls x.f0 x.f1 b src _ Q0.out q1).mono ?_
        rintro e w' ⟨rfl, hb'⟩
        rw [HE.out]
        have HB' := Lib.hid (HB.out.trans (hb'.mono HB.out.size))
        clear hb'
        go_wp2_with fail
        go_roundw
        case rel => exact ⟨k + 1, by omega, by go_num, Lib.hid (by rw [HI.out, HS.out, ← hrd.out, if_neg (by rw [HE.out]; decide)]), HB'⟩
        case measure => simp [intOf]; omega
      · have HE := Lib.hid he
        clear he
        go_wp2_with fail
        refine (asks_calls x.f0 x.f1 b src _ Q0.out q1).mono ?_
        rintro e w' ⟨rfl, hb'⟩
        rw [HE.out]
        have HB' := Lib.hid (HB.out.trans (hb'.mono HB.out.size))
        clear hb'
        go_wp2_with fail
        go_ret
        exact ⟨by rw [HI.out, HS.out, ← hrd.out, if_pos HE.out]; rfl, HB'.out⟩
    · have hd : l.drop k = [] := by rw [List.drop_eq_nil_iff]; omega
      have HD := Lib.hid hd
      clear hd
      go_wp2_with fail
      go_ret
      exact ⟨by rw [HI.out, HD.out]; rfl, HB.out⟩

theorem hasKey_calls (A0 : Option Addr) (c0 : Nat) (l : List S36) (b : Nat) (src : ByteArray) (w : World) (hr0 : Kd.C k36 w A0 l.length l) (hl : l.length ≤ 9223372036854775806)
    (hc : w.cell? ⟨b, 0, none⟩ = some (.string src)) (hb : b < w.heap.size) :
    Calls Try.prog 31 #[.slice A0 l.length c0, .func (.func 32) #[] #[.pointer (some ⟨b, 0, none⟩)]] w fun e w' => e = .returned (.bool (l.any fun x => eqS x.f0 src)) ∧ Below w.heap.size w w' := by
  have HR := Lib.hid hr0
  have HC := Lib.hid hc
  clear hr0 hc
  go_enter Try.func31, Try.ntmps31
  go_wp2_with fail
  refine (kindex_calls A0 c0 l b src _ HR.out hl HC.out hb).mono ?_
  rintro e w' ⟨rfl, hb'⟩
  have HB' := Lib.hid hb'
  clear hb'
  go_wp2_with fail
  go_ret
  exact ⟨by rw [← kidxFrom_any src l 0]; rfl, HB'.out⟩
end Go.Proofs.Ytkjgnkmnngaioaa.Q
