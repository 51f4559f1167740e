/- What finds an image by its name: slices.IndexFunc with the function that asks for the name, and the method find: what each computes, and that the Go code computes it. -/
import Derived.Test.YtnjheeoogglnaaaRx0
import Derived.Test.YtnjheeoogglnaaaMem
namespace Go.Proofs.Ytnjheeoogglnaaa.R
open Go.RowKit Go.Proofs.Ytnjheeoogglnaaa.Mem Go.Proofs.YtnjheeoogglnaaaW.PrintWords Go.Proofs.YtnjheeoogglnaaaW.PrintLast Go.Proofs.YtnjheeoogglnaaaW.PrintMore
set_option linter.unusedVariables false
set_option linter.unusedSimpArgs false

/-- Are two texts the same? -/
def eqS (a b : ByteArray) : Bool := decide (a.toList = b.toList)
theorem ret_bool {a b : Bool} (h : a = b) : Ending.returned (.bool a) = .returned (.bool b) := by rw [h]
theorem asks_calls (s : ByteArray) (x y : Int) (o : Bool) (b : Nat) (src : ByteArray) (w : World) (hc : w.cell? ⟨b, 0, none⟩ = some (.string src)) (hb : b < w.heap.size) :
    Calls Try.prog 52 #[.agg #[.string s, .int .i64 x, .int .i64 y, .bool o], .pointer (some ⟨b, 0, none⟩)] w fun e w' => e = .returned (.bool (eqS s src)) ∧ Below w.heap.size w w' := by
  have hn : b ≠ w.heap.size := by omega
  go_enter Try.func52, Try.ntmps52
  go_wp2
  go_ret
  exact ⟨ret_bool (by unfold eqS; rw [Bool.eq_iff_iff]; simp), (Below.refl _ _).alloc (Nat.le_refl _) _⟩

/-- The first place whose image has that name, from a place on; -1: there is none. -/
def idxFrom (src : ByteArray) : List S47 → Nat → Int
  | [], _ => -1
  | x :: l, k => if eqS x.f0 src = true then (k : Int) else idxFrom src l (k + 1)
def idxOf (l : List S47) (src : ByteArray) : Int := idxFrom src l 0
theorem idxFrom_drop (src : ByteArray) (l : List S47) (k : Nat) (h : k < l.length) : idxFrom src (l.drop k) k = if eqS l[k].f0 src = true then (k : Int) else idxFrom src (l.drop (k + 1)) (k + 1) := by
  rw [List.drop_eq_getElem_cons h]; rfl

set_option maxHeartbeats 1000000 in
theorem index_calls (A0 : Option Addr) (c0 : Nat) (l : List S47) (b : Nat) (src : ByteArray) (w : World) (hr0 : Kd.C k47 w A0 l.length l) (hl : l.length ≤ 9223372036854775806)
    (hc : w.cell? ⟨b, 0, none⟩ = some (.string src)) (hb : b < w.heap.size) :
    Calls Try.prog 51 #[.slice A0 l.length c0, .func (.func 52) #[] #[.pointer (some ⟨b, 0, none⟩)]] w fun e w' => e = .returned (.int .i64 (idxOf l src)) ∧ Below w.heap.size w w' := by
  have HR := Lib.hid hr0
  have HC := Lib.hid hc
  clear hr0 hc
  go_enter Try.func51, Try.ntmps51
  go_wp2_with fail
  go_loopw [8] (fun i wr => ∃ k : Nat, k ≤ l.length ∧ i = .int .i64 k ∧ Hid (idxOf l src = idxFrom src (l.drop k) k) ∧ Hid (Below w.heap.size w wr)) (fun i wr => l.length - (intOf i).toNat)
  case atStart => exact ⟨0, Nat.zero_le _, rfl, Lib.hid rfl, Lib.hid (Below.refl _ _)⟩
  case round =>
    obtain ⟨k, hk, rfl, HI, HB⟩ := hrel
    by_cases hlt : k < l.length
    · obtain ⟨ad, rfl, h0, h1, h2, h3⟩ := at_T47 (Kd.C_below HR.out HB.out) (k : Int) (by omega) (by omega)
      have hrd : Hid (rd_T47 l (k : Int) = l[k]) := Lib.hid (by simp [rd_T47, hlt])
      have HS := Lib.hid (idxFrom_drop src l k hlt)
      simp only [Int.toNat_natCast] at h0 h1 h2 h3
      generalize hx : rd_T47 l (k : Int) = x at *
      have HX := Lib.hid hx
      clear hx
      have q0 : (wr.cell? ⟨b, 0, none⟩ = some (.string src)) := by rw [HB.out.cell (p := ⟨b, 0, none⟩) hb]; exact HC.out
      have q1 : b < wr.heap.size := Nat.lt_of_lt_of_le hb HB.out.size
      have Q0 := Lib.hid q0
      clear q0
      rcases (show eqS x.f0 src = false ∨ eqS x.f0 src = true by cases eqS x.f0 src <;> simp) with he | he
      · have HE := Lib.hid he
        clear he
        go_wp2_with fail
        refine (asks_calls x.f0 x.f1 x.f2 x.f3 b src _ Q0.out q1).mono ?_
        rintro e w' ⟨rfl, hb'⟩
        rw [HE.out]
        have HB' := Lib.hid (HB.out.trans (hb'.mono HB.out.size))
        clear hb'
        go_wp2_with fail
        go_roundw
        case rel => exact ⟨k + 1, by omega, by go_num, Lib.hid (by rw [HI.out, HS.out, ← hrd.out, if_neg (by rw [HE.out]; decide)]), HB'⟩
        case measure => simp [intOf]; omega
      · have HE := Lib.hid he
        clear he
        go_wp2_with fail
        refine (asks_calls x.f0 x.f1 x.f2 x.f3 b src _ Q0.out q1).mono ?_
        rintro e w' ⟨rfl, hb'⟩
        rw [HE.out]
        have HB' := Lib.hid (HB.out.trans (hb'.mono HB.out.size))
        clear hb'
        go_wp2_with fail
        go_ret
        exact ⟨by rw [HI.out, HS.out, ← hrd.out, if_pos HE.out]; rfl, HB'.out⟩
    · have hd : l.drop k = [] := by rw [List.drop_eq_nil_iff]; omega
      have HD := Lib.hid hd
      clear hd
      go_wp2_with fail
      go_ret
      exact ⟨by rw [HI.out, HD.out]; rfl, HB.out⟩

def res_Table_find.f (l0_0 : List S47) (a0_1 : Int) (a0_2 : Bool) (a1 : ByteArray) : Option (Int) := if l0_0.length ≤ 9223372036854775806 then some (idxOf l0_0 a1) else none
theorem res_Table_find.calls (A0_0 : Option Addr) (c0_0 : Nat) (l0_0 : List S47) (a0_1 : Int) (a0_2 : Bool) (a1 : ByteArray) (r : Int) (w : World) (hr0_0 : Kd.C k47 w A0_0 l0_0.length l0_0) (hc0_0 : l0_0.length ≤ c0_0) (h : res_Table_find.f l0_0 a0_1 a0_2 a1 = some r) :
    Calls Try.prog 38 #[.agg #[.slice A0_0 l0_0.length c0_0, .int .i64 a0_1, .bool a0_2], .string a1] w fun e w' => e = .returned (.int .i64 r) ∧ Below w.heap.size w w' := by
  unfold res_Table_find.f at h
  by_cases hl : l0_0.length ≤ 9223372036854775806
  · rw [if_pos hl] at h
    have h' : idxOf l0_0 a1 = r := Option.some.inj h
    subst h'
    clear h
    have HR := Lib.hid hr0_0
    clear hr0_0
    go_enter Try.func38, Try.ntmps38
    go_wp2_with fail
    have B : Below w.heap.size w ((w.alloc (.cells #[.slice A0_0 l0_0.length c0_0, .int .i64 a0_1, .bool a0_2] 26)).alloc (.cells #[.string a1] 9)) := ((Below.refl _ _).alloc (Nat.le_refl _) _).alloc (by simp) _
    have C : Blk ((w.alloc (.cells #[.slice A0_0 l0_0.length c0_0, .int .i64 a0_1, .bool a0_2] 26)).alloc (.cells #[.string a1] 9)) (w.heap.size + 1) #[.string a1] 9 := Blk.alloc_at _ _ _ (by simp)
    have C0 := C.cell 0
    simp only [List.getElem?_toArray, List.getElem?_cons_zero] at C0
    refine (index_calls A0_0 c0_0 l0_0 (w.heap.size + 1) a1 _ (Kd.C_below HR.out B) hl C0 (by simp)).mono ?_
    rintro e w' ⟨rfl, hb⟩
    have HB := Lib.hid (B.trans (hb.mono (by simp; omega)))
    clear hb B C C0
    go_wp2_with fail
    go_ret
    exact ⟨rfl, HB.out⟩
  · rw [if_neg hl] at h; cases h
end Go.Proofs.Ytnjheeoogglnaaa.R
