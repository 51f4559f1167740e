/- ResTells: the printed statement answers true at every table; and the call of it. -/
import Derived.Test.YtnjheeoogglnaaaRxT
import Derived.Test.YtnjheeoogglnaaaRsN
import Derived.Test.YtnjheeoogglnaaaRsH
namespace Go.Proofs.Ytnjheeoogglnaaa.R
open Go.RowKit Go.IntWalk Go.Proofs.Ytnjheeoogglnaaa.Mem Go.Proofs.YtnjheeoogglnaaaW.PrintWords Go.Proofs.YtnjheeoogglnaaaW.PrintLast Go.Proofs.YtnjheeoogglnaaaW.PrintMore
set_option linter.unusedVariables false
set_option linter.unusedSimpArgs false

theorem radv_f (l : List S66) (n : Int) (b : Bool) : scrimref13_Advance.f l n b = some (advV n b) := by
  unfold scrimref13_Advance.f advV; split <;> rfl
theorem tells_true (l m : List S47) (n p : Int) (b c : Bool) (s : ByteArray) : Ev (fun k => scrimlaw13_ResTells.f k l n b m p c s) true := by
  unfold scrimlaw13_ResTells.f scrimlaw13_awake.f
  simp only [Option.bind_some, if_true]
  by_cases h1 : (l.length : Int) > 100
  · simp only [if_pos h1]
    exact Ev.step (f := fun _ => some true) (fun k => by rw [scrimlaw13_ResTells.j0, if_pos rfl]) (Ev.now _)
  · simp only [if_neg h1]
    by_cases h2 : (m.length : Int) > 100
    · rw [decide_eq_true h2]
      exact Ev.step (f := fun _ => some true) (fun k => by rw [scrimlaw13_ResTells.j0, if_pos rfl]) (Ev.now _)
    · rw [decide_eq_false h2]
      have hl : l.length < 3518437208883 := by omega
      have hm : m.length < 3518437208883 := by omega
      have hlp : (l.map pub).length < 3518437208883 := by simpa using hl
      obtain ⟨K1, g1⟩ := rsize_f l n b s hl
      obtain ⟨K2, g2⟩ := rtrue_f l n b s hl
      obtain ⟨K3, g3⟩ := may_f l n b hl
      obtain ⟨K4, g4⟩ := rmay_f l n b hl
      obtain ⟨K5, g5⟩ := same_f (l.map pub) (l.map pub) (if b = true then n else 0) (if b = true then n else 0) b b hlp
      obtain ⟨K6, g6⟩ := same_f (l.map pub) (m.map pub) (if b = true then n else 0) (if c = true then p else 0) b c hlp
      obtain ⟨K7, g7⟩ := alike_f l m n p b c hl hm
      dsimp only at g1 g2 g3 g4 g5 g6 g7
      refine ⟨K1 + K2 + K3 + K4 + K5 + K6 + K7 + 1, fun k hk => ?_⟩
      obtain ⟨k, rfl⟩ : ∃ j, k = j + 1 := ⟨k - 1, by omega⟩
      dsimp only
      rw [scrimlaw13_ResTells.j0, if_neg (by simp), own_f l n b k hl, own_f m p c k hm, size_f l n b s hl, true_f l n b s hl, g3 k (by omega), public_f l n b hl, adv_f, g7 k (by omega)]
      simp only [Option.bind_some]
      rw [g1 k (by omega), g2 k (by omega), g4 k (by omega), rpub_f l n b k hl, rpub_f m p c k hm, own_f _ _ _ _ hlp, radv_f]
      simp only [Option.bind_some]
      rw [g5 k (by omega), g6 k (by omega), eqT_self]
      simp
theorem tells_walk (A0_0 : Option Addr) (c0_0 : Nat) (l0_0 : List S47) (a0_1_0 : Int) (a0_1_1 : Bool) (A1_0 : Option Addr) (c1_0 : Nat) (l1_0 : List S47) (a1_1_0 : Int) (a1_1_1 : Bool) (a2 : ByteArray) (w : World) (hr0_0 : Kd.C k47 w A0_0 l0_0.length l0_0) (hc0_0 : l0_0.length ≤ c0_0) (hr1_0 : Kd.C k47 w A1_0 l1_0.length l1_0) (hc1_0 : l1_0.length ≤ c1_0) (g0_0 : ((∀ y ∈ l0_0, (good47 y)) ∧ l0_0.length ≤ maxLen)) (g0_1_0 : ((Lit.int .i64 a0_1_0).wf = true)) (g1_0 : ((∀ y ∈ l1_0, (good47 y)) ∧ l1_0.length ≤ maxLen)) (g1_1_0 : ((Lit.int .i64 a1_1_0).wf = true)) (g2 : (a2.size ≤ maxLen)) :
    Calls Try.prog 3 #[.agg #[.slice A0_0 l0_0.length c0_0, .int .i64 a0_1_0, .bool a0_1_1], .agg #[.slice A1_0 l1_0.length c1_0, .int .i64 a1_1_0, .bool a1_1_1], .string a2] w fun e w' => e = .returned (.bool true) ∧ Below w.heap.size w w' := by
  obtain ⟨k, hk⟩ := (tells_true l0_0 l1_0 a0_1_0 a1_1_0 a0_1_1 a1_1_1 a2).rounds
  exact scrimlaw13_ResTells.calls k A0_0 c0_0 l0_0 a0_1_0 a0_1_1 A1_0 c1_0 l1_0 a1_1_0 a1_1_1 a2 true w hr0_0 hc0_0 hr1_0 hc1_0 hk
end Go.Proofs.Ytnjheeoogglnaaa.R
