/- ResHides: the printed statement answers true at every table; and the call of it. -/
import Derived.Test.YtnjheeoogglnaaaRxH
import Derived.Test.YtnjheeoogglnaaaRsM
import Derived.Test.YtnjheeoogglnaaaOps
namespace Go.Proofs.Ytnjheeoogglnaaa.R
open Go.RowKit Go.IntWalk Go.Proofs.Ytnjheeoogglnaaa.Mem Go.Proofs.YtnjheeoogglnaaaW.PrintWords Go.Proofs.YtnjheeoogglnaaaW.PrintLast Go.Proofs.YtnjheeoogglnaaaW.PrintMore
set_option linter.unusedVariables false
set_option linter.unusedSimpArgs false

def advV (n : Int) (b : Bool) : Int := if b = true then n else 32
theorem adv_f (l : List S47) (n : Int) (b : Bool) : res_Advance.f l n b = some (advV n b) := by
  unfold res_Advance.f advV; split <;> rfl
theorem eqT_comm (l : List S47) (n : Int) (b : Bool) (m : List S47) (p : Int) (c : Bool) : eqT l n b m p c = eqT m p c l n b := by
  unfold eqT; rw [bc n p, bc b c, eqL_comm l m]
theorem hides_j1 (l m : List S47) (n p : Int) (b c : Bool) (s : ByteArray) (hl : l.length < 3518437208883) (hm : m.length < 3518437208883) :
    Ev (fun k => scrimlaw13_ResHides.j1 k s (sizeV l s).1 (sizeV l s).2.1 (sizeV l s).2.2 false l n b m p c) true := by
  obtain ⟨K1, h1⟩ := alike_f l m n p b c hl hm
  obtain ⟨K2, h2⟩ := alike_f m l p n c b hm hl
  dsimp only at h1 h2
  refine ⟨K1 + K2 + 1, fun k hk => ?_⟩
  obtain ⟨k, rfl⟩ : ∃ j, k = j + 1 := ⟨k - 1, by omega⟩
  dsimp only
  rw [scrimlaw13_ResHides.j1, if_neg (by simp), h1 k (by omega), h2 k (by omega), size_f m p c s hm, adv_f, adv_f]
  simp only [Option.bind_some]
  rw [eqT_comm (m.map pub)]
  generalize ht : eqT (l.map pub) (if b = true then n else 0) b (m.map pub) (if c = true then p else 0) c = t
  cases t
  · rfl
  · unfold eqT at ht
    simp only [Bool.and_eq_true, beq_iff_eq] at ht
    obtain ⟨⟨h3, rfl⟩, h4⟩ := ht
    have h5 : sizeV l s = sizeV m s := by rw [← size_pub l, ← size_pub m]; exact size_eqL s h4
    have h6 : advV n b = advV p b := by unfold advV; cases b <;> simp_all
    rw [h5, h6]
    simp
theorem hides_true (l m : List S47) (n p : Int) (b c : Bool) (s : ByteArray) : Ev (fun k => scrimlaw13_ResHides.f k l n b m p c s) true := by
  unfold scrimlaw13_ResHides.f scrimlaw13_awake.f
  simp only [Option.bind_some, if_true]
  by_cases h1 : (l.length : Int) > 100
  · simp only [if_pos h1]
    exact Ev.step (f := fun _ => some true) (fun k => by rw [scrimlaw13_ResHides.j0, if_pos rfl]) (Ev.now _)
  · simp only [if_neg h1]
    by_cases h2 : (m.length : Int) > 100
    · rw [decide_eq_true h2]
      exact Ev.step (f := fun _ => some true) (fun k => by rw [scrimlaw13_ResHides.j0, if_pos rfl]) (Ev.now _)
    · rw [decide_eq_false h2]
      have hl : l.length < 3518437208883 := by omega
      have hm : m.length < 3518437208883 := by omega
      have hlp : (l.map pub).length < 3518437208883 := by simpa using hl
      obtain ⟨K1, g1⟩ := alike_f l (l.map pub) n (if b = true then n else 0) b b hl hlp
      obtain ⟨K2, g2⟩ := same_f ((l.map pub).map pub) (l.map pub) (if b = true then (if b = true then n else 0) else 0) (if b = true then n else 0) b b (by simpa using hl)
      obtain ⟨K3, g3⟩ := hides_j1 l m n p b c s hl hm
      dsimp only at g1 g2 g3
      refine ⟨K1 + K2 + K3 + 1, fun k hk => ?_⟩
      obtain ⟨k, rfl⟩ : ∃ j, k = j + 1 := ⟨k - 1, by omega⟩
      dsimp only
      rw [scrimlaw13_ResHides.j0, if_neg (by simp), public_f l n b hl]
      simp only [Option.bind_some]
      rw [size_f l n b s hl, size_f (l.map pub) _ b s hlp, size_pub, g1 k (by omega), public_f (l.map pub) _ b hlp]
      simp only [Option.bind_some]
      rw [own_f _ _ _ _ (by simpa using hl), own_f _ _ _ _ hlp]
      simp only [Option.bind_some]
      rw [g2 k (by omega), adv_f, adv_f]
      simp only [Option.bind_some]
      have e1 : (if b = true then (if b = true then n else 0) else 0) = (if b = true then n else 0) := by cases b <;> rfl
      have e2 : advV n b = advV (if b = true then n else 0) b := by cases b <;> rfl
      rw [e1, pubs_pubs, eqT_self, ← e2]
      simp only [if_true, bne_self_eq_false, Bool.false_eq_true, if_false]
      exact g3 k (by omega)
theorem hides_walk (A0_0 : Option Addr) (c0_0 : Nat) (l0_0 : List S47) (a0_1_0 : Int) (a0_1_1 : Bool) (A1_0 : Option Addr) (c1_0 : Nat) (l1_0 : List S47) (a1_1_0 : Int) (a1_1_1 : Bool) (a2 : ByteArray) (w : World) (hr0_0 : Kd.C k47 w A0_0 l0_0.length l0_0) (hc0_0 : l0_0.length ≤ c0_0) (hr1_0 : Kd.C k47 w A1_0 l1_0.length l1_0) (hc1_0 : l1_0.length ≤ c1_0) (g0_0 : ((∀ y ∈ l0_0, (good47 y)) ∧ l0_0.length ≤ maxLen)) (g0_1_0 : ((Lit.int .i64 a0_1_0).wf = true)) (g1_0 : ((∀ y ∈ l1_0, (good47 y)) ∧ l1_0.length ≤ maxLen)) (g1_1_0 : ((Lit.int .i64 a1_1_0).wf = true)) (g2 : (a2.size ≤ maxLen)) :
    Calls Try.prog 4 #[.agg #[.slice A0_0 l0_0.length c0_0, .int .i64 a0_1_0, .bool a0_1_1], .agg #[.slice A1_0 l1_0.length c1_0, .int .i64 a1_1_0, .bool a1_1_1], .string a2] w fun e w' => e = .returned (.bool true) ∧ Below w.heap.size w w' := by
  obtain ⟨k, hk⟩ := (hides_true l0_0 l1_0 a0_1_0 a1_1_0 a0_1_1 a1_1_1 a2).rounds
  exact scrimlaw13_ResHides.calls k A0_0 c0_0 l0_0 a0_1_0 a0_1_1 A1_0 c1_0 l1_0 a1_1_0 a1_1_1 a2 true w hr0_0 hc0_0 hr1_0 hc1_0 hk
end Go.Proofs.Ytnjheeoogglnaaa.R
