/- Regions that draw their order, in a round of a range over a function: what holds outside holds there. -/
import Derived.Test.YthkipbnigokcfaaMixL
import Derived.OrdersIn
import Derived.TacticsIn
import Derived.RangeFuncCalls
namespace Go.Proofs.Ythkipbnigokcfaa.Mix
variable {P : Program}

theorem rowsIn_wide {n : Nat} {row : String} {args : Array Value} {w : World} {R : Value → World → Prop} (h : Rows P row args w R) : RowsIn Fence.wide n P row args w R :=
  fun c cs _ => let ⟨v, w', r, s⟩ := h c cs; ⟨v, w', r, stepsIn_wide.2 s⟩
theorem op_in (r n : Nat) {o : Oper} {a : Act} {w : World} {K : Act → World → Prop} {Q : Exit → Act → World → Prop} (hd : ∀ c, o.op ≠ .defer c) (h : Oper.wp P o a w K Q) : Oper.wpIn (Fence.wide.inRound r) n P o a w K Q := by
  refine ⟨fun _ _ => trivial, ?_⟩
  show o.uponIn (Fence.wide.inRound r) n P a K Q ((o.semAt (some r) a.eval).run P w)
  rw [Oper.semAt_some r _ _ hd]
  unfold Oper.wp at h
  generalize (execOp a.eval o).run P w = x at *
  cases x with
  | ok y w' =>
    cases y with
    | enter f args => exact ⟨fun e => (by cases e), CallsIn.inRound r (callsIn_wide.2 h)⟩
    | row q args => exact ⟨fun e => (by cases e), fun c cs hroom => rowsIn_wide h c cs hroom⟩
    | _ => first | exact h | exact h.elim
  | halt y w' => cases y <;> exact h
def noDefer (ops : List Oper) : Bool := ops.all fun o => match o.op with | .defer _ => false | _ => true
theorem noDefer_spec {ops : List Oper} (h : noDefer ops = true) {i : Nat} {o : Oper} (ho : ops.toArray[i]? = some o) : ∀ c, o.op ≠ .defer c := fun c e => by
  unfold noDefer at h
  rw [List.all_eq_true] at h
  have := h o (List.mem_of_getElem? (by simpa using ho))
  rw [e] at this
  cases this
theorem any_in (r n : Nat) {md : Region.Mode} {l : List Oper} {Q : Exit → Act → World → Prop} (hd : noDefer l = true) (hl : ¬ LetsOut Q) : ∀ (fuel : Nat) (L : Array Bool) (a : Act) (w : World), wpAny P md l.toArray Q fuel L a w → wpAnyIn (Fence.wide.inRound r) n P md l.toArray Q fuel L a w
  | 0, _, _, _, h => h
  | fuel + 1, L, a, w, h => by
    refine ⟨h.1, fun i hi => ?_⟩
    have h1 := h.2 i hi
    unfold wpOp at h1
    unfold wpOpIn
    split
    · rename_i ho; rw [ho] at h1; exact any_in r n hd hl fuel _ _ _ h1
    · rename_i o ho
      rw [ho] at h1
      dsimp only at h1
      split
      · rename_i hw
        rw [if_pos hw] at h1
        exact op_in r n (noDefer_spec hd ho) (Oper.wp_mono (fun a w hk => any_in r n hd hl fuel _ a w hk) (h1.resolve_right (fun h => hl h.2)))
      · rename_i hw
        rw [if_neg hw] at h1
        exact ⟨fun _ _ => trivial, any_in r n hd hl fuel _ _ _ h1⟩
/-- Where it goes on, and nothing else. -/
def onlyN (K : Act → World → Prop) : Exit → Act → World → Prop
  | .normal, a, w => K a w
  | _, _, _ => False
theorem wpIn_region_mix (r n : Nat) {id : Nat} {Q : Exit → Act → World → Prop} {a : Act} {w : World} {l : List Oper} (C : Nat → World → Prop) (fl : List Nat) (hm : P.follows .mixedOrders = true) (hd : noDefer l = true)
    (hB : (Region.lexB .any l.toArray && inOrder .any l.toArray fl.contains) = true) (hC : C 0 w.drew)
    (h : wpMix P l.toArray C fl.contains (fun k => (lo .any l.toArray fl.contains k, up .any l.toArray fl.contains k)) (fun i a' => ∀ w', C i w' → Q .normal a' w') l 0 0 a) : (Code.region id l.toArray true).wpIn (Fence.wide.inRound r) n P Q a w :=
  wpIn_mono (wpIn_region_any (Q := onlyN (Q .normal)) hm (any_in r n hd (fun ⟨_, _, h⟩ => h) _ _ _ _ (any_mix C fl hB hC h))) (fun e a w hq => by cases e <;> first | exact hq | exact hq.elim)
end Go.Proofs.Ythkipbnigokcfaa.Mix
