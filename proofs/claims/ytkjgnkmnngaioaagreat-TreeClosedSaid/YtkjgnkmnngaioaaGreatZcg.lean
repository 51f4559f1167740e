/- What the proof of treeClosed_holds needs, of the texts that this work has written and of the words that the kit's print lends. -/
import Derived.Test.YtkjgnkmnngaioaaGreatZcf
import Derived.Test.YtkjgnkmnngaioaaGreatZcb
import Derived.Test.YtkjgnkmnngaioaaGreatZce
import Derived.Test.YtkjgnkmnngaioaaGreatZcd
import Derived.Test.YtkjgnkmnngaioaaGreatZca
import Derived.Test.YtkjgnkmnngaioaaGreatZcc
import Derived.Deep.RegionLaw
import Derived.LoopN
import Derived.WalkMore
import Derived.Maps.AppendAt
import Derived.Lib.Bytealg
import Derived.Laws.Cover3
import Derived.Deep.OwnRows
import Derived.StillTailTactics
import Derived.Laws.OwnMore
import Derived.Deep.Slices
import Derived.OpenShut
import Derived.ChangeSame
import Derived.Lib.SmallJoins
import Derived.SizedLaws
namespace Go.Proofs.YtkjgnkmnngaioaaGreat.Q
open Go.RowKit Go.IntWalk Go.Proofs.YtkjgnkmnngaioaaGreat.Mem Go.Proofs.YtkjgnkmnngaioaaGreatW.PrintWords Go.Proofs.YtkjgnkmnngaioaaGreatW.PrintLast Go.Proofs.YtkjgnkmnngaioaaGreatW.PrintMore
set_option linter.unusedVariables false
set_option linter.unusedSimpArgs false
/-- What is taken at a place: a closing, an opening, or nothing. -/
def tkF (l : List UInt8) : Option (S46 × Nat) :=
  match clF l with
  | some (k, u) => some (⟨2, st (lows ((l.drop 2).take k)), ⟨#[]⟩, []⟩, u)
  | none => match opF l with
    | some (k, as_, u) => some (⟨1, st (lows ((l.drop 1).take k)), ⟨#[]⟩, as_⟩, u)
    | none => none
/-- The tokens from a place on. -/
def rdL (l : List UInt8) : Nat → Nat → List S46 → List UInt8 → List S46
  | 0, _, ts, tx => endT ts tx
  | f + 1, o, ts, tx =>
    match l[o]? with
    | none => endT ts tx
    | some c => if c = 60 then (match tkF (l.drop o) with
        | some (t, u) => rdL l f (o + u) (endT ts tx ++ [t]) []
        | none => rdL l f (o + 1) ts (tx ++ [c]))
      else rdL l f (o + 1) ts (tx ++ [c])
def readF (l : List UInt8) : List S46 := rdL l (l.length + 1) 0 [] []
theorem clF_le {l : List UInt8} {k u : Nat} (h : clF l = some (k, u)) : u ≤ l.length ∧ 0 < u := by
  unfold clF at h
  split at h
  · cases h
  · split at h
    · cases h
    · split at h
      · cases h
      · split at h
        · rename_i h1
          injection h with h
          injection h with h2 h3
          rw [List.head?_eq_getElem?, List.getElem?_drop] at h1
          have h4 := (List.getElem?_eq_some_iff.1 h1).1
          omega
        · cases h
theorem opL_le {l : List UInt8} : ∀ {f o : Nat} {as_ : List S70} {r : List S70 × Nat}, opL l f o as_ = some r → r.2 ≤ l.length ∧ 0 < r.2
  | 0, _, _, _, h => by cases h
  | f + 1, o, as_, r, h => by
    rw [opL] at h
    split at h
    · rename_i h1
      injection h with h
      subst h
      rw [List.head?_eq_getElem?, List.getElem?_drop] at h1
      have h4 := (List.getElem?_eq_some_iff.1 h1).1
      dsimp only
      omega
    · split at h
      · cases h
      · split at h
        · cases h
        · split at h
          · exact opL_le h
          · split at h
            · cases h
            · exact opL_le h
theorem tkF_le {l : List UInt8} {t : S46} {u : Nat} (h : tkF l = some (t, u)) : u ≤ l.length ∧ 0 < u := by
  unfold tkF at h
  split at h
  · rename_i k u' hc
    injection h with h
    injection h with h1 h2
    subst h2
    exact clF_le hc
  · split at h
    · rename_i hc k as_ u' ho
      injection h with h
      injection h with h1 h2
      subst h2
      unfold opF at ho
      split at ho
      · cases ho
      · obtain ⟨r, hr, he⟩ := Option.map_eq_some_iff.1 ho
        have := opL_le hr
        obtain ⟨r1, r2⟩ := r
        injection he with he1 he2
        injection he2 with he2 he3
        subst he3
        exact this
    · cases h
theorem endT_len (ts : List S46) (tx : List UInt8) : (endT ts tx).length ≤ ts.length + 1 := by
  unfold endT
  split
  · omega
  · rw [List.length_append]; simp
section
variable {P : Program} {ops : Array Oper} {o : Oper} {a : Act} {y : World} {Kc : Act → World → Prop} {Q : Exit → Act → World → Prop} {E : Prop}
/-- append of one cell to a row of one's own, as_ one step of a region. -/
theorem own_app_step (hg : o.guard = none) (s x : Operand) (t e : TypeId) (hop : o.op = Op.call { callee := Callee.builtin Builtin.append, args := #[s, x], argTypes := #[t, t] })
    (i : TypeInfo) (z : Value) (bytes : Nat) (ht : P.underlying t = some (.slice e)) (hi : P.info? e = some i) (hz : i.zero = some z) (hsize : i.size = 1) (hby : i.bytes = bytes) (hzs : z.cells.size = 1)
    (base : Nat) (v : Value) (n : Nat) (xs : List Value) (hs : a.eval s = v) (b : Nat) (hx : a.eval x = .slice (some ⟨b, 0, none⟩) 1 1) (u : Value) (hu : y.cell? ⟨b, 0, none⟩ = some u) (h1 : u.oneCell' = true)
    (hown : y.ownsRow base e 1 v n xs) (h63 : n + 1 ≤ maxLen) (hbytes : (n + 1) * bytes ≤ 140737488355328) (hbase : base ≤ y.heap.size)
    (hK : ∀ v1 w1, w1.ownsRow base e 1 v1 (n + 1) (xs ++ [u]) → y.grownBy w1 v.ownBlock → (v1.ownBlock = v.ownBlock ∨ v1.ownBlock = some y.heap.size) → Kc (a.put o.dst v1) w1) :
    if Region.wanted o (yielded ops a.tmps) = true then Oper.wp P o a y Kc Q else E := by
  have hw : Region.wanted o (yielded ops a.tmps) = true := by simp [Region.wanted, hg]
  rw [if_pos hw]
  obtain ⟨v1, w1, hrun, hown1, hg1, -, hat⟩ := run_append_own_at (P := P) (w := y) base t o.type e i z 1 bytes ht hi hz hsize hby hzs (by decide) v n xs hown ⟨b, 0, none⟩ 1 1 [u] rfl (fun j u' hj => by
    cases j with
    | zero => injection hj with hj; subst hj; exact hu
    | succ j => simp at hj) (by simp [h1]) h63 hbytes hbase
  unfold Oper.wp
  simp [execOp, hop, resolve, invoke, builtin, hs, hx, hrun, Result.andThen]
  exact hK v1 w1 hown1 hg1 hat
end
theorem own_ne_blz {w : World} {base e sz n g : Nat} {v : Value} {xs : List Value} {cs : Array Value} {fz : Nat × Nat} (h : w.ownsRow base e sz v n xs) (hb : Blz w g cs fz) (hf : fz ≠ (0, 0)) : some g ≠ v.ownBlock := by
  intro he
  rcases h.2 with ⟨rfl, _⟩ | ⟨g', cap, cur, rfl, _, hh, _⟩
  · simp [Value.ownBlock] at he
  · have : g = g' := by simpa [Value.ownBlock] using he
    subst this
    unfold Blz at hb
    rw [hb] at hh
    injection hh with hh
    injection hh with _ _ hh
    exact hf hh
theorem S_ne_blz {w : World} {base g : Nat} {v : Value} {ts : List S46} {ok : Nat → Prop} {cs : Array Value} {fz : Nat × Nat} (h : Kd.S k46 46 w base ok v ts) (hb : Blz w g cs fz) (hf : fz ≠ (0, 0)) : some g ≠ v.ownBlock := by
  obtain ⟨inner, hi⟩ := Kd.S_own h
  exact own_ne_blz hi hb hf
theorem own_keepB {w z : World} {base e sz n : Nat} {v : Value} {xs : List Value} (h : w.ownsRow base e sz v n xs) (hb : Below w.heap.size w z) : z.ownsRow base e sz v n xs := by
  refine own_move h (fun k hk => hb.block k (own_lt h k hk))
/-- What stands while a text is read. -/
structure RdI (s : ByteArray) (cp : Nat) (w : World) (ts : List S46) (tx : List UInt8) (lv tv : Value) (y : World) : Prop where
  ei : EndI w.heap.size w.heap.size (fun _ => True) ts tx lv tv y
  by_ : Blz y (w.heap.size + 1 + 1) (bytesRow s cp) ((bytesRow s cp).size, (bytesRow s cp).size + 1)
  below : Below w.heap.size w y
theorem RdI.bt {s : ByteArray} {cp : Nat} {w y : World} {ts : List S46} {tx : List UInt8} {lv tv : Value} (h : RdI s cp w ts tx lv tv y) (hc : s.size ≤ cp) : Bt y (w.heap.size + 1 + 1) 0 s.size cp s.data.toList := bt_made (w := w) hc h.by_
theorem RdI.step {s : ByteArray} {cp : Nat} {w y z : World} {ts : List S46} {tx : List UInt8} {lv tv : Value} (h : RdI s cp w ts tx lv tv y) (hb : Below y.heap.size y z) : RdI s cp w ts tx lv tv z :=
  ⟨⟨h.ei.lc.below hb h.ei.lc.lt, h.ei.tc.below hb h.ei.tc.lt, Kd.S_below h.ei.lr hb, own_keepB h.ei.tr hb⟩, (hb.block _ h.by_.lt).trans h.by_, h.below.trans (hb.mono h.below.size)⟩
theorem Chg.below {h : Nat} {row : Option Nat} {w w' : World} (hc : Chg h row w w') (hr : ∀ k, row = some k → h ≤ k) (hs : h ≤ w.heap.size) : Below h w w' :=
  ⟨hc.os, hc.tape, hc.output, hc.size, fun k hk => hc.block k (by omega) (by omega) (by omega) (fun e => by have := hr k e.symm; omega)⟩
/-- Behind the end of a text. -/
theorem RdI.ended {s : ByteArray} {cp : Nat} {w y z : World} {ts : List S46} {tx : List UInt8} {lv tv lv' tv' : Value} (h : RdI s cp w ts tx lv tv y) (he : EndI w.heap.size w.heap.size (fun _ => True) (endT ts tx) [] lv' tv' z) (hc : Chg w.heap.size lv.ownBlock y z) : RdI s cp w (endT ts tx) [] lv' tv' z :=
  ⟨he, (hc.block _ h.by_.lt (by omega) (by omega) (S_ne_blz h.ei.lr h.by_ (by simp))).trans h.by_, h.below.trans (hc.below (fun k hk => Kd.S_base h.ei.lr k hk) h.below.size)⟩
theorem bel_trans {x y z : World} (h : Below x.heap.size x y) (hb : Below y.heap.size y z) : Below x.heap.size x z := h.trans (hb.mono h.size)
/-- What is taken, between two sizes. -/
theorem tk_M {z : World} {X Y h : Nat} {tok : S46} {cs : List Value} (hM : k46.M z Y (fun _ => True) tok cs) (h1 : h ≤ X) (h2 : X ≤ Y) : k46.M z h (fun k => X ≤ k ∧ k < z.heap.size) tok cs :=
  k46.M_lower (Nat.le_trans h1 h2) (k46.M_mono (fun k hk => ⟨Nat.le_trans h2 hk.2.1, hk.2.2.1⟩) (k46.M_bound hM))
theorem rdi_end {s : ByteArray} {cp : Nat} {w y z : World} {ts : List S46} {tx : List UInt8} {lv tv : Value} (h : RdI s cp w ts tx lv tv y) (hb : Below y.heap.size y z) (n : Nat) : EndI w.heap.size w.heap.size (fun k => ¬ (y.heap.size ≤ k ∧ k < n)) ts tx lv tv z :=
  ⟨(h.step hb).ei.lc, (h.step hb).ei.tc, Kd.S_mono (Kd.S_below (Kd.S_bound h.ei.lr) hb) (fun k hk => by have := hk.2.2.1; omega), (h.step hb).ei.tr⟩
/-- The token, behind the text's end, and all that is needed to put it behind the others. -/
structure AppI (w w5 : World) (X n : Nat) (ts : List S46) (tok : S46) (cs : List Value) (lv : Value) : Prop where
  hp : k46.M w5 w.heap.size (fun k => X ≤ k ∧ k < n) tok cs
  hokp : ∀ k, X ≤ k ∧ k < n → True ∧ some k ≠ lv.ownBlock
  ho : Kd.S k46 46 w5 w.heap.size (fun k => True ∧ ¬ (X ≤ k ∧ k < n)) lv ts
theorem app_i {s : ByteArray} {cp : Nat} {w y z Z w5 : World} {ts : List S46} {tx : List UInt8} {lv tv lv5 : Value} {tok : S46} {cs : List Value} (h : RdI s cp w ts tx lv tv y) (hM : k46.M z w.heap.size (fun k => y.heap.size ≤ k ∧ k < z.heap.size) tok cs) (hz : Below z.heap.size z Z)
    (he : EndI w.heap.size w.heap.size (fun k => ¬ (y.heap.size ≤ k ∧ k < z.heap.size)) (endT ts tx) [] lv5 (.slice none 0 0) w5) (hc : Chg w.heap.size lv.ownBlock Z w5) : AppI w w5 y.heap.size z.heap.size (endT ts tx) tok cs lv5 := by
  have hy1 : w.heap.size + 1 < y.heap.size := h.ei.tc.lt
  refine ⟨?_, fun k hk => ⟨trivial, fun e => ?_⟩, Kd.S_mono he.lr (fun k hk => ⟨trivial, hk⟩)⟩
  · refine k46.M_move (fun k hk => ?_) hM
    refine (hc.block k (Nat.lt_of_lt_of_le hk.2 hz.size) (by omega) (by omega) (fun e => ?_)).trans (hz.block k hk.2)
    have := Kd.S_lt h.ei.lr k e.symm
    omega
  · exact (Kd.S_R he.lr).1 k e.symm hk
theorem rdi_app {s : ByteArray} {cp : Nat} {w y Z w5 w6 : World} {ts : List S46} {tx : List UInt8} {lv tv lv5 v1 : Value} {ok : Nat → Prop} {tok : S46} (h : RdI s cp w ts tx lv tv y) (hz : Below y.heap.size y Z)
    (he : EndI w.heap.size w.heap.size ok (endT ts tx) [] lv5 (.slice none 0 0) w5) (hc : Chg w.heap.size lv.ownBlock Z w5) (hr : Kd.S k46 46 w6 w.heap.size (fun _ => True) v1 (endT ts tx ++ [tok])) (hb6 : Below w.heap.size w w6) (hg : w5.grownBy w6 lv5.ownBlock) :
    Blk w6 w.heap.size #[lv5] 23 ∧ RdI s cp w (endT ts tx ++ [tok]) [] v1 (.slice none 0 0) (w6.setCell ⟨w.heap.size, 0, none⟩ v1) := by
  have hz' := h.step hz
  have e5 : RdI s cp w (endT ts tx) [] lv5 (.slice none 0 0) w5 := hz'.ended ⟨he.lc, he.tc, Kd.S_mono he.lr (fun _ _ => trivial), he.tr⟩ hc
  have b1 : Blk w6 w.heap.size #[lv5] 23 := he.lc.of_block (hg.block _ he.lc.lt (Kd.S_ne he.lr he.lc (by decide)))
  have b2 : Blk w6 (w.heap.size + 1) #[.slice none 0 0] 72 := he.tc.of_block (hg.block _ he.tc.lt (Kd.S_ne he.lr he.tc (by decide)))
  have b3 : Blz w6 (w.heap.size + 1 + 1) (bytesRow s cp) ((bytesRow s cp).size, (bytesRow s cp).size + 1) := (hg.block _ e5.by_.lt (S_ne_blz he.lr e5.by_ (by simp))).trans e5.by_
  refine ⟨b1, ⟨b1.set 0 _, b2.setCell_other _ (by show w.heap.size + 1 ≠ w.heap.size; omega), Kd.S_set hr b1 (typ_token (by decide) (by decide)) 0 _, ?_⟩, (Below.heap_setCell _ _ _ _ (by show w.heap.size + 1 + 1 ≠ w.heap.size; omega)).trans b3, hb6.trans ⟨rfl, rfl, rfl, by simp [World.setCell], fun k hk => Below.heap_setCell _ _ _ _ (by show k ≠ w.heap.size; omega)⟩⟩
  exact World.ownsRow_nil _ _ _ _
theorem own_ne_blk {w : World} {base e sz n g : Nat} {v : Value} {xs : List Value} {cs : Array Value} {T : TypeId} (h : w.ownsRow base e sz v n xs) (hb : Blk w g cs T) (hT : T ≠ e) : some g ≠ v.ownBlock := by
  intro he
  obtain ⟨cells, hc⟩ := own_typed h g he.symm
  unfold Blk at hb
  rw [hb] at hc
  injection hc with hc
  injection hc with _ hc
  exact hT hc
theorem rdi_text {s : ByteArray} {cp : Nat} {w y y1 w4 : World} {ts : List S46} {tx : List UInt8} {lv tv v1 : Value} {d : UInt8} (h : RdI s cp w ts tx lv tv y) (hy : Below y.heap.size y y1) (ho : w4.ownsRow w.heap.size 5 1 v1 (tx.length + 1) (byc tx ++ [.int .u8 (d.toNat : Int)])) (hg : y1.grownBy w4 tv.ownBlock) :
    Blk w4 (w.heap.size + 1) #[tv] 72 ∧ RdI s cp w ts (tx ++ [d]) lv v1 (w4.setCell ⟨w.heap.size + 1, 0, none⟩ v1) := by
  have h1 := h.step hy
  have b1 : Blk w4 w.heap.size #[lv] 23 := h1.ei.lc.of_block (hg.block _ h1.ei.lc.lt (own_ne_blk h1.ei.tr h1.ei.lc (by decide)))
  have b2 : Blk w4 (w.heap.size + 1) #[tv] 72 := h1.ei.tc.of_block (hg.block _ h1.ei.tc.lt (own_ne_blk h1.ei.tr h1.ei.tc (by decide)))
  have b3 : Blz w4 (w.heap.size + 1 + 1) (bytesRow s cp) ((bytesRow s cp).size, (bytesRow s cp).size + 1) := (hg.block _ h1.by_.lt (own_ne_blz h1.ei.tr h1.by_ (by simp))).trans h1.by_
  have b4 : Below w.heap.size w w4 := h1.below.trans ⟨hg.os, hg.tape, hg.output, hg.size, fun k hk => hg.block k (Nat.lt_of_lt_of_le hk h1.below.size) (fun e => by have := own_base h1.ei.tr k e.symm; omega)⟩
  have b5 : Kd.S k46 46 w4 w.heap.size (fun _ => True) lv ts := Kd.S_over' h1.ei.lr (fun k hk => own_typed h1.ei.tr k hk) (typ_token (by decide) (by decide)) hg
  refine ⟨b2, ⟨b1.setCell_other _ (by show w.heap.size ≠ w.heap.size + 1; omega), b2.set 0 _, Kd.S_set b5 b2 (typ_token (by decide) (by decide)) 0 _, ?_⟩, (Below.heap_setCell _ _ _ _ (by show w.heap.size + 1 + 1 ≠ w.heap.size + 1; omega)).trans b3, b4.trans ⟨rfl, rfl, rfl, by simp [World.setCell], fun k hk => Below.heap_setCell _ _ _ _ (by show k ≠ w.heap.size + 1; omega)⟩⟩
  have e1 : (tx ++ [d]).length = tx.length + 1 := by simp
  have e2 : byc (tx ++ [d]) = byc tx ++ [.int .u8 (d.toNat : Int)] := by unfold byc; simp
  rw [e1, e2]
  exact own_move ho (fun k hk => Below.heap_setCell _ _ _ _ (fun e => own_ne_blk ho b2 (by decide) (by rw [hk, e])))
/-- A closing, as_ a token in cells. -/
theorem closing_take (g a n c : Nat) (l : List UInt8) (w : World) (hB : Bt w g a n c l) (hn : n ≤ 600000) :
    Calls Tryz.prog 85 #[.slice (some ⟨g, a, none⟩) n c] w fun e w' => (match clF l with
    | none => NonePost e
    | some (k, u) => TakeP g a n w ⟨2, st (lows ((l.drop 2).take k)), ⟨#[]⟩, []⟩ u e w') ∧ Below w.heap.size w w' := by
  refine (closing_calls g a n c l w hB hn).mono fun e w' h => ?_
  unfold ClPost at h
  refine ⟨?_, h.2⟩
  have h1 := h.1
  revert h1
  cases clF l with
  | none => exact fun h => h
  | some p =>
    obtain ⟨k, u⟩ := p
    intro h1
    obtain ⟨a', h2, h3⟩ := h1
    exact ⟨_, a', k46_mkM _ _ _ ⟨2, st (lows ((l.drop 2).take k)), ⟨#[]⟩, []⟩ (Kd.R_nil _ _ _ _ _), h2, h3⟩
/-- Nothing is taken, or a token is. -/
def TkPost (X g a n : Nat) (r : Option (S46 × Nat)) (e : Ending) (z : World) : Prop :=
  match r with
  | none => NonePost e
  | some (tok, u) => ∃ cs a', k46.M z X (fun _ => True) tok cs ∧ (u < n → a' = a + u) ∧ e = .returned (.tuple #[.agg cs.toArray, .slice (some ⟨g, a', none⟩) (n - u) (n - u), .bool true])
def clR (l : List UInt8) : Option (S46 × Nat) := (clF l).map fun (k, u) => (⟨2, st (lows ((l.drop 2).take k)), ⟨#[]⟩, []⟩, u)
def opR (l : List UInt8) : Option (S46 × Nat) := (opF l).map fun (k, as_, u) => (⟨1, st (lows ((l.drop 1).take k)), ⟨#[]⟩, as_⟩, u)
theorem tkF_eq (l : List UInt8) : tkF l = (clR l).or (opR l) := by
  unfold tkF clR opR
  cases clF l with
  | none => cases opF l <;> rfl
  | some p => rfl
theorem cl_tk (g a n c : Nat) (l : List UInt8) (w : World) (hB : Bt w g a n c l) (hn : n ≤ 600000) :
    Calls Tryz.prog 85 #[.slice (some ⟨g, a, none⟩) n c] w fun e w' => TkPost w.heap.size g a n (clR l) e w' ∧ Below w.heap.size w w' := by
  refine (closing_take g a n c l w hB hn).mono fun e w' h => ⟨?_, h.2⟩
  have h1 := h.1
  unfold clR
  revert h1
  cases clF l with
  | none => exact fun h => h
  | some p => exact fun h => h
theorem op_tk (g a n c : Nat) (l : List UInt8) (w : World) (hB : Bt w g a n c l) (hn : n ≤ 600000) (hn0 : 0 < n) :
    Calls Tryz.prog 86 #[.slice (some ⟨g, a, none⟩) n c] w fun e w' => TkPost w.heap.size g a n (opR l) e w' ∧ Below w.heap.size w w' := by
  refine (opening_calls g a n c l w hB hn hn0).mono fun e w' h => ?_
  unfold OpPost at h
  refine ⟨?_, h.2⟩
  have h1 := h.1
  unfold opR
  revert h1
  cases opF l with
  | none => exact fun h => h
  | some p => exact fun h => h
set_option maxRecDepth 100000 in
set_option maxHeartbeats 16000000 in
theorem read_long (s : ByteArray) (w : World) (hs : 4000 < s.size) (hs2 : s.size ≤ 140737488351232) :
    Calls Tryz.prog 13 #[.string s] w fun e w' => e = .returned (.tuple #[.slice none 0 0, .int .i64 3]) ∧ w = w' := by
  have v1 : (4000 : Int) < (s.size : Int) := by omega
  go_enter Tryz.func13, Tryz.ntmps13
  go_wp2_with fail
  go_step3
  go_wp2_with fail
  try rw [Exit.noGoto_ret]
  go_ret2
  exact ⟨rfl, rfl⟩
set_option maxRecDepth 100000 in
set_option maxHeartbeats 16000000 in
theorem read_calls (s : ByteArray) (w : World) (hs : s.size ≤ 4000) :
    Calls Tryz.prog 13 #[.string s] w fun e w' => ∃ v, e = .returned (.tuple #[v, .int .i64 0]) ∧ Kd.S k46 46 w' w.heap.size (fun _ => True) v (readF s.data.toList) ∧ Below w.heap.size w w' := by
  have hbs : ∀ W : World, (convert 9 72 (.string s)).run Tryz.prog W = _ := fun W => run_bytes_of_string (P := Tryz.prog) W 9 72 5 s Tryz.underlying9 Tryz.underlying72 Tryz.underlying5
  have hmf : ∀ (fn : Fn) (first cap : Array Value) (w : World), (Instr.makeFunc fn first cap).run Tryz.prog w = .ok (.func fn first cap) w := fun _ _ _ _ => rfl
  have v1 : decide ((4000 : Int) < (s.size : Int)) = false := by simp; omega
  have HS := Lib.hid hs
  clear hs
  go_enter Tryz.func13, Tryz.ntmps13
  go_wp2_with fail
  go_step3
  go_wp2_with fail
  go_step3
  go_wp2_with fail
  obtain ⟨cp, hcp⟩ : ∃ cp, cp = grownCap ((w.alloc (.cells #[.slice none 0 0] 23)).alloc (.cells #[.slice none 0 0] 72)) s.size 0 5 := ⟨_, rfl⟩
  rw [← hcp]
  have HGE := Lib.hid (show s.size ≤ cp by rw [hcp]; exact grownCap_ge _ _ _ _)
  clear hcp hbs
  have HI0 := Lib.hid (show RdI s cp w [] [] (.slice none 0 0) (.slice none 0 0) ((((w.alloc (.cells #[.slice none 0 0] 23)).alloc (.cells #[.slice none 0 0] 72)).alloc (.cells (bytesRow s cp) 5 ((bytesRow s cp).size, (bytesRow s cp).size + 1))).drew) from
    ⟨⟨((Blk.alloc w _ _).alloc_old _).alloc_old _, (Blk.alloc_at _ _ _ (by simp)).alloc_old _, Kd.S_nil _ _ _ _ _, World.ownsRow_nil _ _ _ _⟩, (by show Blz _ _ _ _; have h := heap_alloc_new ((w.alloc (.cells #[.slice none 0 0] 23)).alloc (.cells #[.slice none 0 0] 72)) (.cells (bytesRow s cp) 5 ((bytesRow s cp).size, (bytesRow s cp).size + 1)); have e : ((w.alloc (.cells #[.slice none 0 0] 23)).alloc (.cells #[.slice none 0 0] 72)).heap.size = w.heap.size + 1 + 1 := (by simp); rw [e] at h; exact h), below_drewN (below_alloc (below_alloc (below_alloc (Below.refl _ _) _) _) _) 1⟩)
  have HLL := Lib.hid (show s.data.toList.length = s.size by simp)
  obtain ⟨R, hR⟩ : ∃ R, rdL s.data.toList (s.data.toList.length + 1) 0 [] [] = R := ⟨_, rfl⟩
  have HRF := Lib.hid (show readF s.data.toList = R from hR)
  have HR0 := Lib.hid hR
  obtain ⟨i0, hi, hzz⟩ : ∃ i0, Tryz.prog.info? 5 = some i0 ∧ (i0.zero, i0.size, i0.bytes) = (some (.int .u8 0), 1, 1) := Option.map_eq_some_iff.1 (show (Tryz.prog.info? 5).map (fun i => (i.zero, i.size, i.bytes)) = some (some (.int .u8 0), 1, 1) by kernel_rfl)
  simp only [Prod.mk.injEq] at hzz
  obtain ⟨hz0, hz1, hz2⟩ := hzz
  have HIN := Lib.hid hi
  have HZ0 := Lib.hid hz0
  have HZS := Lib.hid hz1
  have HZB := Lib.hid hz2
  clear hi hz0 hz1 hz2 hR
  go_loopw [7] (fun bv wr => ∃ (f o a m c : Nat) (ts : List S46) (tx : List UInt8) (lv tv : Value), bv = .slice (some ⟨w.heap.size + 1 + 1, a, none⟩) m c ∧ m ≤ 4000 ∧ m ≤ c ∧ Hid (m = s.size - o ∧ o ≤ s.size) ∧ Hid (o < s.size → a = o) ∧ Hid (RdI s cp w ts tx lv tv wr) ∧ Hid (rdL s.data.toList f o ts tx = R) ∧ Hid (m < f) ∧ Hid (ts.length ≤ 2 * o) ∧ Hid (tx.length ≤ o)) (fun bv _ => slz bv)
  case atStart => exact ⟨s.data.toList.length + 1, 0, 0, s.size, cp, [], [], _, _, rfl, HS.out, HGE.out, Lib.hid (by omega), Lib.hid (fun _ => rfl), HI0, HR0, Lib.hid (by have := HLL.out; omega), Lib.hid (Nat.zero_le _), Lib.hid (Nat.zero_le _)⟩
  case round =>
    clear HI0
    obtain ⟨f, o, a, m, c, ts, tx, lv, tv, rfl, hm4, hmc, HM, HAO, HI, HL, HF, HLT, HLXO⟩ := hrel
    obtain ⟨f, rfl⟩ : ∃ f', f = f' + 1 := ⟨f - 1, by have := HF.out; omega⟩
    obtain ⟨A1, c1, hlv⟩ := Kd.S_slice HI.out.ei.lr
    obtain ⟨A2, c2, htv⟩ := own_sl HI.out.ei.tr
    subst hlv htv
    have HLT6 := Lib.hid (show ts.length ≤ 600000 from by have := HLT.out; have := HM.out; have := HS.out; omega)
    have HLX6 := Lib.hid (show tx.length ≤ 600000 from by have := HLXO.out; have := HM.out; have := HS.out; omega)
    have HLX := HLX6
    by_cases hz : m = 0
    · have HRR := Lib.hid (show endT ts tx = R from by
        have h := HL.out
        rw [rdL, List.getElem?_eq_none (by have := HLL.out; have := HM.out; omega)] at h
        exact h)
      have v3 : ¬ (0 : Int) < (m : Int) := by omega
      clear hz
      go_wp2_with (go_at_call 48; refine Calls.mono (end_calls w.heap.size w.heap.size (fun _ => True) ts tx (.slice A1 ts.length c1) (.slice A2 tx.length c2) _ HI.out.ei (fun _ _ => trivial) (Nat.le_refl _) HLT6.out HLX6.out) ?_; rintro e w5 ⟨rfl, lv5, hei, hch, hat⟩; have HE5 := Lib.hid hei; have HB5 := Lib.hid ((HI.out.ended hei hch).below); obtain ⟨A5, c5, hl5⟩ := Kd.S_slice hei.lr; subst hl5; have l5 : w5.cell? ⟨w.heap.size, 0, none⟩ = some (.slice A5 (endT ts tx).length c5) := hei.lc.cell 0; clear hei hch hat)
      try rw [Exit.noGoto_ret]
      go_ret2
      exact ⟨_, rfl, by rw [HRF.out, ← HRR.out]; exact HE5.out.lr, HB5.out⟩
    · have hm0 : 0 < m := by omega
      have v3 : (0 : Int) < (m : Int) := by omega
      have hol : o < s.data.toList.length := by have := HLL.out; have := HM.out; omega
      obtain ⟨d, hd⟩ : ∃ d, d = s.data.toList[o]'hol := ⟨_, rfl⟩
      have HD := Lib.hid hd
      have HGL := Lib.hid HI.out.by_.lt
      have HBT := Lib.hid (show ∀ y, Below wr.heap.size wr y → Bt y (w.heap.size + 1 + 1) a m c (s.data.toList.drop o) from fun y hy => by
        have h := ((HI.out.step hy).bt HGE.out).drop (k := o) (a' := a) (c' := c) HM.out.2 (fun h => by have := HM.out; rw [HAO.out (by omega), Nat.zero_add]) (by have := HM.out; omega)
        rw [← HM.out.1] at h
        exact h)
      have HDC := Lib.hid (show ∀ y, Below wr.heap.size wr y → y.cell? ⟨w.heap.size + 1 + 1, a, none⟩ = some (.int .u8 (d.toNat : Int)) from fun y hy => by
        have h : y.cell? ⟨w.heap.size + 1 + 1, a, none⟩ = some (.int .u8 (((s.data.toList.drop o)[0]'(by rw [List.length_drop]; omega)).toNat : Int)) := (HBT.out y hy).cell 0 (by rw [List.length_drop]; omega)
        rw [h, List.getElem_drop, hd]
        rfl)
      obtain ⟨a1, ha1⟩ : ∃ a1, a1 = bof a c 1 := ⟨_, rfl⟩
      have hsl : ∀ W : World, (Instr.slice 72 (.slice (some ⟨w.heap.size + 1 + 1, a, none⟩) m c) (some (.int .i64 1)) none none).run Tryz.prog W = .ok (.slice (some ⟨w.heap.size + 1 + 1, a1, none⟩) (m - 1) (c - 1)) W := fun W => by
        have h := slice_l W (w.heap.size + 1 + 1) a m c 1 (by omega) hmc
        rw [← ha1] at h
        exact h
      have HA1 := Lib.hid (show 1 < c → a1 = a + 1 from fun h => by rw [ha1]; exact bof_lt h)
      have HGO := Lib.hid (show s.data.toList[o]? = some d from by rw [hd]; exact List.getElem?_eq_getElem hol)
      clear ha1 hd hz
      have q0 := fun o1 o2 => HDC.out ((wr.alloc o1).alloc o2) (below_alloc (below_alloc (Below.refl _ _) _) _)
      by_cases h60 : d = 60
      · subst h60
        have HCA := Lib.hid (show ∀ y, Below wr.heap.size wr y → Calls Tryz.prog 85 #[.slice (some ⟨w.heap.size + 1 + 1, a, none⟩) m c] y fun e z => TkPost y.heap.size (w.heap.size + 1 + 1) a m (clR (s.data.toList.drop o)) e z ∧ Below y.heap.size y z from fun y hy => cl_tk _ a m c _ y (HBT.out y hy) (by omega))
        have HOA := Lib.hid (show ∀ y, Below wr.heap.size wr y → Calls Tryz.prog 86 #[.slice (some ⟨w.heap.size + 1 + 1, a, none⟩) m c] y fun e z => TkPost y.heap.size (w.heap.size + 1 + 1) a m (opR (s.data.toList.drop o)) e z ∧ Below y.heap.size y z from fun y hy => op_tk _ a m c _ y (HBT.out y hy) (by omega) hm0)
        have hL := HL.out
        rw [rdL, HGO.out] at hL
        dsimp only at hL
        rw [if_pos rfl, tkF_eq] at hL
        have HLA := Lib.hid hL
        clear hL HL
        cases hcl : clR (s.data.toList.drop o) with
        | some r =>
          obtain ⟨tok, u⟩ := r
          have HCL := Lib.hid (show ∀ y, Below wr.heap.size wr y → Calls Tryz.prog 85 #[.slice (some ⟨w.heap.size + 1 + 1, a, none⟩) m c] y fun e z => TkPost y.heap.size (w.heap.size + 1 + 1) a m (some (tok, u)) e z ∧ Below y.heap.size y z from fun y hy => by
            have h := HCA.out y hy
            rw [hcl] at h
            exact h)
          have HUM := Lib.hid (show u ≤ m ∧ 0 < u from by
            have h := tkF_le (l := s.data.toList.drop o) (t := tok) (u := u) (by rw [tkF_eq, hcl]; rfl)
            rw [List.length_drop] at h
            have := HLL.out; have := HM.out
            omega)
          have HLN := Lib.hid (show rdL s.data.toList f (o + u) (endT ts tx ++ [tok]) [] = R from by
            have h := HLA.out
            rw [hcl] at h
            exact h)
          obtain ⟨k0, n1, t2, as3⟩ := tok
          clear hcl HLA HCA HOA
          go_wp2_with (go_at_call 49; go_in)
          refine wp_loop_rounds 1 ?_
          rw [rounds_succ]
          go_wp2_with (first | (go_at_call 85; refine Calls.mono (HCL.out _ (by (repeat (first | exact HZ2.out | exact HZ1.out | exact Below.refl _ _ | apply below_alloc)))) ?_; rintro e z1 ⟨hp, hb⟩; obtain ⟨cs, a6, hM, ha6, rfl⟩ := hp; have HZ1 := Lib.hid (show Below wr.heap.size wr z1 from bel_trans (by (repeat (first | exact HZ2.out | exact HZ1.out | exact Below.refl _ _ | apply below_alloc))) hb); have HZW := Lib.hid HZ1.out.size; have HA6 := Lib.hid ha6; have HMT := Lib.hid (tk_M hM HI.out.below.size (Below.size (by (repeat (first | exact HZ2.out | exact HZ1.out | exact Below.refl _ _ | apply below_alloc))))); obtain ⟨v3, hcs, hrow⟩ := k46_openM hM; dsimp only at hcs hrow; obtain ⟨A3, c3, hv3⟩ := Kd.R_slice hrow; subst hv3 hcs; clear hM hb hrow ha6) | (go_at_call 48; refine Calls.mono (end_calls w.heap.size w.heap.size (fun k => ¬ (wr.heap.size ≤ k ∧ k < z1.heap.size)) ts tx (.slice A1 ts.length c1) (.slice A2 tx.length c2) _ (rdi_end HI.out (by (repeat (first | exact HZ2.out | exact HZ1.out | exact Below.refl _ _ | apply below_alloc))) _) (by intro k hk; simp at hk; omega) (Nat.le_refl _) HLT6.out HLX6.out) ?_; rintro e w5 ⟨rfl, lv5, hei, hch, hat⟩; have HE5 := Lib.hid hei; have HC5 := Lib.hid hch; have HA5 := Lib.hid (app_i HI.out HMT.out ((Below.refl _ _).alloc (Nat.le_refl _) _) hei hch); have HB5 := Lib.hid (((HI.out.step (by (repeat (first | exact HZ2.out | exact HZ1.out | exact Below.refl _ _ | apply below_alloc)))).ended ⟨hei.lc, hei.tc, Kd.S_mono hei.lr (fun _ _ => trivial), hei.tr⟩ hch).below); obtain ⟨A5, c5, hl5⟩ := Kd.S_slice hei.lr; subst hl5; have l5 : w5.cell? ⟨w.heap.size, 0, none⟩ = some (.slice A5 (endT ts tx).length c5) := hei.lc.cell 0; have hzt : Blk w5 z1.heap.size #[.int .i64 k0, .string n1, .string t2, .slice A3 as3.length c3] 46 := ((Blk.alloc z1 _ _).of_block (hch.block _ (by simp) (by have := HZW.out; have := HI.out.ei.tc.lt; omega) (by have := HZW.out; have := HI.out.ei.tc.lt; omega) (fun e => by have := Kd.S_lt HI.out.ei.lr _ e.symm; have := HZW.out; omega))); have t0 := hzt.cell 0; have t1 := hzt.cell 1; have t2_ := hzt.cell 2; have t3 := hzt.cell 3; simp only [List.getElem?_toArray, List.getElem?_cons_zero, List.getElem?_cons_succ] at t0 t1 t2_ t3; clear hei hch hat hzt) | (at_builtin; refine Kd.S_append k46 (w0 := w) w.heap.size rfl _ _ 23 46 (.agg #[.int .i64 0, .string ⟨#[]⟩, .string ⟨#[]⟩, .slice none 0 0]) 64 rfl Tryz.underlying23 info_token rfl (by decide) (by decide) (.slice A5 (endT ts tx).length c5) (endT ts tx) ⟨k0, n1, t2, as3⟩ [.int .i64 k0, .string n1, .string t2, .slice A3 as3.length c3] (fun _ => True) (fun k => wr.heap.size ≤ k ∧ k < z1.heap.size) rfl rfl HA5.out.hp HA5.out.hokp (fun _ _ => trivial) HA5.out.ho HB5.out HB5.out.size (by have := endT_len ts tx; have := HLT6.out; omega) ?_; intro v1 w6 hr hb6 hg6 hat6; have HAP := Lib.hid (rdi_app HI.out (by (repeat (first | exact HZ2.out | exact HZ1.out | exact Below.refl _ _ | apply below_alloc))) HE5.out HC5.out hr hb6 hg6); obtain ⟨A6, c6, hv6⟩ := Kd.S_slice hr; rw [List.length_append, List.length_singleton] at hv6; subst hv6; have l6 : w6.cell? ⟨w.heap.size, 0, none⟩ = some (.slice A5 (endT ts tx).length c5) := HAP.out.1.cell 0; have f6 : w6.frozen? ⟨w.heap.size, 0, none⟩ = false := HAP.out.1.free 0; clear hr hb6 hg6 hat6))
          go_roundw
          case rel => exact ⟨f, o + u, a6, m - u, m - u, endT ts tx ++ [⟨k0, n1, t2, as3⟩], [], _, _, rfl, by have := HUM.out; omega, Nat.le_refl _, Lib.hid (by have := HM.out; have := HUM.out; omega), Lib.hid (fun h => by have := HM.out; have := HUM.out; rw [HA6.out (by omega), HAO.out (by omega)]), Lib.hid HAP.out.2, HLN, Lib.hid (by have := HF.out; have := HUM.out; omega), Lib.hid (by rw [List.length_append, List.length_singleton]; have := endT_len ts tx; have := HLT.out; have := HUM.out; omega), Lib.hid (Nat.zero_le _)⟩
          case measure => show slz _ < slz _; have := HUM.out; simp only [slz]; omega
        | none =>
          have HCL := Lib.hid (show ∀ y, Below wr.heap.size wr y → Calls Tryz.prog 85 #[.slice (some ⟨w.heap.size + 1 + 1, a, none⟩) m c] y fun e z => TkPost y.heap.size (w.heap.size + 1 + 1) a m none e z ∧ Below y.heap.size y z from fun y hy => by
            have h := HCA.out y hy
            rw [hcl] at h
            exact h)
          cases hop : opR (s.data.toList.drop o) with
          | some r =>
            obtain ⟨tok, u⟩ := r
            have HOP := Lib.hid (show ∀ y, Below wr.heap.size wr y → Calls Tryz.prog 86 #[.slice (some ⟨w.heap.size + 1 + 1, a, none⟩) m c] y fun e z => TkPost y.heap.size (w.heap.size + 1 + 1) a m (some (tok, u)) e z ∧ Below y.heap.size y z from fun y hy => by
              have h := HOA.out y hy
              rw [hop] at h
              exact h)
            have HUM := Lib.hid (show u ≤ m ∧ 0 < u from by
              have h := tkF_le (l := s.data.toList.drop o) (t := tok) (u := u) (by rw [tkF_eq, hcl, hop]; rfl)
              rw [List.length_drop] at h
              have := HLL.out; have := HM.out
              omega)
            have HLN := Lib.hid (show rdL s.data.toList f (o + u) (endT ts tx ++ [tok]) [] = R from by
              have h := HLA.out
              rw [hcl, hop] at h
              exact h)
            obtain ⟨k0, n1, t2, as3⟩ := tok
            clear hcl hop HLA HCA HOA
            go_wp2_with (go_at_call 49; go_in)
            refine wp_loop_rounds 2 ?_
            rw [rounds_succ]
            go_wp2_with (go_at_call 85; refine Calls.mono (HCL.out _ (by (repeat (first | exact HZ2.out | exact HZ1.out | exact Below.refl _ _ | apply below_alloc)))) ?_; rintro e z1 ⟨hp, hb⟩; have hp' : e = .returned (.tuple #[.agg #[.int .i64 0, .string ⟨#[]⟩, .string ⟨#[]⟩, .slice none 0 0], .slice none 0 0, .bool false]) := hp; subst hp'; have HZ1 := Lib.hid (show Below wr.heap.size wr z1 from bel_trans (by (repeat (first | exact HZ2.out | exact HZ1.out | exact Below.refl _ _ | apply below_alloc))) hb); have HFB := Lib.hid (show Blk z1 wr.heap.size #[.func (.func 85) #[] #[], .func (.func 86) #[] #[]] 77 from ((Blk.alloc wr _ _).alloc_old _).below hb (by simp; omega)); have ff1 : ∀ o, (z1.alloc o).cell? ⟨wr.heap.size, 1, none⟩ = some (.func (.func 86) #[] #[]) := (fun o => (HFB.out.alloc_old o).cell 1); have q1 := fun o1 o2 => HDC.out ((z1.alloc o1).alloc o2) (below_alloc (below_alloc HZ1.out _) _); clear hb hp)
            rw [rounds_succ]
            go_wp2_with (first | (go_at_call 86; refine Calls.mono (HOP.out _ (by (repeat (first | exact HZ2.out | exact HZ1.out | exact Below.refl _ _ | apply below_alloc)))) ?_; rintro e z2 ⟨hp, hb⟩; obtain ⟨cs, a6, hM, ha6, rfl⟩ := hp; have HZ2 := Lib.hid (show Below wr.heap.size wr z2 from bel_trans (by (repeat (first | exact HZ2.out | exact HZ1.out | exact Below.refl _ _ | apply below_alloc))) hb); have HZW := Lib.hid HZ2.out.size; have HA6 := Lib.hid ha6; have HMT := Lib.hid (tk_M hM HI.out.below.size (Below.size (by (repeat (first | exact HZ2.out | exact HZ1.out | exact Below.refl _ _ | apply below_alloc))))); obtain ⟨v3, hcs, hrow⟩ := k46_openM hM; dsimp only at hcs hrow; obtain ⟨A3, c3, hv3⟩ := Kd.R_slice hrow; subst hv3 hcs; clear hM hb hrow ha6) | (go_at_call 48; refine Calls.mono (end_calls w.heap.size w.heap.size (fun k => ¬ (wr.heap.size ≤ k ∧ k < z2.heap.size)) ts tx (.slice A1 ts.length c1) (.slice A2 tx.length c2) _ (rdi_end HI.out (by (repeat (first | exact HZ2.out | exact HZ1.out | exact Below.refl _ _ | apply below_alloc))) _) (by intro k hk; simp at hk; omega) (Nat.le_refl _) HLT6.out HLX6.out) ?_; rintro e w5 ⟨rfl, lv5, hei, hch, hat⟩; have HE5 := Lib.hid hei; have HC5 := Lib.hid hch; have HA5 := Lib.hid (app_i HI.out HMT.out ((Below.refl _ _).alloc (Nat.le_refl _) _) hei hch); have HB5 := Lib.hid (((HI.out.step (by (repeat (first | exact HZ2.out | exact HZ1.out | exact Below.refl _ _ | apply below_alloc)))).ended ⟨hei.lc, hei.tc, Kd.S_mono hei.lr (fun _ _ => trivial), hei.tr⟩ hch).below); obtain ⟨A5, c5, hl5⟩ := Kd.S_slice hei.lr; subst hl5; have l5 : w5.cell? ⟨w.heap.size, 0, none⟩ = some (.slice A5 (endT ts tx).length c5) := hei.lc.cell 0; have hzt : Blk w5 z2.heap.size #[.int .i64 k0, .string n1, .string t2, .slice A3 as3.length c3] 46 := ((Blk.alloc z2 _ _).of_block (hch.block _ (by simp) (by have := HZW.out; have := HI.out.ei.tc.lt; omega) (by have := HZW.out; have := HI.out.ei.tc.lt; omega) (fun e => by have := Kd.S_lt HI.out.ei.lr _ e.symm; have := HZW.out; omega))); have t0 := hzt.cell 0; have t1 := hzt.cell 1; have t2_ := hzt.cell 2; have t3 := hzt.cell 3; simp only [List.getElem?_toArray, List.getElem?_cons_zero, List.getElem?_cons_succ] at t0 t1 t2_ t3; clear hei hch hat hzt) | (at_builtin; refine Kd.S_append k46 (w0 := w) w.heap.size rfl _ _ 23 46 (.agg #[.int .i64 0, .string ⟨#[]⟩, .string ⟨#[]⟩, .slice none 0 0]) 64 rfl Tryz.underlying23 info_token rfl (by decide) (by decide) (.slice A5 (endT ts tx).length c5) (endT ts tx) ⟨k0, n1, t2, as3⟩ [.int .i64 k0, .string n1, .string t2, .slice A3 as3.length c3] (fun _ => True) (fun k => wr.heap.size ≤ k ∧ k < z2.heap.size) rfl rfl HA5.out.hp HA5.out.hokp (fun _ _ => trivial) HA5.out.ho HB5.out HB5.out.size (by have := endT_len ts tx; have := HLT6.out; omega) ?_; intro v1 w6 hr hb6 hg6 hat6; have HAP := Lib.hid (rdi_app HI.out (by (repeat (first | exact HZ2.out | exact HZ1.out | exact Below.refl _ _ | apply below_alloc))) HE5.out HC5.out hr hb6 hg6); obtain ⟨A6, c6, hv6⟩ := Kd.S_slice hr; rw [List.length_append, List.length_singleton] at hv6; subst hv6; have l6 : w6.cell? ⟨w.heap.size, 0, none⟩ = some (.slice A5 (endT ts tx).length c5) := HAP.out.1.cell 0; have f6 : w6.frozen? ⟨w.heap.size, 0, none⟩ = false := HAP.out.1.free 0; clear hr hb6 hg6 hat6))
            go_roundw
            case rel => exact ⟨f, o + u, a6, m - u, m - u, endT ts tx ++ [⟨k0, n1, t2, as3⟩], [], _, _, rfl, by have := HUM.out; omega, Nat.le_refl _, Lib.hid (by have := HM.out; have := HUM.out; omega), Lib.hid (fun h => by have := HM.out; have := HUM.out; rw [HA6.out (by omega), HAO.out (by omega)]), Lib.hid HAP.out.2, HLN, Lib.hid (by have := HF.out; have := HUM.out; omega), Lib.hid (by rw [List.length_append, List.length_singleton]; have := endT_len ts tx; have := HLT.out; have := HUM.out; omega), Lib.hid (Nat.zero_le _)⟩
            case measure => show slz _ < slz _; have := HUM.out; simp only [slz]; omega
          | none =>
            have HOP := Lib.hid (show ∀ y, Below wr.heap.size wr y → Calls Tryz.prog 86 #[.slice (some ⟨w.heap.size + 1 + 1, a, none⟩) m c] y fun e z => TkPost y.heap.size (w.heap.size + 1 + 1) a m none e z ∧ Below y.heap.size y z from fun y hy => by
              have h := HOA.out y hy
              rw [hop] at h
              exact h)
            have HLN := Lib.hid (show rdL s.data.toList f (o + 1) ts (tx ++ [60]) = R from by
              have h := HLA.out
              rw [hcl, hop] at h
              exact h)
            obtain ⟨d, hd⟩ : ∃ d, d = (60 : UInt8) := ⟨_, rfl⟩
            have HD60 := Lib.hid hd
            rw [← hd] at HLN HD
            clear hcl hop HLA HCA HOA hd
            go_wp2_with (go_at_call 49; go_in)
            refine wp_loop_rounds 3 ?_
            rw [rounds_succ]
            go_wp2_with (go_at_call 85; refine Calls.mono (HCL.out _ (by (repeat (first | exact HZ2.out | exact HZ1.out | exact Below.refl _ _ | apply below_alloc)))) ?_; rintro e z1 ⟨hp, hb⟩; have hp' : e = .returned (.tuple #[.agg #[.int .i64 0, .string ⟨#[]⟩, .string ⟨#[]⟩, .slice none 0 0], .slice none 0 0, .bool false]) := hp; subst hp'; have HZ1 := Lib.hid (show Below wr.heap.size wr z1 from bel_trans (by (repeat (first | exact HZ2.out | exact HZ1.out | exact Below.refl _ _ | apply below_alloc))) hb); have HFB := Lib.hid (show Blk z1 wr.heap.size #[.func (.func 85) #[] #[], .func (.func 86) #[] #[]] 77 from ((Blk.alloc wr _ _).alloc_old _).below hb (by simp; omega)); have ff1 : ∀ o, (z1.alloc o).cell? ⟨wr.heap.size, 1, none⟩ = some (.func (.func 86) #[] #[]) := (fun o => (HFB.out.alloc_old o).cell 1); have q1 := fun o1 o2 => HDC.out ((z1.alloc o1).alloc o2) (below_alloc (below_alloc HZ1.out _) _); clear hb hp)
            rw [rounds_succ]
            go_wp2_with (go_at_call 86; refine Calls.mono (HOP.out _ (by (repeat (first | exact HZ2.out | exact HZ1.out | exact Below.refl _ _ | apply below_alloc)))) ?_; rintro e z2 ⟨hp, hb⟩; have hp' : e = .returned (.tuple #[.agg #[.int .i64 0, .string ⟨#[]⟩, .string ⟨#[]⟩, .slice none 0 0], .slice none 0 0, .bool false]) := hp; subst hp'; have HZ2 := Lib.hid (show Below wr.heap.size wr z2 from bel_trans (by (repeat (first | exact HZ2.out | exact HZ1.out | exact Below.refl _ _ | apply below_alloc))) hb); clear hb hp)
            rw [rounds_succ]
            go_upto_region 17 with (fail)
            have HI17 := Lib.hid (HI.out.step (z := (z2.alloc (.cells #[.int .i64 0, .string ⟨#[]⟩, .string ⟨#[]⟩, .slice none 0 0] 46))) (below_alloc HZ2.out _))
            obtain ⟨W17, hW17⟩ : ∃ W17, W17 = (z2.alloc (.cells #[.int .i64 0, .string ⟨#[]⟩, .string ⟨#[]⟩, .slice none 0 0] 46)) := ⟨_, rfl⟩
            rw [← hW17] at HI17 ⊢
            clear hW17
            have d0 : W17.cell? ⟨w.heap.size + 1, 0, none⟩ = some (.slice A2 tx.length c2) := HI17.out.ei.tc.cell 0
            have d0' : ∀ o, (W17.alloc o).cell? ⟨w.heap.size + 1, 0, none⟩ = some (.slice A2 tx.length c2) := fun o => (HI17.out.ei.tc.alloc_old o).cell 0
            have c0 : W17.cell? ⟨w.heap.size + 1 + 1, a, none⟩ = some (.int .u8 (d.toNat : Int)) := by rw [HAO.out (by have := HM.out; omega)]; have h := (HI17.out.bt HGE.out).cell o (by have := HLL.out; have := HM.out; omega); rw [Nat.zero_add] at h; rw [h, ← HD.out]
            have HOW := Lib.hid (show ((W17.alloc (.cells #[.int .u8 (d.toNat : Int)] 5)).drew).ownsRow w.heap.size 5 1 (.slice A2 tx.length c2) tx.length (byc tx) from World.ownsRow.drew (HI17.out.ei.tr.alloc _))
            have HUC := Lib.hid (show ((W17.alloc (.cells #[.int .u8 (d.toNat : Int)] 5)).drew).cell? ⟨W17.heap.size, 0, none⟩ = some (.int .u8 (d.toNat : Int)) from (Blk.alloc W17 #[.int .u8 (d.toNat : Int)] 5).cell 0)
            have HBS := Lib.hid (show w.heap.size ≤ ((W17.alloc (.cells #[.int .u8 (d.toNat : Int)] 5)).drew).heap.size from Nat.le_trans HI17.out.below.size (by show W17.heap.size ≤ (W17.heap.push _).size; simp))
            have HBY := Lib.hid (show Below W17.heap.size W17 ((W17.alloc (.cells #[.int .u8 (d.toNat : Int)] 5)).drew) from below_drewN ((Below.refl _ _).alloc (Nat.le_refl _) _) 1)
            go_region_law ((refine own_app_step (by rfl) _ _ 72 5 (by rfl) i0 (.int .u8 0) 1 Tryz.underlying72 HIN.out HZ0.out HZS.out HZB.out rfl w.heap.size (.slice A2 tx.length c2) tx.length (byc tx) (by rfl) W17.heap.size (by rfl) (.int .u8 (d.toNat : Int)) HUC.out rfl HOW.out (by have := HLX.out; unfold maxLen; omega) (by have := HLX.out; omega) HBS.out ?_; intro v1 w4 hown4 hg4 hat4; have HT4 := Lib.hid (rdi_text HI17.out HBY.out hown4 hg4); obtain ⟨A4, c4, hv4⟩ := own_sl hown4; subst hv4; have e4 : w4.cell? ⟨w.heap.size + 1, 0, none⟩ = some (.slice A2 tx.length c2) := HT4.out.1.cell 0; have f4 : w4.frozen? ⟨w.heap.size + 1, 0, none⟩ = false := HT4.out.1.free 0; clear hown4 hg4 hat4))
            all_goals
              show Exit.inBlock _ _ _ _ _
              go_roundw
              case rel => (repeat apply Exists.intro); exact ⟨⟨f, o + 1, a1, m - 1, c - 1, ts, tx ++ [d], _, _, rfl, by omega, by omega, Lib.hid (by have := HM.out; omega), Lib.hid (fun h => by have := HM.out; rw [HA1.out (by omega), HAO.out (by omega)]), Lib.hid HT4.out.2, HLN, Lib.hid (by have := HF.out; omega), Lib.hid (by have := HLT.out; omega), Lib.hid (by rw [List.length_append]; have := HLXO.out; simp; omega)⟩, rfl⟩
              case measure => show slz _ < slz _; (try simp only [slz]); show m - 1 < m; omega
      · have v61 : ((d.toNat : Int) != 60) = true := by
          have : d.toNat ≠ 60 := fun h => h60 (by apply UInt8.toNat_inj.1; exact h)
          simp; omega
        have HLN := Lib.hid (show rdL s.data.toList f (o + 1) ts (tx ++ [d]) = R from by
          have h := HL.out
          rw [rdL, HGO.out] at h
          dsimp only at h
          rw [if_neg h60] at h
          exact h)
        clear HL h60
        go_wp2_with (go_at_call 49; go_in)
        refine wp_loop_rounds 1 ?_
        rw [rounds_succ]
        go_upto_region 17 with (fail)
        have HI17 := Lib.hid (HI.out.step (z := ((wr.alloc (.cells #[.func (.func 85) #[] #[], .func (.func 86) #[] #[]] 77)).alloc (.cells #[.func (.func 85) #[] #[]] 77))) (below_alloc (below_alloc (Below.refl _ _) _) _))
        obtain ⟨W17, hW17⟩ : ∃ W17, W17 = ((wr.alloc (.cells #[.func (.func 85) #[] #[], .func (.func 86) #[] #[]] 77)).alloc (.cells #[.func (.func 85) #[] #[]] 77)) := ⟨_, rfl⟩
        rw [← hW17] at HI17 ⊢
        clear hW17
        have d0 : W17.cell? ⟨w.heap.size + 1, 0, none⟩ = some (.slice A2 tx.length c2) := HI17.out.ei.tc.cell 0
        have d0' : ∀ o, (W17.alloc o).cell? ⟨w.heap.size + 1, 0, none⟩ = some (.slice A2 tx.length c2) := fun o => (HI17.out.ei.tc.alloc_old o).cell 0
        have c0 : W17.cell? ⟨w.heap.size + 1 + 1, a, none⟩ = some (.int .u8 (d.toNat : Int)) := by rw [HAO.out (by have := HM.out; omega)]; have h := (HI17.out.bt HGE.out).cell o (by have := HLL.out; have := HM.out; omega); rw [Nat.zero_add] at h; rw [h, ← HD.out]
        have HOW := Lib.hid (show ((W17.alloc (.cells #[.int .u8 (d.toNat : Int)] 5)).drew).ownsRow w.heap.size 5 1 (.slice A2 tx.length c2) tx.length (byc tx) from World.ownsRow.drew (HI17.out.ei.tr.alloc _))
        have HUC := Lib.hid (show ((W17.alloc (.cells #[.int .u8 (d.toNat : Int)] 5)).drew).cell? ⟨W17.heap.size, 0, none⟩ = some (.int .u8 (d.toNat : Int)) from (Blk.alloc W17 #[.int .u8 (d.toNat : Int)] 5).cell 0)
        have HBS := Lib.hid (show w.heap.size ≤ ((W17.alloc (.cells #[.int .u8 (d.toNat : Int)] 5)).drew).heap.size from Nat.le_trans HI17.out.below.size (by show W17.heap.size ≤ (W17.heap.push _).size; simp))
        have HBY := Lib.hid (show Below W17.heap.size W17 ((W17.alloc (.cells #[.int .u8 (d.toNat : Int)] 5)).drew) from below_drewN ((Below.refl _ _).alloc (Nat.le_refl _) _) 1)
        go_region_law ((refine own_app_step (by rfl) _ _ 72 5 (by rfl) i0 (.int .u8 0) 1 Tryz.underlying72 HIN.out HZ0.out HZS.out HZB.out rfl w.heap.size (.slice A2 tx.length c2) tx.length (byc tx) (by rfl) W17.heap.size (by rfl) (.int .u8 (d.toNat : Int)) HUC.out rfl HOW.out (by have := HLX.out; unfold maxLen; omega) (by have := HLX.out; omega) HBS.out ?_; intro v1 w4 hown4 hg4 hat4; have HT4 := Lib.hid (rdi_text HI17.out HBY.out hown4 hg4); obtain ⟨A4, c4, hv4⟩ := own_sl hown4; subst hv4; have e4 : w4.cell? ⟨w.heap.size + 1, 0, none⟩ = some (.slice A2 tx.length c2) := HT4.out.1.cell 0; have f4 : w4.frozen? ⟨w.heap.size + 1, 0, none⟩ = false := HT4.out.1.free 0; clear hown4 hg4 hat4))
        all_goals
          show Exit.inBlock _ _ _ _ _
          go_roundw
          case rel => (repeat apply Exists.intro); exact ⟨⟨f, o + 1, a1, m - 1, c - 1, ts, tx ++ [d], _, _, rfl, by omega, by omega, Lib.hid (by have := HM.out; omega), Lib.hid (fun h => by have := HM.out; rw [HA1.out (by omega), HAO.out (by omega)]), Lib.hid HT4.out.2, HLN, Lib.hid (by have := HF.out; omega), Lib.hid (by have := HLT.out; omega), Lib.hid (by rw [List.length_append]; have := HLXO.out; simp; omega)⟩, rfl⟩
          case measure => show slz _ < slz _; (try simp only [slz]); show m - 1 < m; omega
end Go.Proofs.YtkjgnkmnngaioaaGreat.Q
namespace Go.Proofs.YtkjgnkmnngaioaaGreat.Q
open Go.RowKit Go.IntWalk Go.Proofs.YtkjgnkmnngaioaaGreat.Mem
set_option linter.unusedVariables false
set_option linter.unusedSimpArgs false
/-- What buildOnce leaves. -/
structure BsBuilt (b np base q : Nat) (w w' : World) : Prop where
  rep : ∃ c4, Blk w' b (RB 0 1 (.iface 180 (.pointer (some ⟨q, 0, none⟩))) c4) 139
  bs : Bs q base np w'
  but : But b w w'
end Go.Proofs.YtkjgnkmnngaioaaGreat.Q
namespace Go.Proofs.YtkjgnkmnngaioaaGreat.Q
open Go.RowKit Go.IntWalk Go.Proofs.YtkjgnkmnngaioaaGreat.Mem
set_option linter.unusedVariables false
set_option linter.unusedSimpArgs false
end Go.Proofs.YtkjgnkmnngaioaaGreat.Q
namespace Go.Proofs.YtkjgnkmnngaioaaGreat.Q
set_option linter.unusedVariables false
set_option linter.unusedSimpArgs false
/-- What one byte is replaced by. -/
def sg (np : Nat) (c : UInt8) : List UInt8 := match (List.range np).find? (fun a => oby a == c.toNat) with
  | some a => (ns a).data.toList
  | none => [c]
def signF (np : Nat) (s : List UInt8) : List UInt8 := s.flatMap (sg np)
/-- What the counts of the last `k` bytes add. -/
def wsum (np : Nat) (l : List UInt8) : Nat → Nat
  | 0 => 0
  | k + 1 => wsum np l k + Lib.countByte l (oby (np - 1 - k)).toUInt8 * ((ns (np - 1 - k)).size - 1)
end Go.Proofs.YtkjgnkmnngaioaaGreat.Q
namespace Go.Proofs.YtkjgnkmnngaioaaGreat.Q
open Go.RowKit Go.IntWalk Go.Proofs.YtkjgnkmnngaioaaGreat.Mem
set_option linter.unusedVariables false
set_option linter.unusedSimpArgs false
def by8 (l : List UInt8) : List Value := l.map fun b => Value.int .u8 b.toNat
/-- Ahead of a piece that is copied, and behind it. -/
def CpC (q g : Nat) (S cur cur' : Array Value) (w0 : World) : Nat → World → Prop
  | 0, y => Blk y g cur 5 ∧ Blk y q S 179 ∧ Below w0.heap.size w0 y
  | _, y => Blk y g cur' 5 ∧ Blk y q S 179 ∧ Below w0.heap.size w0 y
end Go.Proofs.YtkjgnkmnngaioaaGreat.Q
namespace Go.Proofs.YtkjgnkmnngaioaaGreat.Q
open Go.RowKit Go.IntWalk Go.Proofs.YtkjgnkmnngaioaaGreat.Mem
set_option linter.unusedVariables false
set_option linter.unusedSimpArgs false
/-- The pairs of bytes and signs. -/
def PS (np : Nat) : List Value := (List.range np).flatMap fun a => [.string (os a), .string (ns a)]
/-- The signs in use. -/
def sgn (q : Bool) : Nat := if q then 4 else 3
end Go.Proofs.YtkjgnkmnngaioaaGreat.Q
namespace Go.Proofs.YtkjgnkmnngaioaaGreat.Q
open Go.RowKit Go.Proofs.YtkjgnkmnngaioaaGreat.Mem Go.Proofs.YtkjgnkmnngaioaaGreatW.PrintWords Go.Proofs.YtkjgnkmnngaioaaGreatW.PrintLast Go.Proofs.YtkjgnkmnngaioaaGreatW.PrintMore
set_option linter.unusedVariables false
set_option linter.unusedSimpArgs false
def token_Read.f (a0 : ByteArray) : Option (List S46 × Int) := if a0.size ≤ 140737488351232 then (if a0.size ≤ 4000 then some (readF a0.data.toList, 0) else some ([], 3)) else none
theorem token_Read.calls (a0 : ByteArray) (r0 : List S46) (r1 : Int) (w : World) (h : token_Read.f a0 = some (r0, r1)) :
    Calls Tryz.prog 13 #[.string a0] w fun e w' => ∃ v, e = .returned (.tuple #[v, .int .i64 r1]) ∧ Kd.S k46 46 w' w.heap.size (fun _ => True) v r0 ∧ Below w.heap.size w w' := by
  unfold token_Read.f at h
  split at h
  · rename_i h1
    split at h
    · rename_i h2
      injection h with h
      injection h with h3 h4
      subst h3 h4
      exact read_calls a0 w h2
    · rename_i h2
      injection h with h
      injection h with h3 h4
      subst h3 h4
      exact (read_long a0 w (by omega) h1).mono fun e w' ⟨he, hw⟩ => ⟨_, he, Kd.S_nil _ _ _ _ _, by subst hw; exact Below.refl _ _⟩
  · cases h
def token_Tell.f (a0 : ByteArray) : Option ByteArray := if a0.size ≤ 600000 then some (st (tellF a0 0)) else none
def token_Sign.f (a0 : ByteArray) (a1 : Bool) : Option ByteArray := if a0.size ≤ 600000 then some (st (signF (sgn a1) a0.data.toList)) else none
def token_Name.f (a0 : ByteArray) : Option Bool := if a0.size ≤ 9223372036854775807 then some (nameB a0.data.toList) else none
theorem token_Name.calls (a0 : ByteArray) (r : Bool) (w : World) (h : token_Name.f a0 = some r) :
    Calls Tryz.prog 17 #[.string a0] w fun e w' => e = .returned (.bool r) ∧ Below w.heap.size w w' := by
  unfold token_Name.f at h
  split at h
  · rename_i h1
    injection h with h
    subst h
    exact isName_calls a0 w h1
  · cases h
end Go.Proofs.YtkjgnkmnngaioaaGreat.Q
namespace Go.Proofs.YtkjgnkmnngaioaaGreat.Q
open Go.RowKit Go.IntWalk Go.Proofs.YtkjgnkmnngaioaaGreat.Mem Go.Proofs.YtkjgnkmnngaioaaGreatW.PrintWords Go.Proofs.YtkjgnkmnngaioaaGreatW.PrintLast Go.Proofs.YtkjgnkmnngaioaaGreatW.PrintMore
set_option linter.unusedVariables false
set_option linter.unusedSimpArgs false
theorem asksT_calls (s x : ByteArray) (b : Nat) (src : ByteArray) (w : World) (hc : w.cell? ⟨b, 0, none⟩ = some (.string src)) (hb : b < w.heap.size) :
    Calls Tryz.prog 114 #[.agg #[.string s, .string x], .pointer (some ⟨b, 0, none⟩)] w fun e w' => e = .returned (.bool (eqS s src)) ∧ Below w.heap.size w w' := by
  have hn : b ≠ w.heap.size := by omega
  go_enter Tryz.func114, Tryz.ntmps114
  go_wp2
  go_ret
  exact ⟨ret_bool' (by unfold eqS; rw [Bool.eq_iff_iff]; simp), (Below.refl _ _).alloc (Nat.le_refl _) _⟩
set_option maxHeartbeats 1000000 in
theorem kindexT_calls (A0 : Option Addr) (c0 : Nat) (l : List S70) (b : Nat) (src : ByteArray) (w : World) (hr0 : Kd.C k70 w A0 l.length l) (hl : l.length ≤ 9223372036854775806)
    (hc : w.cell? ⟨b, 0, none⟩ = some (.string src)) (hb : b < w.heap.size) :
    Calls Tryz.prog 80 #[.slice A0 l.length c0, .func (.func 114) #[] #[.pointer (some ⟨b, 0, none⟩)]] w fun e w' => e = .returned (.int .i64 (kidxFrom src l 0)) ∧ Below w.heap.size w w' := by
  have HR := Lib.hid hr0
  have HC := Lib.hid hc
  clear hr0 hc
  go_enter Tryz.func80, Tryz.ntmps80
  go_wp2_with fail
  go_loopw [8] (fun i wr => ∃ k : Nat, k ≤ l.length ∧ i = .int .i64 k ∧ Hid (kidxFrom src l 0 = kidxFrom src (l.drop k) k) ∧ Hid (Below w.heap.size w wr)) (fun i wr => l.length - (intOf i).toNat)
  case atStart => exact ⟨0, Nat.zero_le _, rfl, Lib.hid rfl, Lib.hid (Below.refl _ _)⟩
  case round =>
    obtain ⟨k, hk, rfl, HI, HB⟩ := hrel
    by_cases hlt : k < l.length
    · obtain ⟨ad, rfl, h0, h1⟩ := at_T70 (Kd.C_below HR.out HB.out) (k : Int) (by omega) (by omega)
      have hrd : Hid (rd_T70 l (k : Int) = l[k]) := Lib.hid (by simp [rd_T70, hlt])
      have HS := Lib.hid (kidxFrom_drop src l k hlt)
      simp only [Int.toNat_natCast] at h0 h1
      generalize hx : rd_T70 l (k : Int) = x at *
      have HX := Lib.hid hx
      clear hx
      have q0 : (wr.cell? ⟨b, 0, none⟩ = some (.string src)) := by rw [HB.out.cell (p := ⟨b, 0, none⟩) hb]; exact HC.out
      have q1 : b < wr.heap.size := Nat.lt_of_lt_of_le hb HB.out.size
      have Q0 := Lib.hid q0
      clear q0
      rcases (show eqS x.f0 src = false ∨ eqS x.f0 src = true by cases eqS x.f0 src <;> simp) with he | he
      · have HE := Lib.hid he
        clear he
        go_wp2_with fail
        refine (asksT_calls x.f0 x.f1 b src _ Q0.out q1).mono ?_
        rintro e w' ⟨rfl, hb'⟩
        rw [HE.out]
        have HB' := Lib.hid (HB.out.trans (hb'.mono HB.out.size))
        clear hb'
        go_wp2_with fail
        go_roundw
        case rel => exact ⟨k + 1, by omega, by go_num, Lib.hid (by rw [HI.out, HS.out, ← hrd.out, if_neg (by rw [HE.out]; decide)]), HB'⟩
        case measure => simp [intOf]; omega
      · have HE := Lib.hid he
        clear he
        go_wp2_with fail
        refine (asksT_calls x.f0 x.f1 b src _ Q0.out q1).mono ?_
        rintro e w' ⟨rfl, hb'⟩
        rw [HE.out]
        have HB' := Lib.hid (HB.out.trans (hb'.mono HB.out.size))
        clear hb'
        go_wp2_with fail
        go_ret
        exact ⟨by rw [HI.out, HS.out, ← hrd.out, if_pos HE.out]; rfl, HB'.out⟩
    · have hd : l.drop k = [] := by rw [List.drop_eq_nil_iff]; omega
      have HD := Lib.hid hd
      clear hd
      go_wp2_with fail
      go_ret
      exact ⟨by rw [HI.out, HD.out]; rfl, HB.out⟩
theorem hasKeyT_calls (A0 : Option Addr) (c0 : Nat) (l : List S70) (b : Nat) (src : ByteArray) (w : World) (hr0 : Kd.C k70 w A0 l.length l) (hl : l.length ≤ 9223372036854775806)
    (hc : w.cell? ⟨b, 0, none⟩ = some (.string src)) (hb : b < w.heap.size) :
    Calls Tryz.prog 108 #[.slice A0 l.length c0, .func (.func 114) #[] #[.pointer (some ⟨b, 0, none⟩)]] w fun e w' => e = .returned (.bool (l.any fun x => eqS x.f0 src)) ∧ Below w.heap.size w w' := by
  have HR := Lib.hid hr0
  have HC := Lib.hid hc
  clear hr0 hc
  go_enter Tryz.func108, Tryz.ntmps108
  go_wp2_with fail
  refine (kindexT_calls A0 c0 l b src _ HR.out hl HC.out hb).mono ?_
  rintro e w' ⟨rfl, hb'⟩
  have HB' := Lib.hid hb'
  clear hb'
  go_wp2_with fail
  go_ret
  exact ⟨by rw [← kidxFrom_any src l 0]; rfl, HB'.out⟩
abbrev At := S70
def atAt (l : List At) (i : Nat) : At := l.getD i z70
def attrOk (l : List At) (i : Nat) : Bool := nameB (atAt l i).f0.data.toList && !((l.take i).any fun x => eqS x.f0 (atAt l i).f0)
/-- May attributes be? -/
def attrsF (l : List At) : Bool := (List.range l.length).all (attrOk l)
theorem attrsF_true {l : List At} (h : ∀ i, i < l.length → attrOk l i = true) : attrsF l = true := by
  unfold attrsF
  rw [List.all_eq_true]
  intro i hi
  exact h i (List.mem_range.1 hi)
theorem attrsF_false {l : List At} {i : Nat} (hi : i < l.length) (h : attrOk l i = false) : attrsF l = false := by
  unfold attrsF
  rw [Bool.eq_false_iff]
  intro h1
  rw [List.all_eq_true] at h1
  have := h1 i (List.mem_range.2 hi)
  rw [h] at this
  cases this
set_option maxRecDepth 100000 in
set_option maxHeartbeats 4000000 in
theorem attrs_calls (A : Option Addr) (c : Nat) (l : List At) (w : World) (hC : Kd.C k70 w A l.length l) (hc : l.length ≤ c) (hl : l.length ≤ 9223372036854775806) (hs : ∀ x ∈ l, x.f0.size ≤ 9223372036854775807) :
    Calls Tryz.prog 95 #[.slice A l.length c] w fun e w' => e = .returned (.bool (attrsF l)) ∧ Below w.heap.size w w' := by
  have HC := Lib.hid hC
  have HS := Lib.hid hs
  have HCC := Lib.hid hc
  have HLL := Lib.hid hl
  clear hC hs hc hl
  go_enter Tryz.func95, Tryz.ntmps95
  go_wp2_with fail
  go_loopw [7] (fun i wr => ∃ k : Nat, k ≤ l.length ∧ i = .int .i64 k ∧ Hid (∀ j, j < k → attrOk l j = true) ∧ Hid (Below w.heap.size w wr)) (fun i wr => l.length - (intOf i).toNat)
  case atStart => exact ⟨0, Nat.zero_le _, rfl, Lib.hid (fun j hj => absurd hj (Nat.not_lt_zero _)), Lib.hid (Below.refl _ _)⟩
  case round =>
    obtain ⟨k, hk, rfl, HI, HB⟩ := hrel
    by_cases hlt : k < l.length
    · obtain ⟨ad, rfl, h0, h1⟩ := at_T70 (Kd.C_below HC.out HB.out) (k : Int) (by omega) (by omega)
      have hrd : rd_T70 l (k : Int) = atAt l k := by unfold rd_T70 atAt; rw [Int.toNat_natCast]
      rw [hrd] at h0 h1
      simp only [Int.toNat_natCast] at h0 h1
      obtain ⟨x, hx⟩ : ∃ x, x = atAt l k := ⟨_, rfl⟩
      rw [← hx] at h0 h1
      have HX := Lib.hid hx
      have HXS := Lib.hid (show x.f0.size ≤ 9223372036854775807 from HS.out x (by rw [hx]; unfold atAt; rw [List.getD_eq_getElem?_getD, List.getElem?_eq_getElem hlt]; exact List.getElem_mem _))
      clear hx hrd
      have X1 := Lib.hid (Blk.alloc wr #[.string x.f0, .string x.f1] 70)
      have XB := Lib.hid (HB.out.trans ((below_alloc (Below.refl wr.heap.size wr) (.cells #[.string x.f0, .string x.f1] 70)).mono HB.out.size))
      have HTK := Lib.hid (show (l.take k).length = k by rw [List.length_take]; omega)
      have i1 : (k : Int) ≤ (c : Int) := by have := HCC.out; omega
      have i2 : (0 : Int) ≤ (k : Int) := by omega
      have hll : l.length ≤ 9223372036854775806 := HLL.out
      go_upto_region 4 with (fail)
      generalize wr.alloc (.cells #[.string x.f0, .string x.f1] 70) = w1 at X1 XB ⊢
      have y0 := X1.out.cell 0
      have y1 := X1.out.cell 1
      simp only [List.getElem?_toArray, List.getElem?_cons_zero, List.getElem?_cons_succ] at y0 y1
      rcases (show nameB x.f0.data.toList = false ∨ nameB x.f0.data.toList = true by cases nameB x.f0.data.toList <;> simp) with hn | hn
      · have HN := Lib.hid hn
        clear hn
        go_wp2_with (go_at_call 17; refine (isName_calls x.f0 _ HXS.out).mono ?_; rintro e w2 ⟨rfl, hb2⟩; rw [HN.out]; have HB2 := Lib.hid (XB.out.trans (hb2.mono XB.out.size)); clear hb2)
        go_ret
        exact ⟨by rw [attrsF_false hlt (by unfold attrOk; rw [← HX.out, HN.out]; rfl)]; rfl, HB2.out⟩
      · have HN := Lib.hid hn
        clear hn
        obtain ⟨h, hh⟩ : ∃ h, h = (l.take k).any (fun y => eqS y.f0 x.f0) := ⟨_, rfl⟩
        have HH := Lib.hid hh
        clear hh
        cases h
        all_goals
          go_wp2_with (first
            | (go_at_call 17; refine (isName_calls x.f0 _ HXS.out).mono ?_; rintro e w2 ⟨rfl, hb2⟩; rw [HN.out]; have HB2 := Lib.hid (XB.out.trans (hb2.mono XB.out.size)); have HX2 := Lib.hid (X1.out.below hb2 X1.out.lt); have z0 : w2.cell? ⟨wr.heap.size, 0, none⟩ = some (.string x.f0) := HX2.out.cell 0; have z1 : wr.heap.size < w2.heap.size := HX2.out.lt; clear hb2 y0 y1)
            | (go_at_call 108; refine Calls.mono (by have hq := hasKeyT_calls (some ad) c (l.take k) wr.heap.size x.f0 w2 (Kd.C_take (m := k) (Kd.C_below HC.out HB2.out) (by omega)) (by have := HLL.out; have := HTK.out; omega) z0 z1; rw [HTK.out] at hq; exact hq) ?_; rintro e w3 ⟨rfl, hb3⟩; rw [← HH.out]; have HB3 := Lib.hid (HB2.out.trans (hb3.mono HB2.out.size)); clear hb3 z0 z1))
        · go_roundw
          case rel => exact ⟨k + 1, by omega, by go_num, Lib.hid (fun j hj => by
            by_cases hjk : j < k
            · exact HI.out j hjk
            · have : j = k := by omega
              subst this
              unfold attrOk
              rw [← HX.out, HN.out, ← HH.out]; rfl), HB3⟩
          case measure => simp [intOf]; omega
        · go_ret
          exact ⟨by rw [attrsF_false hlt (by unfold attrOk; rw [← HX.out, HN.out, ← HH.out]; rfl)]; rfl, HB3.out⟩
    · go_wp2_with fail
      go_ret
      exact ⟨by rw [attrsF_true (fun i hi => HI.out i (by omega))]; rfl, HB.out⟩
/-- May a token be? -/
def rightF (t : S46) : Bool := if t.f0 = 1 then nameB t.f1.data.toList && attrsF t.f3 else if t.f0 = 2 then nameB t.f1.data.toList else decide (t.f0 = 3)
set_option maxRecDepth 100000 in
set_option maxHeartbeats 4000000 in
theorem right_calls (t : S46) (A : Option Addr) (c : Nat) (w : World) (hC : Kd.C k70 w A t.f3.length t.f3) (hc : t.f3.length ≤ c) (hl : t.f3.length ≤ 9223372036854775806) (hs : ∀ x ∈ t.f3, x.f0.size ≤ 9223372036854775807) (hn : t.f1.size ≤ 9223372036854775807) :
    Calls Tryz.prog 60 #[.agg #[.int .i64 t.f0, .string t.f1, .string t.f2, .slice A t.f3.length c]] w fun e w' => e = .returned (.bool (rightF t)) ∧ Below w.heap.size w w' := by
  have HC := Lib.hid (Kd.C_below hC (below_alloc (Below.refl w.heap.size w) (.cells #[.int .i64 t.f0, .string t.f1, .string t.f2, .slice A t.f3.length c] 46)))
  have X1 := Lib.hid (Blk.alloc w #[.int .i64 t.f0, .string t.f1, .string t.f2, .slice A t.f3.length c] 46)
  have XB := Lib.hid (below_alloc (Below.refl w.heap.size w) (.cells #[.int .i64 t.f0, .string t.f1, .string t.f2, .slice A t.f3.length c] 46))
  have HS := Lib.hid hs
  have HCC := Lib.hid hc
  have HLL := Lib.hid hl
  have HN := Lib.hid hn
  clear hC hs hc hl hn
  by_cases h1 : t.f0 = 1
  · rcases (show nameB t.f1.data.toList = false ∨ nameB t.f1.data.toList = true by cases nameB t.f1.data.toList <;> simp) with hb | hb
    all_goals
      have HR := Lib.hid (show rightF t = (nameB t.f1.data.toList && attrsF t.f3) from by unfold rightF; rw [if_pos h1])
      have HNB := Lib.hid hb
    · clear hb
      have v1 : (t.f0 == 1) = true := by simpa using h1
      clear h1
      go_enter Tryz.func60, Tryz.ntmps60
      go_upto_region 1 with (fail)
      generalize w.alloc (.cells #[.int .i64 t.f0, .string t.f1, .string t.f2, .slice A t.f3.length c] 46) = w1 at HC X1 XB ⊢
      have y0 := X1.out.cell 0
      have y1 := X1.out.cell 1
      simp only [List.getElem?_toArray, List.getElem?_cons_zero, List.getElem?_cons_succ] at y0 y1
      go_wp2_with (go_at_call 17; refine (isName_calls t.f1 _ HN.out).mono ?_; rintro e w2 ⟨rfl, hb2⟩; rw [HNB.out]; have HB2 := Lib.hid (XB.out.trans (hb2.mono XB.out.size)); clear hb2)
      go_ret
      exact ⟨by rw [HR.out, HNB.out]; rfl, HB2.out⟩
    · clear hb
      have v1 : (t.f0 == 1) = true := by simpa using h1
      clear h1
      go_enter Tryz.func60, Tryz.ntmps60
      go_upto_region 1 with (fail)
      generalize w.alloc (.cells #[.int .i64 t.f0, .string t.f1, .string t.f2, .slice A t.f3.length c] 46) = w1 at HC X1 XB ⊢
      have y0 := X1.out.cell 0
      have y1 := X1.out.cell 1
      simp only [List.getElem?_toArray, List.getElem?_cons_zero, List.getElem?_cons_succ] at y0 y1
      go_wp2_with (first
        | (go_at_call 17; refine (isName_calls t.f1 _ HN.out).mono ?_; rintro e w2 ⟨rfl, hb2⟩; rw [HNB.out]; have HB2 := Lib.hid (XB.out.trans (hb2.mono XB.out.size)); have HC2 := Lib.hid (Kd.C_below HC.out hb2); have z3 : w2.cell? ⟨w.heap.size, 3, none⟩ = some (.slice A t.f3.length c) := (X1.out.below hb2 X1.out.lt).cell 3; clear hb2 y0 y1)
        | (go_at_call 95; refine (attrs_calls A c t.f3 _ HC2.out HCC.out HLL.out HS.out).mono ?_; rintro e w3 ⟨rfl, hb3⟩; have HB3 := Lib.hid (HB2.out.trans (hb3.mono HB2.out.size)); clear hb3))
      go_ret
      exact ⟨by rw [HR.out, HNB.out]; rfl, HB3.out⟩
  by_cases h2 : t.f0 = 2
  · have HR := Lib.hid (show rightF t = nameB t.f1.data.toList from by unfold rightF; rw [if_neg h1, if_pos h2])
    have v1 : (t.f0 == 1) = false := by simpa using h1
    have v2 : (t.f0 == 2) = true := by simpa using h2
    clear h1 h2
    go_enter Tryz.func60, Tryz.ntmps60
    go_upto_region 1 with (fail)
    generalize w.alloc (.cells #[.int .i64 t.f0, .string t.f1, .string t.f2, .slice A t.f3.length c] 46) = w1 at HC X1 XB ⊢
    have y0 := X1.out.cell 0
    have y1 := X1.out.cell 1
    simp only [List.getElem?_toArray, List.getElem?_cons_zero, List.getElem?_cons_succ] at y0 y1
    go_wp2_with (go_at_call 17; refine (isName_calls t.f1 _ HN.out).mono ?_; rintro e w2 ⟨rfl, hb2⟩; have HB2 := Lib.hid (XB.out.trans (hb2.mono XB.out.size)); clear hb2)
    go_ret
    exact ⟨by rw [HR.out]; rfl, HB2.out⟩
  · have HR := Lib.hid (show rightF t = (t.f0 == 3) from by unfold rightF; rw [if_neg h1, if_neg h2]; rfl)
    have v1 : (t.f0 == 1) = false := by simpa using h1
    have v2 : (t.f0 == 2) = false := by simpa using h2
    clear h1 h2
    go_enter Tryz.func60, Tryz.ntmps60
    go_upto_region 1 with (fail)
    generalize w.alloc (.cells #[.int .i64 t.f0, .string t.f1, .string t.f2, .slice A t.f3.length c] 46) = w1 at HC X1 XB ⊢
    have y0 := X1.out.cell 0
    simp only [List.getElem?_toArray, List.getElem?_cons_zero, List.getElem?_cons_succ] at y0
    go_wp2_with fail
    go_ret
    exact ⟨by rw [HR.out]; rfl, XB.out⟩
end Go.Proofs.YtkjgnkmnngaioaaGreat.Q
namespace Go.Proofs.YtkjgnkmnngaioaaGreat.Q
open Go.RowKit Go.IntWalk Go.Proofs.YtkjgnkmnngaioaaGreat.Mem Go.Proofs.YtkjgnkmnngaioaaGreatW.PrintWords Go.Proofs.YtkjgnkmnngaioaaGreatW.PrintLast Go.Proofs.YtkjgnkmnngaioaaGreatW.PrintMore
set_option linter.unusedVariables false
set_option linter.unusedSimpArgs false
def bdE (l : List Nd) (a : Nat) (t : Tk) : Int := if rightF t = true then (if t.f0 = 1 then opE l a t else if t.f0 = 2 then 0 else txE l a t.f2) else 2
def bdL (l : List Nd) (a : Nat) (t : Tk) : List Nd := if t.f0 = 1 then opLs l a t else if t.f0 = 2 then l else txL l a t.f2
def bdA (l : List Nd) (a : Nat) (t : Tk) : Nat := if t.f0 = 1 then opA l a t else if t.f0 = 2 then (endA l (a : Int) t.f1).toNat else a
def bdF : List Tk → List Nd → Nat → List Nd × Int
  | [], l, _ => (l, 0)
  | t :: ts, l, a => if bdE l a t = 0 then bdF ts (bdL l a t) (bdA l a t) else ([], bdE l a t)
def rootN : Nd := ⟨-1, ⟨#[114, 111, 111, 116]⟩, ⟨#[]⟩, [], []⟩
def buildF (ts : List Tk) : List Nd × Int := bdF ts [rootN] 0
/-- What is true between two tokens. -/
structure BOk (k : Nat) (l : List Nd) (a : Nat) : Prop where
  at_ : a < l.length
  up : okUp l
  kl : ∀ i, i < l.length → (ndAt l i).f4.length + 1 ≤ l.length
  kr : ∀ i, i < l.length → ∀ q ∈ (ndAt l i).f4, 0 ≤ q ∧ q < (l.length : Int)
  len : l.length ≤ 60
  txt : ∀ i, (ndAt l i).f2.size ≤ 1000000 * k
  par : ∀ i, 0 < i → i < l.length → 0 ≤ (ndAt l i).f0
theorem BOk.kids {k : Nat} {l : List Nd} {a : Nat} (h : BOk k l a) : okKids l := fun i hi => ⟨by have := h.kl i hi; have := h.len; omega, h.kr i hi⟩
theorem ndAt_set {l : List Nd} {a i : Nat} {x : Nd} (ha : a < l.length) : ndAt (l.set a x) i = if i = a then x else ndAt l i := by
  unfold ndAt
  rw [List.getD_eq_getElem?_getD, List.getD_eq_getElem?_getD]
  by_cases h : i = a
  · subst h
    rw [List.getElem?_set_self ha, if_pos rfl]
    rfl
  · rw [List.getElem?_set_ne (Ne.symm h), if_neg h]
theorem ndAt_old {l : List Nd} {i : Nat} {x : Nd} (h : i < l.length) : ndAt (l ++ [x]) i = ndAt l i := by
  unfold ndAt
  rw [List.getD_eq_getElem?_getD, List.getD_eq_getElem?_getD, List.getElem?_append_left h]
theorem ndAt_last {l : List Nd} {x : Nd} : ndAt (l ++ [x]) l.length = x := by
  unfold ndAt
  rw [List.getD_eq_getElem?_getD, List.getElem?_append_right (Nat.le_refl _), Nat.sub_self]
  rfl
theorem addKid_len (l : List Nd) (a : Nat) : (addKid l a).length = l.length := by unfold addKid; rw [List.length_set]
theorem layE_len {l : List Nd} {a : Nat} (h : layE l a = 0) : l.length ≠ 60 := by
  unfold layE at h
  split at h
  · cases h
  · split at h
    · cases h
    · assumption
/-- The nodes behind a new last kid. -/
theorem lay_nd {l : List Nd} {a : Nat} {nd : Nd} (ha : a < l.length) (he : layE l a = 0) (i : Nat) (hi : i < l.length + 1) :
    ndAt (layL l a nd) i = if i = l.length then ⟨(a : Int), nd.f1, nd.f2, nd.f3, nd.f4⟩ else if i = a then ⟨(ndAt l a).f0, (ndAt l a).f1, (ndAt l a).f2, (ndAt l a).f3, (ndAt l a).f4 ++ [(l.length : Int)]⟩ else ndAt l i := by
  unfold layL
  rw [if_pos he]
  by_cases h : i = l.length
  · rw [if_pos h, h]
    have := ndAt_last (l := addKid l a) (x := ⟨(a : Int), nd.f1, nd.f2, nd.f3, nd.f4⟩)
    rw [addKid_len] at this
    exact this
  · rw [if_neg h, ndAt_old (by rw [addKid_len]; omega)]
    unfold addKid
    exact ndAt_set ha
theorem lay_len {l : List Nd} {a : Nat} {nd : Nd} (he : layE l a = 0) : (layL l a nd).length = l.length + 1 := by
  unfold layL
  rw [if_pos he, List.length_append, addKid_len]
  rfl
theorem ndAt_le {l : List Nd} {n : Nat} (h : ∀ i, i < l.length → (ndAt l i).f2.size ≤ n) (i : Nat) : (ndAt l i).f2.size ≤ n := by
  by_cases hi : i < l.length
  · exact h i hi
  · rw [ndAt_far hi]
    exact Nat.zero_le _
theorem BOk.lay {k : Nat} {l : List Nd} {a a' : Nat} {nd : Nd} (h : BOk k l a) (he : layE l a = 0) (h4 : nd.f4 = []) (h2 : nd.f2.size ≤ 1000000) (ha' : a' < l.length + 1) : BOk (k + 1) (layL l a nd) a' := by
  have hl := layE_len he
  have hlen := h.len
  have hn := fun i hi => lay_nd (nd := nd) h.at_ he i hi
  have hll := lay_len (nd := nd) he
  refine ⟨by omega, fun i hi => ?_, fun i hi => ?_, fun i hi q hq => ?_, by omega, ndAt_le fun i hi => ?_, fun i h0 hi => ?_⟩
  · rw [hn i (by omega)]
    by_cases e : i = l.length
    · rw [if_pos e]; have := h.at_; show (a : Int) < i; omega
    · rw [if_neg e]
      by_cases e2 : i = a
      · rw [if_pos e2, e2]; exact h.up a h.at_
      · rw [if_neg e2]; exact h.up i (by omega)
  · rw [hn i (by omega), hll]
    by_cases e : i = l.length
    · rw [if_pos e]; show nd.f4.length + 1 ≤ _; rw [h4]; simp
    · rw [if_neg e]
      by_cases e2 : i = a
      · rw [if_pos e2]
        show ((ndAt l a).f4 ++ [(l.length : Int)]).length + 1 ≤ _
        rw [List.length_append]
        have := h.kl a h.at_
        simp
        omega
      · rw [if_neg e2]; have := h.kl i (by omega); omega
  · rw [hn i (by omega)] at hq
    rw [hll]
    by_cases e : i = l.length
    · rw [if_pos e] at hq; have hq2 : q ∈ nd.f4 := hq; rw [h4] at hq2; cases hq2
    · rw [if_neg e] at hq
      by_cases e2 : i = a
      · rw [if_pos e2] at hq
        have hq2 : q ∈ (ndAt l a).f4 ++ [(l.length : Int)] := hq
        rcases List.mem_append.1 hq2 with hq2 | hq2
        · have := h.kr a h.at_ q hq2; omega
        · rw [List.mem_singleton.1 hq2]; omega
      · rw [if_neg e2] at hq
        have := h.kr i (by omega) q hq; omega
  · rw [hn i (by omega)]
    by_cases e : i = l.length
    · rw [if_pos e]; show nd.f2.size ≤ _; omega
    · rw [if_neg e]
      by_cases e2 : i = a
      · rw [if_pos e2]; have := h.txt a; show (ndAt l a).f2.size ≤ _; omega
      · rw [if_neg e2]; have := h.txt i; omega
  · rw [hn i (by omega)]
    by_cases e : i = l.length
    · rw [if_pos e]; show (0 : Int) ≤ a; omega
    · rw [if_neg e]
      by_cases e2 : i = a
      · rw [if_pos e2]; show 0 ≤ (ndAt l a).f0; rw [← e2]; exact h.par i h0 (by omega)
      · rw [if_neg e2]; exact h.par i h0 (by omega)
theorem BOk.more {k : Nat} {l : List Nd} {a : Nat} (h : BOk k l a) : BOk (k + 1) l a := ⟨h.at_, h.up, h.kl, h.kr, h.len, fun i => by have := h.txt i; omega, h.par⟩
theorem lastIx_lt {k : Nat} {l : List Nd} {a : Nat} (h : BOk k l a) (ht : isTx l a = true) : lastIx l a < l.length := by
  unfold isTx at ht
  rw [Bool.and_eq_true] at ht
  have h1 := of_decide_eq_true ht.1
  have hm : (ndAt l a).f4.getD ((ndAt l a).f4.length - 1) 0 ∈ (ndAt l a).f4 := by
    rw [List.getD_eq_getElem?_getD, List.getElem?_eq_getElem (by omega)]
    exact List.getElem_mem _
  have := h.kr a h.at_ _ hm
  unfold lastIx
  omega
theorem addTx_nd {l : List Nd} {k i : Nat} {s : ByteArray} (hk : k < l.length) : ndAt (addTx l k s) i = if i = k then ⟨(ndAt l k).f0, (ndAt l k).f1, (ndAt l k).f2 ++ s, (ndAt l k).f3, (ndAt l k).f4⟩ else ndAt l i := by
  unfold addTx
  exact ndAt_set hk
theorem addTx_len (l : List Nd) (k : Nat) (s : ByteArray) : (addTx l k s).length = l.length := by unfold addTx; rw [List.length_set]
theorem BOk.tx {k : Nat} {l : List Nd} {a j : Nat} {s : ByteArray} (h : BOk k l a) (hj : j < l.length) (hs : s.size ≤ 1000000) : BOk (k + 1) (addTx l j s) a := by
  have hn := fun i => addTx_nd (l := l) (k := j) (i := i) (s := s) hj
  have hll := addTx_len l j s
  refine ⟨by rw [hll]; exact h.at_, fun i hi => ?_, fun i hi => ?_, fun i hi q hq => ?_, by rw [hll]; exact h.len, fun i => ?_, fun i h0 hi => ?_⟩
  · rw [hn i]
    rw [hll] at hi
    by_cases e : i = j
    · rw [if_pos e, e]; exact h.up j hj
    · rw [if_neg e]; exact h.up i hi
  · rw [hn i, hll]
    rw [hll] at hi
    by_cases e : i = j
    · rw [if_pos e]; exact h.kl j hj
    · rw [if_neg e]; exact h.kl i hi
  · rw [hn i] at hq
    rw [hll] at hi ⊢
    by_cases e : i = j
    · rw [if_pos e] at hq; exact h.kr j hj q hq
    · rw [if_neg e] at hq; exact h.kr i hi q hq
  · rw [hn i]
    by_cases e : i = j
    · rw [if_pos e]
      show ((ndAt l j).f2 ++ s).size ≤ _
      have := h.txt j
      rw [ByteArray.size_append]
      omega
    · rw [if_neg e]; have := h.txt i; omega
  · rw [hn i]
    rw [hll] at hi
    by_cases e : i = j
    · rw [if_pos e]; show 0 ≤ (ndAt l j).f0; rw [← e]; exact h.par i h0 hi
    · rw [if_neg e]; exact h.par i h0 hi
theorem endA_ok {k : Nat} {l : List Nd} {a : Nat} (h : BOk k l a) (s : ByteArray) : 0 ≤ endA l (a : Int) s ∧ endA l (a : Int) s < (l.length : Int) := by
  unfold endA
  split
  · rename_i x hx
    have h1 := List.find?_some hx
    unfold hit at h1
    rw [Bool.and_eq_true] at h1
    have h2 := of_decide_eq_true h1.1
    have h3 := h.par x.1 h2 x.2
    have h4 := h.up x.1 x.2
    have := x.2
    omega
  · have := h.at_; omega
theorem BOk.at {k : Nat} {l : List Nd} {a a' : Nat} (h : BOk k l a) (ha : a' < l.length) : BOk k l a' := ⟨ha, h.up, h.kl, h.kr, h.len, h.txt, h.par⟩
/-- A token more. -/
theorem BOk.step {k : Nat} {l : List Nd} {a : Nat} {t : Tk} (h : BOk k l a) (hs : t.f2.size ≤ 1000000) (he : bdE l a t = 0) : BOk (k + 1) (bdL l a t) (bdA l a t) := by
  unfold bdE at he
  split at he
  · unfold bdL bdA
    by_cases h1 : t.f0 = 1
    · rw [if_pos h1] at he
      rw [if_pos h1, if_pos h1]
      unfold opE at he
      unfold opLs opA
      by_cases hr : t.f1.toList = rootL
      · rw [if_pos hr, if_pos hr]; exact h.more
      · rw [if_neg hr] at he
        rw [if_neg hr, if_neg hr]
        refine h.lay he rfl (by show (0 : Nat) ≤ _; omega) ?_
        have := h.at_
        split <;> omega
    · rw [if_neg h1] at he
      rw [if_neg h1, if_neg h1]
      by_cases h2 : t.f0 = 2
      · rw [if_pos h2, if_pos h2]
        have := endA_ok h t.f1
        exact h.more.at (by omega)
      · rw [if_neg h2] at he
        rw [if_neg h2, if_neg h2]
        unfold txE at he
        unfold txL
        by_cases h0 : t.f2.toList = []
        · rw [if_pos h0]; exact h.more
        · rw [if_neg h0] at he
          rw [if_neg h0]
          by_cases ht : isTx l a = true
          · rw [if_pos ht]; exact h.tx (lastIx_lt h ht) hs
          · rw [if_neg ht] at he
            rw [if_neg ht]
            exact h.lay he rfl hs (by have := h.at_; omega)
  · cases he
theorem BOk.start : BOk 0 [rootN] 0 := by
  have h0 : ∀ i, i < 1 → ndAt [rootN] i = rootN := fun i hi => by have : i = 0 := by omega
                                                                  subst this; rfl
  refine ⟨by decide, fun i hi => ?_, fun i hi => ?_, fun i hi q hq => ?_, by decide, ndAt_le fun i hi => ?_, fun i h1 hi => ?_⟩
  · rw [h0 i hi]; show (-1 : Int) < i; omega
  · rw [h0 i hi]; decide
  · rw [h0 i hi] at hq; cases hq
  · rw [h0 i hi]; decide
  · simp at hi; omega
end Go.Proofs.YtkjgnkmnngaioaaGreat.Q
namespace Go.Proofs.YtkjgnkmnngaioaaGreat.Q
open Go.RowKit Go.IntWalk Go.Proofs.YtkjgnkmnngaioaaGreat.Mem Go.Proofs.YtkjgnkmnngaioaaGreatW.PrintWords Go.Proofs.YtkjgnkmnngaioaaGreatW.PrintLast Go.Proofs.YtkjgnkmnngaioaaGreatW.PrintMore
set_option linter.unusedVariables false
set_option linter.unusedSimpArgs false
/-- All that the nodes' texts tell, in order. -/
def allT (l : List Nd) : List UInt8 := (l.map fun x => x.f2.data.toList).flatten
/-- How many elements. -/
def allE (l : List Nd) : Nat := (l.map fun x => x.f1.data.toList).countP fun s => !s.isEmpty
def tkT (ts : List Tk) : List UInt8 := (ts.map fun t => if t.f0 = 3 then t.f2.data.toList else []).flatten
def tkE (ts : List Tk) : Nat := ts.countP fun t => decide (t.f0 = 1) && decide (t.f1.toList ≠ rootL)
/-- A node, and those above it. -/
inductive Up (l : List Nd) (a : Nat) : Nat → Prop
  | here : Up l a a
  | up {i : Nat} : Up l a i → 0 < i → Up l a (ndAt l i).f0.toNat
/-- Every node above the place is its parent's last kid, and no text; a text that is the place's last kid is the last node. -/
structure JOk (l : List Nd) (a : Nat) : Prop where
  path : ∀ i, Up l a i → 0 < i → 0 < (ndAt l (ndAt l i).f0.toNat).f4.length ∧ lastIx l (ndAt l i).f0.toNat = i ∧ (ndAt l i).f1.data.toList ≠ []
  txt : isTx l a = true → lastIx l a + 1 = l.length
theorem nameB_ne {s : List UInt8} (h : nameB s = true) : s ≠ [] := by
  intro h0
  subst h0
  revert h
  decide +kernel
end Go.Proofs.YtkjgnkmnngaioaaGreat.Q
namespace Go.Proofs.YtkjgnkmnngaioaaGreat.Q
open Go.RowKit Go.IntWalk Go.Proofs.YtkjgnkmnngaioaaGreat.Mem Go.Proofs.YtkjgnkmnngaioaaGreatW.PrintWords Go.Proofs.YtkjgnkmnngaioaaGreatW.PrintLast Go.Proofs.YtkjgnkmnngaioaaGreatW.PrintMore
set_option linter.unusedVariables false
set_option linter.unusedSimpArgs false
def clT (s : ByteArray) : Tk := ⟨2, s, ⟨#[]⟩, []⟩
def emT : Tk := ⟨3, ⟨#[]⟩, ⟨#[]⟩, []⟩
/-- No node but the root has this tag. -/
def noTag (l : List Nd) (s : ByteArray) : Prop := ∀ i, 0 < i → i < l.length → (ndAt l i).f1.toList ≠ s.toList
theorem endA_no {l : List Nd} {a : Nat} {s : ByteArray} (h : noTag l s) : endA l (a : Int) s = a := by
  unfold endA
  split
  · rename_i x hx
    have h1 := List.find?_some hx
    unfold hit at h1
    rw [Bool.and_eq_true] at h1
    exact absurd (of_decide_eq_true h1.2) (h x.1 (of_decide_eq_true h1.1) x.2)
  · rfl
theorem noTag.lay {k : Nat} {l : List Nd} {a : Nat} {nd : Nd} {s : ByteArray} (hb : BOk k l a) (h : noTag l s) (he : layE l a = 0) (hn : nd.f1.toList ≠ s.toList) : noTag (layL l a nd) s := by
  intro i h0 hi
  rw [lay_len he] at hi
  rw [lay_nd hb.at_ he i hi]
  by_cases e : i = l.length
  · rw [if_pos e]; exact hn
  · rw [if_neg e]
    by_cases e2 : i = a
    · rw [if_pos e2]; show (ndAt l a).f1.toList ≠ _; rw [← e2]; exact h i h0 (by omega)
    · rw [if_neg e2]; exact h i h0 (by omega)
theorem noTag.tx {l : List Nd} {j : Nat} {x s : ByteArray} (h : noTag l s) (hj : j < l.length) : noTag (addTx l j x) s := by
  intro i h0 hi
  rw [addTx_len] at hi
  rw [addTx_nd hj]
  by_cases e : i = j
  · rw [if_pos e]; show (ndAt l j).f1.toList ≠ _; rw [← e]; exact h i h0 hi
  · rw [if_neg e]; exact h i h0 hi
theorem noTag.step {k : Nat} {l : List Nd} {a : Nat} {t : Tk} {s : ByteArray} (hb : BOk k l a) (h : noTag l s) (hs : s.toList ≠ []) (ht : t.f0 = 1 → t.f1.toList ≠ s.toList) (he : bdE l a t = 0) : noTag (bdL l a t) s := by
  unfold bdE at he
  split at he
  · unfold bdL
    by_cases h1 : t.f0 = 1
    · rw [if_pos h1] at he
      rw [if_pos h1]
      unfold opE at he
      unfold opLs
      by_cases hr : t.f1.toList = rootL
      · rw [if_pos hr]; exact h
      · rw [if_neg hr] at he
        rw [if_neg hr]
        exact h.lay hb he (ht h1)
    · rw [if_neg h1] at he
      rw [if_neg h1]
      by_cases h2 : t.f0 = 2
      · rw [if_pos h2]; exact h
      · rw [if_neg h2] at he
        rw [if_neg h2]
        unfold txE at he
        unfold txL
        by_cases h0 : t.f2.toList = []
        · rw [if_pos h0]; exact h
        · rw [if_neg h0] at he
          rw [if_neg h0]
          by_cases hx : isTx l a = true
          · rw [if_pos hx]; exact h.tx (lastIx_lt hb hx)
          · rw [if_neg hx] at he
            rw [if_neg hx]
            exact h.lay hb he (fun e => hs (by rw [← e]; rw [ByteArray.toList_eq]; rfl))
  · cases he
theorem bdF_ins (s : ByteArray) (hn : nameB s.data.toList = true) (ts2 : List Tk) : ∀ (ts1 : List Tk) (k : Nat) (l : List Nd) (a : Nat), BOk k l a → noTag l s → (∀ t ∈ ts1, t.f2.size ≤ 1000000) → (∀ t ∈ ts1, t.f0 = 1 → t.f1.toList ≠ s.toList) →
    bdF (ts1 ++ clT s :: emT :: ts2) l a = bdF (ts1 ++ ts2) l a
  | [], k, l, a, hb, h, _, _ => by
    have d1 : ¬ (2 : Int) = 1 := by decide
    have e1 : bdE l a (clT s) = 0 := by
      unfold bdE rightF clT
      rw [if_pos (by rw [if_neg d1, if_pos (show (2 : Int) = 2 from rfl)]; exact hn), if_neg d1, if_pos (show (2 : Int) = 2 from rfl)]
    have e2 : bdL l a (clT s) = l := by unfold bdL clT; rw [if_neg d1, if_pos (show (2 : Int) = 2 from rfl)]
    have e3 : bdA l a (clT s) = a := by unfold bdA; rw [if_neg (show ¬ (clT s).f0 = 1 from d1), if_pos (show (clT s).f0 = 2 from rfl), show (clT s).f1 = s from rfl, endA_no h, Int.toNat_natCast]
    have n0 : (emT).f2.toList = [] := by rw [ByteArray.toList_eq]; rfl
    have e4 : bdE l a emT = 0 := by
      unfold bdE
      rw [if_pos (by decide), if_neg (by decide), if_neg (by decide)]
      unfold txE
      rw [if_pos n0]
    have e5 : bdL l a emT = l := by
      unfold bdL
      rw [if_neg (by decide), if_neg (by decide)]
      unfold txL
      rw [if_pos n0]
    have e6 : bdA l a emT = a := by unfold bdA; rw [if_neg (by decide), if_neg (by decide)]
    rw [List.nil_append, List.nil_append, bdF, if_pos e1, e2, e3, bdF, if_pos e4, e5, e6]
  | t :: ts1, k, l, a, hb, h, hs, ho => by
    rw [List.cons_append, List.cons_append, bdF, bdF]
    by_cases he : bdE l a t = 0
    · rw [if_pos he, if_pos he]
      exact bdF_ins s hn ts2 ts1 (k + 1) _ _ (hb.step (hs t (List.mem_cons_self ..)) he) (h.step hb (by rw [ByteArray.toList_eq]; exact nameB_ne hn) (ho t (List.mem_cons_self ..)) he) (fun x hx => hs x (List.mem_cons_of_mem _ hx)) (fun x hx => ho x (List.mem_cons_of_mem _ hx))
    · rw [if_neg he, if_neg he]
/-- No node has too many attributes. -/
def at3 (l : List Nd) : Prop := ∀ i, i < l.length → (ndAt l i).f3.length ≤ 1000000
theorem at3.lay {k : Nat} {l : List Nd} {a : Nat} {nd : Nd} (hb : BOk k l a) (h : at3 l) (he : layE l a = 0) (hn : nd.f3.length ≤ 1000000) : at3 (layL l a nd) := by
  intro i hi
  rw [lay_len he] at hi
  rw [lay_nd hb.at_ he i hi]
  by_cases e : i = l.length
  · rw [if_pos e]; exact hn
  · rw [if_neg e]
    by_cases e2 : i = a
    · rw [if_pos e2]; show (ndAt l a).f3.length ≤ _; rw [← e2]; exact h i (by omega)
    · rw [if_neg e2]; exact h i (by omega)
theorem at3.tx {l : List Nd} {j : Nat} {x : ByteArray} (h : at3 l) (hj : j < l.length) : at3 (addTx l j x) := by
  intro i hi
  rw [addTx_len] at hi
  rw [addTx_nd hj]
  by_cases e : i = j
  · rw [if_pos e]; show (ndAt l j).f3.length ≤ _; rw [← e]; exact h i hi
  · rw [if_neg e]; exact h i hi
theorem at3.step {k : Nat} {l : List Nd} {a : Nat} {t : Tk} (hb : BOk k l a) (h : at3 l) (ht : t.f3.length ≤ 1000000) (he : bdE l a t = 0) : at3 (bdL l a t) := by
  unfold bdE at he
  split at he
  · unfold bdL
    by_cases h1 : t.f0 = 1
    · rw [if_pos h1] at he
      rw [if_pos h1]
      unfold opE at he
      unfold opLs
      by_cases hr : t.f1.toList = rootL
      · rw [if_pos hr]; exact h
      · rw [if_neg hr] at he
        rw [if_neg hr]
        exact h.lay hb he ht
    · rw [if_neg h1] at he
      rw [if_neg h1]
      by_cases h2 : t.f0 = 2
      · rw [if_pos h2]; exact h
      · rw [if_neg h2] at he
        rw [if_neg h2]
        unfold txE at he
        unfold txL
        by_cases h0 : t.f2.toList = []
        · rw [if_pos h0]; exact h
        · rw [if_neg h0] at he
          rw [if_neg h0]
          by_cases hx : isTx l a = true
          · rw [if_pos hx]; exact h.tx (lastIx_lt hb hx)
          · rw [if_neg hx] at he
            rw [if_neg hx]
            exact h.lay hb he (show (0 : Nat) ≤ _ by omega)
  · cases he
theorem bdF_ns : ∀ (ts : List Tk) (k : Nat) (l : List Nd) (a : Nat), BOk k l a → at3 l → (∀ t ∈ ts, t.f2.size ≤ 1000000 ∧ t.f3.length ≤ 1000000) → (bdF ts l a).1.length ≤ 60 ∧ ∀ x ∈ (bdF ts l a).1, x.f3.length ≤ 1000000 ∧ x.f4.length ≤ 1000000
  | [], k, l, a, hb, h, _ => ⟨hb.len, fun x hx => by
      have hx' : x ∈ l := hx
      obtain ⟨j, hj, rfl⟩ := List.mem_iff_getElem.1 hx'
      have h1 := h j hj
      have h2 := hb.kl j hj
      have h3 := hb.len
      unfold ndAt at h1 h2
      rw [List.getD_eq_getElem?_getD, List.getElem?_eq_getElem hj] at h1 h2
      simp only [Option.getD_some] at h1 h2
      exact ⟨h1, by omega⟩⟩
  | t :: ts, k, l, a, hb, h, hs => by
    rw [bdF]
    by_cases he : bdE l a t = 0
    · rw [if_pos he]
      exact bdF_ns ts (k + 1) _ _ (hb.step (hs t (List.mem_cons_self ..)).1 he) (h.step hb (hs t (List.mem_cons_self ..)).2 he) (fun x hx => hs x (List.mem_cons_of_mem _ hx))
    · rw [if_neg he]
      exact ⟨by simp, fun x hx => absurd hx (by simp)⟩
theorem build_ns (ts : List Tk) (hs : ∀ t ∈ ts, t.f2.size ≤ 1000000 ∧ t.f3.length ≤ 1000000) : (buildF ts).1.length ≤ 60 ∧ ∀ x ∈ (buildF ts).1, x.f3.length ≤ 1000000 ∧ x.f4.length ≤ 1000000 :=
  bdF_ns ts 0 [rootN] 0 BOk.start (fun i hi => by have : i = 0 := by simp at hi; omega
                                                  subst this; exact Nat.zero_le _) hs
/-- .. in a whole document. -/
theorem build_ins (ts : List Tk) (at_ : Nat) (s : ByteArray) (hn : nameB s.data.toList = true) (hs : ∀ t ∈ ts, t.f2.size ≤ 1000000) (ho : ∀ t ∈ ts, t.f0 = 1 → t.f1.toList ≠ s.toList) :
    buildF (ts.take at_ ++ clT s :: emT :: ts.drop at_) = buildF ts := by
  unfold buildF
  rw [bdF_ins s hn (ts.drop at_) (ts.take at_) 0 [rootN] 0 BOk.start (fun i h0 hi => by simp at hi; omega) (fun t ht => hs t (List.mem_of_mem_take ht)) (fun t ht => ho t (List.mem_of_mem_take ht)), List.take_append_drop]
end Go.Proofs.YtkjgnkmnngaioaaGreat.Q
namespace Go.Proofs.YtkjgnkmnngaioaaGreat.Open
open Go.RowKit Go.Proofs.YtkjgnkmnngaioaaGreatW.PrintWords Go.Deep
/-- A reading of type `T` is a value of the kind `d`, and is good. -/
def Opens {α : Type} (P : Program) (T : TypeId) (d : Kd α) (g : α → Prop) : Prop :=
  ∀ {H : Type} {enc : TypeId × Value → H} {w : World} {base : Nat} {spare : Nat → Bool} {held : Bool} {fuel : Nat} {cs : List Value} {x : DataW H × List MemPlace},
    DataW.trod enc P w base spare held fuel T cs = some x → ∃ v : α, d.K w v cs ∧ g v
section
variable {P : Program} {T e : TypeId}
theorem add_add (a : Addr) (x y : Nat) : (a.add x).add y = a.add (x + y) := by
  unfold Addr.add
  by_cases hx : x = 0
  · subst hx; rw [if_pos rfl, Nat.zero_add]
  · by_cases hy : y = 0
    · subst hy; rw [if_pos rfl, Nat.add_zero]
    · have h3 : x + y ≠ 0 := by omega
      rw [if_neg hx, if_neg hy, if_neg h3, Nat.add_assoc]
theorem cells_get {w : World} {base : Nat} {a : Addr} {n : Nat} {l : List Value} (h : w.cells? base a n = some l) : l.length = n ∧ ∀ i u, l[i]? = some u → w.cell? (a.add i) = some u := by
  unfold World.cells? at h
  split at h
  · have hl := mapM_some_length h
    rw [List.length_range] at hl
    refine ⟨hl, fun i u hu => ?_⟩
    have hi : i < l.length := (List.getElem?_eq_some_iff.1 hu).1
    have := mapM_some_get h i i (List.getElem?_range (by omega))
    rw [this, hu]
  · cases h
/-- The fields from the `o`-th cell on are values of the kind `d`. -/
def OpensL {β : Type} (P : Program) (fs : List Field) (o : Nat) (d : Kd β) (g : β → Prop) : Prop :=
  ∀ {H : Type} {enc : TypeId × Value → H} {w : World} {base : Nat} {spare : Nat → Bool} {held : Bool} {n : Nat} {cs : List Value},
    (∀ (i : Nat) (f : Field), fs[i]? = some f → ∃ y, DataW.trod enc P w base spare held n f.type ((cs.drop f.offset).take (P.cellsOf f.type)) = some y) → cs.length = o + d.sz → ∃ v : β, d.K w v (cs.drop o) ∧ g v
end
end Go.Proofs.YtkjgnkmnngaioaaGreat.Open
namespace Go.Proofs.YtkjgnkmnngaioaaGreat.Open
open Go.RowKit Go.Proofs.YtkjgnkmnngaioaaGreatW.PrintWords Go.Deep
/-- A reading of type `T` whose weights are in reach is a value of the kind `d`, and is good. -/
def OpensW {α : Type} (P : Program) (T : TypeId) (d : Kd α) (g : α → Prop) : Prop :=
  ∀ {H : Type} {enc : TypeId × Value → H} {w : World} {base : Nat} {spare : Nat → Bool} {held : Bool} {fuel : Nat} {cs : List Value} {x : DataW H × List MemPlace},
    DataW.trod enc P w base spare held fuel T cs = some x → (∀ n ∈ x.1.weights P T, n ≤ reachBytes) → ∃ v : α, d.K w v cs ∧ g v
section
variable {P : Program} {T e : TypeId}
theorem opensW_int {k : IntKind} (ht : P.underlying T = some (.int k)) : OpensW P T (Kd.int k) (fun n => (Lit.int k n).wf = true) := fun h _ => by
  obtain ⟨n, rfl, _, hw⟩ := DataW.trod_int ht h
  exact ⟨n, rfl, hw⟩
theorem opensW_string (ht : P.underlying T = some .string) : OpensW P T Kd.string (fun s => s.size ≤ reachBytes) := fun h hw => by
  obtain ⟨s, rfl, rfl, hs⟩ := DataW.trod_string ht h
  refine ⟨s, rfl, ?_⟩
  have := hw s.data.toList.length (by simp only [DataW.weights, List.mem_singleton])
  rwa [Array.length_toList] at this
theorem weights_all {H : Type} {t : TypeId} : ∀ {l : List (DataW H)} {d : DataW H} {n : Nat}, d ∈ l → n ∈ d.weights P t → n ∈ DataW.weightsAll P t l
  | a :: l, d, n, hd, hn => by
    rw [DataW.weightsAll, List.mem_append]
    rcases List.mem_cons.1 hd with rfl | hd
    · exact .inl hn
    · exact .inr (weights_all hd hn)
theorem opensW_slice {α : Type} {d : Kd α} {g : α → Prop} (ht : P.underlying T = some (.slice e)) (hc : P.cellsOf e = d.sz) (hd : OpensW P e d g) :
    OpensW P T (Kd.slice e d) (fun xs => (∀ x ∈ xs, g x) ∧ xs.length * P.bytesOf e ≤ reachBytes ∧ xs.length ≤ maxLen) := fun {H enc w base spare held fuel cs x} h hw => by
  rcases open_slice ht h with ⟨rfl, _⟩ | ⟨a, len, cap, m, n, D, Pl, rfl, _, hl, hm, hmm, rfl, hel⟩
  · exact ⟨[], ⟨none, 0, rfl, Nat.le_refl _, rfl, Nat.zero_le _, fun h => absurd h (Nat.lt_irrefl 0)⟩, ⟨fun x hx => absurd hx List.not_mem_nil, by simp, Nat.zero_le _⟩⟩
  · have hlm : len ≤ m := by rw [hmm]; split <;> omega
    have hwt : ∀ q, q ∈ DataW.weights P T (.slice ((List.range len).map D) ((List.range (m - len)).map fun j => D (len + j))) ↔ q = (len + (m - len)) * P.bytesOf e ∨ q ∈ DataW.weightsAll P e ((List.range len).map D) ∨ q ∈ DataW.weightsAll P e ((List.range (m - len)).map fun j => D (len + j)) := fun q => by
      simp only [DataW.weights, ht, List.mem_cons, List.mem_append, List.length_map, List.length_range]
    have hreach : len * P.bytesOf e ≤ reachBytes := Nat.le_trans (Nat.mul_le_mul_right _ (by omega)) (hw _ ((hwt _).2 (.inl rfl)))
    have key : ∀ i, i < len → ∃ v : α, g v ∧ ∃ c, c.length = d.sz ∧ d.K w v c ∧ ∀ j u, c[j]? = some u → w.cell? (a.add (i * d.sz + j)) = some u := fun i hi => by
      obtain ⟨cs', h1, h2⟩ := hel i (by omega)
      obtain ⟨v, hv, hg⟩ := hd h2 (fun q hq => hw _ ((hwt _).2 (.inr (.inl (weights_all (List.mem_map.2 ⟨i, List.mem_range.2 hi, rfl⟩) hq)))))
      obtain ⟨k1, k2⟩ := cells_get h1
      rw [hc] at k1 k2
      exact ⟨v, hg, cs', k1, hv, fun j u hu => by rw [← add_add]; exact k2 j u hu⟩
    have hne : len = 0 ∨ Nonempty α := by
      rcases Nat.eq_zero_or_pos len with h0 | h0
      · exact .inl h0
      · obtain ⟨v, _⟩ := key 0 h0
        exact .inr ⟨v⟩
    rcases hne with rfl | hne
    · exact ⟨[], ⟨some a, cap, rfl, Nat.zero_le _, rfl, Nat.zero_le _, fun h => absurd h (Nat.lt_irrefl 0)⟩, ⟨fun x hx => absurd hx List.not_mem_nil, by simp, Nat.zero_le _⟩⟩
    · have key' : ∀ i, ∃ v : α, i < len → (g v ∧ ∃ c, c.length = d.sz ∧ d.K w v c ∧ ∀ j u, c[j]? = some u → w.cell? (a.add (i * d.sz + j)) = some u) := fun i => by
        by_cases hi : i < len
        · obtain ⟨v, hv⟩ := key i hi
          exact ⟨v, fun _ => hv⟩
        · exact ⟨Classical.choice hne, fun h => absurd h hi⟩
      let V := fun i => Classical.choose (key' i)
      have hV := fun i => Classical.choose_spec (key' i)
      refine ⟨(List.range len).map V, ⟨some a, cap, by simp, by simpa using hl, rfl, ?_, fun _ => ⟨a, rfl, fun j p hp => ?_⟩⟩, ⟨fun x hx => ?_, ?_, ?_⟩⟩
      · simp; unfold maxLen at hm; omega
      · rw [List.getElem?_map] at hp
        have hj : j < len := by
          rcases Nat.lt_or_ge j len with h1 | h1
          · exact h1
          · rw [List.getElem?_eq_none (by simpa using h1)] at hp; cases hp
        rw [List.getElem?_range hj] at hp
        simp only [Option.map_some, Option.some.injEq] at hp
        subst hp
        obtain ⟨_, c, h1, h2, h3⟩ := hV j hj
        exact ⟨c, h1, h2, h3⟩
      · rw [List.mem_map] at hx
        obtain ⟨j, hj, rfl⟩ := hx
        exact (hV j (List.mem_range.1 hj)).1
      · simpa using hreach
      · simp; omega
/-- The fields from the `o`-th cell on are values of the kind `d`. -/
def OpensLW {β : Type} (P : Program) (fs : List Field) (o : Nat) (d : Kd β) (g : β → Prop) : Prop :=
  ∀ {H : Type} {enc : TypeId × Value → H} {w : World} {base : Nat} {spare : Nat → Bool} {held : Bool} {n : Nat} {cs : List Value},
    (∀ (i : Nat) (f : Field), fs[i]? = some f → ∃ y, DataW.trod enc P w base spare held n f.type ((cs.drop f.offset).take (P.cellsOf f.type)) = some y ∧ ∀ q ∈ y.1.weights P f.type, q ≤ reachBytes) → cs.length = o + d.sz → ∃ v : β, d.K w v (cs.drop o) ∧ g v
theorem opensLW_one {β : Type} {f : Field} {o : Nat} {d : Kd β} {g : β → Prop} (ho : f.offset = o) (hc : P.cellsOf f.type = d.sz) (h : OpensW P f.type d g) : OpensLW P [f] o d g := fun hf hl => by
  obtain ⟨y, hy, hq⟩ := hf 0 f rfl
  rw [ho, hc, List.take_of_length_le (by rw [List.length_drop]; omega)] at hy
  exact h hy hq
theorem opensLW_cons {α β : Type} {f : Field} {fs : List Field} {o : Nat} {d : Kd α} {e : Kd β} {g : α → Prop} {g' : β → Prop} (ho : f.offset = o) (hc : P.cellsOf f.type = d.sz) (h : OpensW P f.type d g)
    (hs : OpensLW P fs (o + d.sz) e g') : OpensLW P (f :: fs) o (Kd.pair d e) (fun x => g x.1 ∧ g' x.2) := fun {H enc w base spare held n cs} hf hl => by
  obtain ⟨y, hy, hq⟩ := hf 0 f rfl
  rw [ho, hc] at hy
  obtain ⟨v, hv, hg⟩ := h hy hq
  obtain ⟨u, hu, hg'⟩ := hs (fun i f' hi => hf (i + 1) f' (by simpa using hi)) (by rw [hl]; simp [Kd.pair]; omega)
  refine ⟨(v, u), ⟨(cs.drop o).take d.sz, (cs.drop o).drop d.sz, (List.take_append_drop _ _).symm, hv, ?_⟩, hg, hg'⟩
  rw [List.drop_drop]
  exact hu
theorem opensW_struct {β : Type} {fs : Array Field} {l : List Field} {d : Kd β} {g : β → Prop} (ht : P.underlying T = some (.struct fs)) (hc : P.cellsOf T = d.sz) (he : fs.toList = l) (hl : OpensLW P l 0 d g) : OpensW P T d g := fun {H enc w base spare held fuel cs x} h hw => by
  obtain ⟨xs, n, _, hx, h1, h2, h3⟩ := DataW.trod_struct ht h
  have key : ∀ (i : Nat) (f : Field), l[i]? = some f → ∃ y, DataW.trod enc P w base spare held n f.type ((cs.drop f.offset).take (P.cellsOf f.type)) = some y ∧ ∀ q ∈ y.1.weights P f.type, q ≤ reachBytes := fun i f hi => by
    have hi' : fs[i]? = some f := by rw [← Array.getElem?_toList, he]; exact hi
    have hlt : i < xs.length := by rw [h2]; exact (Array.getElem?_eq_some_iff.1 hi').1
    refine ⟨xs[i], by rw [h3 i f hi', List.getElem?_eq_getElem hlt], fun q hq => hw q ?_⟩
    rw [hx]
    simp only [DataW.weights, ht]
    exact DataW.weights_mem_each (j := i) (t := f.type) (d := xs[i].1) (by rw [List.getElem?_map, he, hi]; rfl) (by rw [List.getElem?_map, List.getElem?_eq_getElem hlt]; rfl) q hq
  have := hl key (by rw [h1, hc]; omega)
  rwa [List.drop_zero] at this
theorem opensW_iso {α β : Type} {d : Kd β} {g : β → Prop} {f : α → β} (k : β → α) (hk : ∀ b, f (k b) = b) (h : OpensW P T d g) : OpensW P T (Kd.iso d f) (fun x => g (f x)) := fun h' hw => by
  obtain ⟨v, hv, hg⟩ := h h' hw
  exact ⟨k v, by show d.K _ (f (k v)) _; rw [hk]; exact hv, by show g (f (k v)); rw [hk]; exact hg⟩
theorem OpensW.of {α : Type} {d : Kd α} {g : α → Prop} {H : Type} {enc : TypeId × Value → H} {w : World} {base : Nat} {sp : Nat → Bool} {held : Bool} {v : Value} {x : DataW H} {ps : List MemPlace} (h : OpensW P T d g)
    (ht : DataW.Trod enc P w base sp held T v x ps) (hw : ∀ n ∈ x.weights P T, n ≤ reachBytes) : ∃ y, d.K w y v.cells.toList ∧ g y := by
  obtain ⟨m, hm⟩ := ht
  exact h hm hw
end
end Go.Proofs.YtkjgnkmnngaioaaGreat.Open
namespace Go.Proofs.YtkjgnkmnngaioaaGreat.Q
open Go.RowKit Go.Proofs.YtkjgnkmnngaioaaGreatW.PrintWords Go.Proofs.YtkjgnkmnngaioaaGreat.Open
def goodW70 (x : S70) : Prop := x.f0.size ≤ reachBytes ∧ x.f1.size ≤ reachBytes
theorem opW70 : OpensW Tryz.prog 70 k70 goodW70 := opensW_iso (fun v => ⟨v.1, v.2⟩) (fun _ => rfl) (opensW_struct Tryz.underlying70 (by kernel_rfl) rfl (opensLW_cons rfl (by kernel_rfl) (opensW_string Tryz.underlying9) (opensLW_one rfl (by kernel_rfl) (opensW_string Tryz.underlying9))))
def goodW46 (x : S46) : Prop := (Lit.int .i64 x.f0).wf = true ∧ x.f1.size ≤ reachBytes ∧ x.f2.size ≤ reachBytes ∧ (∀ y ∈ x.f3, goodW70 y) ∧ x.f3.length * Tryz.prog.bytesOf 70 ≤ reachBytes ∧ x.f3.length ≤ maxLen
theorem opW46 : OpensW Tryz.prog 46 k46 goodW46 := opensW_iso (fun v => ⟨v.1, v.2.1, v.2.2.1, v.2.2.2⟩) (fun _ => rfl) (opensW_struct Tryz.underlying46 (by kernel_rfl) rfl (opensLW_cons rfl (by kernel_rfl) (opensW_int Tryz.underlying3) (opensLW_cons rfl (by kernel_rfl) (opensW_string Tryz.underlying9) (opensLW_cons rfl (by kernel_rfl) (opensW_string Tryz.underlying9) (opensLW_one rfl (by kernel_rfl) (opensW_slice Tryz.underlying44 (by kernel_rfl) opW70))))))
end Go.Proofs.YtkjgnkmnngaioaaGreat.Q
namespace Go.Proofs.YtkjgnkmnngaioaaGreat.Q
open Go.RowKit Go.Proofs.YtkjgnkmnngaioaaGreatW.PrintWords Go.Proofs.YtkjgnkmnngaioaaGreatW.PrintLast Go.Proofs.YtkjgnkmnngaioaaGreatW.PrintMore
attribute [local go_sem] max2_int min2_int max_two min_two max_three min_three max_four min_four   -- for this text's walks alone
set_option linter.unusedVariables false
set_option linter.unusedSimpArgs false
theorem k70_heap : Kd.Heap k70 := Kd.heap_iso _ (Kd.heap_pair Kd.heap_string Kd.heap_string)
theorem k49_heap : Kd.Heap k49 := Kd.heap_iso _ (Kd.heap_pair (Kd.heap_int .i64) (Kd.heap_pair Kd.heap_string (Kd.heap_pair Kd.heap_string (Kd.heap_pair (Kd.heap_slice 70 k70_heap) (Kd.heap_slice 3 (Kd.heap_int .i64))))))
theorem k46_heap : Kd.Heap k46 := Kd.heap_iso _ (Kd.heap_pair (Kd.heap_int .i64) (Kd.heap_pair Kd.heap_string (Kd.heap_pair Kd.heap_string (Kd.heap_slice 70 k70_heap))))
end Go.Proofs.YtkjgnkmnngaioaaGreat.Q
namespace Go.Proofs.YtkjgnkmnngaioaaGreat.Q
open Go.RowKit Go.Proofs.YtkjgnkmnngaioaaGreatW.PrintWords Go.Proofs.YtkjgnkmnngaioaaGreatW.PrintLast Go.Proofs.YtkjgnkmnngaioaaGreatW.PrintMore
attribute [local go_sem] max2_int min2_int max_two min_two max_three min_three max_four min_four   -- for this text's walks alone
set_option linter.unusedVariables false
set_option linter.unusedSimpArgs false
theorem eqA70 (d : Nat) (w : World) (x0 y0 : ByteArray) (x1 y1 : ByteArray) :
    (Op.equalIn (d + 2) 70 (.agg #[.string x0, .string x1]) (.agg #[.string y0, .string y1])).run Tryz.prog w = .ok (x0.toList == y0.toList && (x1.toList == y1.toList)) w := by
  refine eqA_of Tryz.underlying70 (by kernel_rfl) ?_
  refine eqf_cons (by rfl) (by go_simp; rfl) (by go_simp; rfl) (by go_simp) ?_
  exact eqf_last (by rfl) (by go_simp; rfl) (by go_simp; rfl) (by go_simp)
end Go.Proofs.YtkjgnkmnngaioaaGreat.Q
