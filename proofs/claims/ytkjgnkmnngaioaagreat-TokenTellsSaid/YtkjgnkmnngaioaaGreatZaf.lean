/- What the proof of tokenTells_holds needs, of the texts that this work has written and of the words that the kit's print lends. -/
import Derived.Test.YtkjgnkmnngaioaaGreatZae
import Derived.Test.YtkjgnkmnngaioaaGreatZaa
import Derived.Test.YtkjgnkmnngaioaaGreatZac
import Derived.Deep.RegionLaw
import Derived.LoopN
import Derived.WalkMore
import Derived.Maps.AppendAt
import Derived.Lib.Bytealg
import Derived.Laws.Cover3
import Derived.Deep.OwnRows
import Derived.StillTailTactics
import Derived.Laws.OwnMore
namespace Go.Proofs.YtkjgnkmnngaioaaGreat.Q
open Go.RowKit Go.IntWalk Go.Proofs.YtkjgnkmnngaioaaGreat.Mem Go.Proofs.YtkjgnkmnngaioaaGreatW.PrintWords Go.Proofs.YtkjgnkmnngaioaaGreatW.PrintLast Go.Proofs.YtkjgnkmnngaioaaGreatW.PrintMore
set_option linter.unusedVariables false
set_option linter.unusedSimpArgs false
/-- What is taken at a place: a closing, an opening, or nothing. -/
def tkF (l : List UInt8) : Option (S46 × Nat) :=
  match clF l with
  | some (k, u) => some (⟨2, st (lows ((l.drop 2).take k)), ⟨#[]⟩, []⟩, u)
  | none => match opF l with
    | some (k, as_, u) => some (⟨1, st (lows ((l.drop 1).take k)), ⟨#[]⟩, as_⟩, u)
    | none => none
/-- The tokens from a place on. -/
def rdL (l : List UInt8) : Nat → Nat → List S46 → List UInt8 → List S46
  | 0, _, ts, tx => endT ts tx
  | f + 1, o, ts, tx =>
    match l[o]? with
    | none => endT ts tx
    | some c => if c = 60 then (match tkF (l.drop o) with
        | some (t, u) => rdL l f (o + u) (endT ts tx ++ [t]) []
        | none => rdL l f (o + 1) ts (tx ++ [c]))
      else rdL l f (o + 1) ts (tx ++ [c])
def readF (l : List UInt8) : List S46 := rdL l (l.length + 1) 0 [] []
theorem clF_le {l : List UInt8} {k u : Nat} (h : clF l = some (k, u)) : u ≤ l.length ∧ 0 < u := by
  unfold clF at h
  split at h
  · cases h
  · split at h
    · cases h
    · split at h
      · cases h
      · split at h
        · rename_i h1
          injection h with h
          injection h with h2 h3
          rw [List.head?_eq_getElem?, List.getElem?_drop] at h1
          have h4 := (List.getElem?_eq_some_iff.1 h1).1
          omega
        · cases h
theorem opL_le {l : List UInt8} : ∀ {f o : Nat} {as_ : List S70} {r : List S70 × Nat}, opL l f o as_ = some r → r.2 ≤ l.length ∧ 0 < r.2
  | 0, _, _, _, h => by cases h
  | f + 1, o, as_, r, h => by
    rw [opL] at h
    split at h
    · rename_i h1
      injection h with h
      subst h
      rw [List.head?_eq_getElem?, List.getElem?_drop] at h1
      have h4 := (List.getElem?_eq_some_iff.1 h1).1
      dsimp only
      omega
    · split at h
      · cases h
      · split at h
        · cases h
        · split at h
          · exact opL_le h
          · split at h
            · cases h
            · exact opL_le h
theorem tkF_le {l : List UInt8} {t : S46} {u : Nat} (h : tkF l = some (t, u)) : u ≤ l.length ∧ 0 < u := by
  unfold tkF at h
  split at h
  · rename_i k u' hc
    injection h with h
    injection h with h1 h2
    subst h2
    exact clF_le hc
  · split at h
    · rename_i hc k as_ u' ho
      injection h with h
      injection h with h1 h2
      subst h2
      unfold opF at ho
      split at ho
      · cases ho
      · obtain ⟨r, hr, he⟩ := Option.map_eq_some_iff.1 ho
        have := opL_le hr
        obtain ⟨r1, r2⟩ := r
        injection he with he1 he2
        injection he2 with he2 he3
        subst he3
        exact this
    · cases h
theorem endT_len (ts : List S46) (tx : List UInt8) : (endT ts tx).length ≤ ts.length + 1 := by
  unfold endT
  split
  · omega
  · rw [List.length_append]; simp
section
variable {P : Program} {ops : Array Oper} {o : Oper} {a : Act} {y : World} {Kc : Act → World → Prop} {Q : Exit → Act → World → Prop} {E : Prop}
/-- append of one cell to a row of one's own, as_ one step of a region. -/
theorem own_app_step (hg : o.guard = none) (s x : Operand) (t e : TypeId) (hop : o.op = Op.call { callee := Callee.builtin Builtin.append, args := #[s, x], argTypes := #[t, t] })
    (i : TypeInfo) (z : Value) (bytes : Nat) (ht : P.underlying t = some (.slice e)) (hi : P.info? e = some i) (hz : i.zero = some z) (hsize : i.size = 1) (hby : i.bytes = bytes) (hzs : z.cells.size = 1)
    (base : Nat) (v : Value) (n : Nat) (xs : List Value) (hs : a.eval s = v) (b : Nat) (hx : a.eval x = .slice (some ⟨b, 0, none⟩) 1 1) (u : Value) (hu : y.cell? ⟨b, 0, none⟩ = some u) (h1 : u.oneCell' = true)
    (hown : y.ownsRow base e 1 v n xs) (h63 : n + 1 ≤ maxLen) (hbytes : (n + 1) * bytes ≤ 140737488355328) (hbase : base ≤ y.heap.size)
    (hK : ∀ v1 w1, w1.ownsRow base e 1 v1 (n + 1) (xs ++ [u]) → y.grownBy w1 v.ownBlock → (v1.ownBlock = v.ownBlock ∨ v1.ownBlock = some y.heap.size) → Kc (a.put o.dst v1) w1) :
    if Region.wanted o (yielded ops a.tmps) = true then Oper.wp P o a y Kc Q else E := by
  have hw : Region.wanted o (yielded ops a.tmps) = true := by simp [Region.wanted, hg]
  rw [if_pos hw]
  obtain ⟨v1, w1, hrun, hown1, hg1, -, hat⟩ := run_append_own_at (P := P) (w := y) base t o.type e i z 1 bytes ht hi hz hsize hby hzs (by decide) v n xs hown ⟨b, 0, none⟩ 1 1 [u] rfl (fun j u' hj => by
    cases j with
    | zero => injection hj with hj; subst hj; exact hu
    | succ j => simp at hj) (by simp [h1]) h63 hbytes hbase
  unfold Oper.wp
  simp [execOp, hop, resolve, invoke, builtin, hs, hx, hrun, Result.andThen]
  exact hK v1 w1 hown1 hg1 hat
end
theorem own_ne_blz {w : World} {base e sz n g : Nat} {v : Value} {xs : List Value} {cs : Array Value} {fz : Nat × Nat} (h : w.ownsRow base e sz v n xs) (hb : Blz w g cs fz) (hf : fz ≠ (0, 0)) : some g ≠ v.ownBlock := by
  intro he
  rcases h.2 with ⟨rfl, _⟩ | ⟨g', cap, cur, rfl, _, hh, _⟩
  · simp [Value.ownBlock] at he
  · have : g = g' := by simpa [Value.ownBlock] using he
    subst this
    unfold Blz at hb
    rw [hb] at hh
    injection hh with hh
    injection hh with _ _ hh
    exact hf hh
theorem S_ne_blz {w : World} {base g : Nat} {v : Value} {ts : List S46} {ok : Nat → Prop} {cs : Array Value} {fz : Nat × Nat} (h : Kd.S k46 46 w base ok v ts) (hb : Blz w g cs fz) (hf : fz ≠ (0, 0)) : some g ≠ v.ownBlock := by
  obtain ⟨inner, hi⟩ := Kd.S_own h
  exact own_ne_blz hi hb hf
theorem own_keepB {w z : World} {base e sz n : Nat} {v : Value} {xs : List Value} (h : w.ownsRow base e sz v n xs) (hb : Below w.heap.size w z) : z.ownsRow base e sz v n xs := by
  refine own_move h (fun k hk => hb.block k (own_lt h k hk))
/-- What stands while a text is read. -/
structure RdI (s : ByteArray) (cp : Nat) (w : World) (ts : List S46) (tx : List UInt8) (lv tv : Value) (y : World) : Prop where
  ei : EndI w.heap.size w.heap.size (fun _ => True) ts tx lv tv y
  by_ : Blz y (w.heap.size + 1 + 1) (bytesRow s cp) ((bytesRow s cp).size, (bytesRow s cp).size + 1)
  below : Below w.heap.size w y
theorem RdI.bt {s : ByteArray} {cp : Nat} {w y : World} {ts : List S46} {tx : List UInt8} {lv tv : Value} (h : RdI s cp w ts tx lv tv y) (hc : s.size ≤ cp) : Bt y (w.heap.size + 1 + 1) 0 s.size cp s.data.toList := bt_made (w := w) hc h.by_
theorem RdI.step {s : ByteArray} {cp : Nat} {w y z : World} {ts : List S46} {tx : List UInt8} {lv tv : Value} (h : RdI s cp w ts tx lv tv y) (hb : Below y.heap.size y z) : RdI s cp w ts tx lv tv z :=
  ⟨⟨h.ei.lc.below hb h.ei.lc.lt, h.ei.tc.below hb h.ei.tc.lt, Kd.S_below h.ei.lr hb, own_keepB h.ei.tr hb⟩, (hb.block _ h.by_.lt).trans h.by_, h.below.trans (hb.mono h.below.size)⟩
theorem Chg.below {h : Nat} {row : Option Nat} {w w' : World} (hc : Chg h row w w') (hr : ∀ k, row = some k → h ≤ k) (hs : h ≤ w.heap.size) : Below h w w' :=
  ⟨hc.os, hc.tape, hc.output, hc.size, fun k hk => hc.block k (by omega) (by omega) (by omega) (fun e => by have := hr k e.symm; omega)⟩
/-- Behind the end of a text. -/
theorem RdI.ended {s : ByteArray} {cp : Nat} {w y z : World} {ts : List S46} {tx : List UInt8} {lv tv lv' tv' : Value} (h : RdI s cp w ts tx lv tv y) (he : EndI w.heap.size w.heap.size (fun _ => True) (endT ts tx) [] lv' tv' z) (hc : Chg w.heap.size lv.ownBlock y z) : RdI s cp w (endT ts tx) [] lv' tv' z :=
  ⟨he, (hc.block _ h.by_.lt (by omega) (by omega) (S_ne_blz h.ei.lr h.by_ (by simp))).trans h.by_, h.below.trans (hc.below (fun k hk => Kd.S_base h.ei.lr k hk) h.below.size)⟩
theorem bel_trans {x y z : World} (h : Below x.heap.size x y) (hb : Below y.heap.size y z) : Below x.heap.size x z := h.trans (hb.mono h.size)
/-- What is taken, between two sizes. -/
theorem tk_M {z : World} {X Y h : Nat} {tok : S46} {cs : List Value} (hM : k46.M z Y (fun _ => True) tok cs) (h1 : h ≤ X) (h2 : X ≤ Y) : k46.M z h (fun k => X ≤ k ∧ k < z.heap.size) tok cs :=
  k46.M_lower (Nat.le_trans h1 h2) (k46.M_mono (fun k hk => ⟨Nat.le_trans h2 hk.2.1, hk.2.2.1⟩) (k46.M_bound hM))
theorem rdi_end {s : ByteArray} {cp : Nat} {w y z : World} {ts : List S46} {tx : List UInt8} {lv tv : Value} (h : RdI s cp w ts tx lv tv y) (hb : Below y.heap.size y z) (n : Nat) : EndI w.heap.size w.heap.size (fun k => ¬ (y.heap.size ≤ k ∧ k < n)) ts tx lv tv z :=
  ⟨(h.step hb).ei.lc, (h.step hb).ei.tc, Kd.S_mono (Kd.S_below (Kd.S_bound h.ei.lr) hb) (fun k hk => by have := hk.2.2.1; omega), (h.step hb).ei.tr⟩
/-- The token, behind the text's end, and all that is needed to put it behind the others. -/
structure AppI (w w5 : World) (X n : Nat) (ts : List S46) (tok : S46) (cs : List Value) (lv : Value) : Prop where
  hp : k46.M w5 w.heap.size (fun k => X ≤ k ∧ k < n) tok cs
  hokp : ∀ k, X ≤ k ∧ k < n → True ∧ some k ≠ lv.ownBlock
  ho : Kd.S k46 46 w5 w.heap.size (fun k => True ∧ ¬ (X ≤ k ∧ k < n)) lv ts
theorem app_i {s : ByteArray} {cp : Nat} {w y z Z w5 : World} {ts : List S46} {tx : List UInt8} {lv tv lv5 : Value} {tok : S46} {cs : List Value} (h : RdI s cp w ts tx lv tv y) (hM : k46.M z w.heap.size (fun k => y.heap.size ≤ k ∧ k < z.heap.size) tok cs) (hz : Below z.heap.size z Z)
    (he : EndI w.heap.size w.heap.size (fun k => ¬ (y.heap.size ≤ k ∧ k < z.heap.size)) (endT ts tx) [] lv5 (.slice none 0 0) w5) (hc : Chg w.heap.size lv.ownBlock Z w5) : AppI w w5 y.heap.size z.heap.size (endT ts tx) tok cs lv5 := by
  have hy1 : w.heap.size + 1 < y.heap.size := h.ei.tc.lt
  refine ⟨?_, fun k hk => ⟨trivial, fun e => ?_⟩, Kd.S_mono he.lr (fun k hk => ⟨trivial, hk⟩)⟩
  · refine k46.M_move (fun k hk => ?_) hM
    refine (hc.block k (Nat.lt_of_lt_of_le hk.2 hz.size) (by omega) (by omega) (fun e => ?_)).trans (hz.block k hk.2)
    have := Kd.S_lt h.ei.lr k e.symm
    omega
  · exact (Kd.S_R he.lr).1 k e.symm hk
theorem rdi_app {s : ByteArray} {cp : Nat} {w y Z w5 w6 : World} {ts : List S46} {tx : List UInt8} {lv tv lv5 v1 : Value} {ok : Nat → Prop} {tok : S46} (h : RdI s cp w ts tx lv tv y) (hz : Below y.heap.size y Z)
    (he : EndI w.heap.size w.heap.size ok (endT ts tx) [] lv5 (.slice none 0 0) w5) (hc : Chg w.heap.size lv.ownBlock Z w5) (hr : Kd.S k46 46 w6 w.heap.size (fun _ => True) v1 (endT ts tx ++ [tok])) (hb6 : Below w.heap.size w w6) (hg : w5.grownBy w6 lv5.ownBlock) :
    Blk w6 w.heap.size #[lv5] 23 ∧ RdI s cp w (endT ts tx ++ [tok]) [] v1 (.slice none 0 0) (w6.setCell ⟨w.heap.size, 0, none⟩ v1) := by
  have hz' := h.step hz
  have e5 : RdI s cp w (endT ts tx) [] lv5 (.slice none 0 0) w5 := hz'.ended ⟨he.lc, he.tc, Kd.S_mono he.lr (fun _ _ => trivial), he.tr⟩ hc
  have b1 : Blk w6 w.heap.size #[lv5] 23 := he.lc.of_block (hg.block _ he.lc.lt (Kd.S_ne he.lr he.lc (by decide)))
  have b2 : Blk w6 (w.heap.size + 1) #[.slice none 0 0] 72 := he.tc.of_block (hg.block _ he.tc.lt (Kd.S_ne he.lr he.tc (by decide)))
  have b3 : Blz w6 (w.heap.size + 1 + 1) (bytesRow s cp) ((bytesRow s cp).size, (bytesRow s cp).size + 1) := (hg.block _ e5.by_.lt (S_ne_blz he.lr e5.by_ (by simp))).trans e5.by_
  refine ⟨b1, ⟨b1.set 0 _, b2.setCell_other _ (by show w.heap.size + 1 ≠ w.heap.size; omega), Kd.S_set hr b1 (typ_token (by decide) (by decide)) 0 _, ?_⟩, (Below.heap_setCell _ _ _ _ (by show w.heap.size + 1 + 1 ≠ w.heap.size; omega)).trans b3, hb6.trans ⟨rfl, rfl, rfl, by simp [World.setCell], fun k hk => Below.heap_setCell _ _ _ _ (by show k ≠ w.heap.size; omega)⟩⟩
  exact World.ownsRow_nil _ _ _ _
theorem own_ne_blk {w : World} {base e sz n g : Nat} {v : Value} {xs : List Value} {cs : Array Value} {T : TypeId} (h : w.ownsRow base e sz v n xs) (hb : Blk w g cs T) (hT : T ≠ e) : some g ≠ v.ownBlock := by
  intro he
  obtain ⟨cells, hc⟩ := own_typed h g he.symm
  unfold Blk at hb
  rw [hb] at hc
  injection hc with hc
  injection hc with _ hc
  exact hT hc
theorem rdi_text {s : ByteArray} {cp : Nat} {w y y1 w4 : World} {ts : List S46} {tx : List UInt8} {lv tv v1 : Value} {d : UInt8} (h : RdI s cp w ts tx lv tv y) (hy : Below y.heap.size y y1) (ho : w4.ownsRow w.heap.size 5 1 v1 (tx.length + 1) (byc tx ++ [.int .u8 (d.toNat : Int)])) (hg : y1.grownBy w4 tv.ownBlock) :
    Blk w4 (w.heap.size + 1) #[tv] 72 ∧ RdI s cp w ts (tx ++ [d]) lv v1 (w4.setCell ⟨w.heap.size + 1, 0, none⟩ v1) := by
  have h1 := h.step hy
  have b1 : Blk w4 w.heap.size #[lv] 23 := h1.ei.lc.of_block (hg.block _ h1.ei.lc.lt (own_ne_blk h1.ei.tr h1.ei.lc (by decide)))
  have b2 : Blk w4 (w.heap.size + 1) #[tv] 72 := h1.ei.tc.of_block (hg.block _ h1.ei.tc.lt (own_ne_blk h1.ei.tr h1.ei.tc (by decide)))
  have b3 : Blz w4 (w.heap.size + 1 + 1) (bytesRow s cp) ((bytesRow s cp).size, (bytesRow s cp).size + 1) := (hg.block _ h1.by_.lt (own_ne_blz h1.ei.tr h1.by_ (by simp))).trans h1.by_
  have b4 : Below w.heap.size w w4 := h1.below.trans ⟨hg.os, hg.tape, hg.output, hg.size, fun k hk => hg.block k (Nat.lt_of_lt_of_le hk h1.below.size) (fun e => by have := own_base h1.ei.tr k e.symm; omega)⟩
  have b5 : Kd.S k46 46 w4 w.heap.size (fun _ => True) lv ts := Kd.S_over' h1.ei.lr (fun k hk => own_typed h1.ei.tr k hk) (typ_token (by decide) (by decide)) hg
  refine ⟨b2, ⟨b1.setCell_other _ (by show w.heap.size ≠ w.heap.size + 1; omega), b2.set 0 _, Kd.S_set b5 b2 (typ_token (by decide) (by decide)) 0 _, ?_⟩, (Below.heap_setCell _ _ _ _ (by show w.heap.size + 1 + 1 ≠ w.heap.size + 1; omega)).trans b3, b4.trans ⟨rfl, rfl, rfl, by simp [World.setCell], fun k hk => Below.heap_setCell _ _ _ _ (by show k ≠ w.heap.size + 1; omega)⟩⟩
  have e1 : (tx ++ [d]).length = tx.length + 1 := by simp
  have e2 : byc (tx ++ [d]) = byc tx ++ [.int .u8 (d.toNat : Int)] := by unfold byc; simp
  rw [e1, e2]
  exact own_move ho (fun k hk => Below.heap_setCell _ _ _ _ (fun e => own_ne_blk ho b2 (by decide) (by rw [hk, e])))
/-- A closing, as_ a token in cells. -/
theorem closing_take (g a n c : Nat) (l : List UInt8) (w : World) (hB : Bt w g a n c l) (hn : n ≤ 600000) :
    Calls Tryz.prog 85 #[.slice (some ⟨g, a, none⟩) n c] w fun e w' => (match clF l with
    | none => NonePost e
    | some (k, u) => TakeP g a n w ⟨2, st (lows ((l.drop 2).take k)), ⟨#[]⟩, []⟩ u e w') ∧ Below w.heap.size w w' := by
  refine (closing_calls g a n c l w hB hn).mono fun e w' h => ?_
  unfold ClPost at h
  refine ⟨?_, h.2⟩
  have h1 := h.1
  revert h1
  cases clF l with
  | none => exact fun h => h
  | some p =>
    obtain ⟨k, u⟩ := p
    intro h1
    obtain ⟨a', h2, h3⟩ := h1
    exact ⟨_, a', k46_mkM _ _ _ ⟨2, st (lows ((l.drop 2).take k)), ⟨#[]⟩, []⟩ (Kd.R_nil _ _ _ _ _), h2, h3⟩
/-- Nothing is taken, or a token is. -/
def TkPost (X g a n : Nat) (r : Option (S46 × Nat)) (e : Ending) (z : World) : Prop :=
  match r with
  | none => NonePost e
  | some (tok, u) => ∃ cs a', k46.M z X (fun _ => True) tok cs ∧ (u < n → a' = a + u) ∧ e = .returned (.tuple #[.agg cs.toArray, .slice (some ⟨g, a', none⟩) (n - u) (n - u), .bool true])
def clR (l : List UInt8) : Option (S46 × Nat) := (clF l).map fun (k, u) => (⟨2, st (lows ((l.drop 2).take k)), ⟨#[]⟩, []⟩, u)
def opR (l : List UInt8) : Option (S46 × Nat) := (opF l).map fun (k, as_, u) => (⟨1, st (lows ((l.drop 1).take k)), ⟨#[]⟩, as_⟩, u)
theorem tkF_eq (l : List UInt8) : tkF l = (clR l).or (opR l) := by
  unfold tkF clR opR
  cases clF l with
  | none => cases opF l <;> rfl
  | some p => rfl
theorem cl_tk (g a n c : Nat) (l : List UInt8) (w : World) (hB : Bt w g a n c l) (hn : n ≤ 600000) :
    Calls Tryz.prog 85 #[.slice (some ⟨g, a, none⟩) n c] w fun e w' => TkPost w.heap.size g a n (clR l) e w' ∧ Below w.heap.size w w' := by
  refine (closing_take g a n c l w hB hn).mono fun e w' h => ⟨?_, h.2⟩
  have h1 := h.1
  unfold clR
  revert h1
  cases clF l with
  | none => exact fun h => h
  | some p => exact fun h => h
theorem op_tk (g a n c : Nat) (l : List UInt8) (w : World) (hB : Bt w g a n c l) (hn : n ≤ 600000) (hn0 : 0 < n) :
    Calls Tryz.prog 86 #[.slice (some ⟨g, a, none⟩) n c] w fun e w' => TkPost w.heap.size g a n (opR l) e w' ∧ Below w.heap.size w w' := by
  refine (opening_calls g a n c l w hB hn hn0).mono fun e w' h => ?_
  unfold OpPost at h
  refine ⟨?_, h.2⟩
  have h1 := h.1
  unfold opR
  revert h1
  cases opF l with
  | none => exact fun h => h
  | some p => exact fun h => h
set_option maxRecDepth 100000 in
set_option maxHeartbeats 16000000 in
theorem read_long (s : ByteArray) (w : World) (hs : 4000 < s.size) (hs2 : s.size ≤ 140737488351232) :
    Calls Tryz.prog 13 #[.string s] w fun e w' => e = .returned (.tuple #[.slice none 0 0, .int .i64 3]) ∧ w = w' := by
  have v1 : (4000 : Int) < (s.size : Int) := by omega
  go_enter Tryz.func13, Tryz.ntmps13
  go_wp2_with fail
  go_step3
  go_wp2_with fail
  try rw [Exit.noGoto_ret]
  go_ret2
  exact ⟨rfl, rfl⟩
set_option maxRecDepth 100000 in
set_option maxHeartbeats 16000000 in
theorem read_calls (s : ByteArray) (w : World) (hs : s.size ≤ 4000) :
    Calls Tryz.prog 13 #[.string s] w fun e w' => ∃ v, e = .returned (.tuple #[v, .int .i64 0]) ∧ Kd.S k46 46 w' w.heap.size (fun _ => True) v (readF s.data.toList) ∧ Below w.heap.size w w' := by
  have hbs : ∀ W : World, (convert 9 72 (.string s)).run Tryz.prog W = _ := fun W => run_bytes_of_string (P := Tryz.prog) W 9 72 5 s Tryz.underlying9 Tryz.underlying72 Tryz.underlying5
  have hmf : ∀ (fn : Fn) (first cap : Array Value) (w : World), (Instr.makeFunc fn first cap).run Tryz.prog w = .ok (.func fn first cap) w := fun _ _ _ _ => rfl
  have v1 : decide ((4000 : Int) < (s.size : Int)) = false := by simp; omega
  have HS := Lib.hid hs
  clear hs
  go_enter Tryz.func13, Tryz.ntmps13
  go_wp2_with fail
  go_step3
  go_wp2_with fail
  go_step3
  go_wp2_with fail
  obtain ⟨cp, hcp⟩ : ∃ cp, cp = grownCap ((w.alloc (.cells #[.slice none 0 0] 23)).alloc (.cells #[.slice none 0 0] 72)) s.size 0 5 := ⟨_, rfl⟩
  rw [← hcp]
  have HGE := Lib.hid (show s.size ≤ cp by rw [hcp]; exact grownCap_ge _ _ _ _)
  clear hcp hbs
  have HI0 := Lib.hid (show RdI s cp w [] [] (.slice none 0 0) (.slice none 0 0) ((((w.alloc (.cells #[.slice none 0 0] 23)).alloc (.cells #[.slice none 0 0] 72)).alloc (.cells (bytesRow s cp) 5 ((bytesRow s cp).size, (bytesRow s cp).size + 1))).drew) from
    ⟨⟨((Blk.alloc w _ _).alloc_old _).alloc_old _, (Blk.alloc_at _ _ _ (by simp)).alloc_old _, Kd.S_nil _ _ _ _ _, World.ownsRow_nil _ _ _ _⟩, (by show Blz _ _ _ _; have h := heap_alloc_new ((w.alloc (.cells #[.slice none 0 0] 23)).alloc (.cells #[.slice none 0 0] 72)) (.cells (bytesRow s cp) 5 ((bytesRow s cp).size, (bytesRow s cp).size + 1)); have e : ((w.alloc (.cells #[.slice none 0 0] 23)).alloc (.cells #[.slice none 0 0] 72)).heap.size = w.heap.size + 1 + 1 := (by simp); rw [e] at h; exact h), below_drewN (below_alloc (below_alloc (below_alloc (Below.refl _ _) _) _) _) 1⟩)
  have HLL := Lib.hid (show s.data.toList.length = s.size by simp)
  obtain ⟨R, hR⟩ : ∃ R, rdL s.data.toList (s.data.toList.length + 1) 0 [] [] = R := ⟨_, rfl⟩
  have HRF := Lib.hid (show readF s.data.toList = R from hR)
  have HR0 := Lib.hid hR
  obtain ⟨i0, hi, hzz⟩ : ∃ i0, Tryz.prog.info? 5 = some i0 ∧ (i0.zero, i0.size, i0.bytes) = (some (.int .u8 0), 1, 1) := Option.map_eq_some_iff.1 (show (Tryz.prog.info? 5).map (fun i => (i.zero, i.size, i.bytes)) = some (some (.int .u8 0), 1, 1) by kernel_rfl)
  simp only [Prod.mk.injEq] at hzz
  obtain ⟨hz0, hz1, hz2⟩ := hzz
  have HIN := Lib.hid hi
  have HZ0 := Lib.hid hz0
  have HZS := Lib.hid hz1
  have HZB := Lib.hid hz2
  clear hi hz0 hz1 hz2 hR
  go_loopw [7] (fun bv wr => ∃ (f o a m c : Nat) (ts : List S46) (tx : List UInt8) (lv tv : Value), bv = .slice (some ⟨w.heap.size + 1 + 1, a, none⟩) m c ∧ m ≤ 4000 ∧ m ≤ c ∧ Hid (m = s.size - o ∧ o ≤ s.size) ∧ Hid (o < s.size → a = o) ∧ Hid (RdI s cp w ts tx lv tv wr) ∧ Hid (rdL s.data.toList f o ts tx = R) ∧ Hid (m < f) ∧ Hid (ts.length ≤ 2 * o) ∧ Hid (tx.length ≤ o)) (fun bv _ => slz bv)
  case atStart => exact ⟨s.data.toList.length + 1, 0, 0, s.size, cp, [], [], _, _, rfl, HS.out, HGE.out, Lib.hid (by omega), Lib.hid (fun _ => rfl), HI0, HR0, Lib.hid (by have := HLL.out; omega), Lib.hid (Nat.zero_le _), Lib.hid (Nat.zero_le _)⟩
  case round =>
    clear HI0
    obtain ⟨f, o, a, m, c, ts, tx, lv, tv, rfl, hm4, hmc, HM, HAO, HI, HL, HF, HLT, HLXO⟩ := hrel
    obtain ⟨f, rfl⟩ : ∃ f', f = f' + 1 := ⟨f - 1, by have := HF.out; omega⟩
    obtain ⟨A1, c1, hlv⟩ := Kd.S_slice HI.out.ei.lr
    obtain ⟨A2, c2, htv⟩ := own_sl HI.out.ei.tr
    subst hlv htv
    have HLT6 := Lib.hid (show ts.length ≤ 600000 from by have := HLT.out; have := HM.out; have := HS.out; omega)
    have HLX6 := Lib.hid (show tx.length ≤ 600000 from by have := HLXO.out; have := HM.out; have := HS.out; omega)
    have HLX := HLX6
    by_cases hz : m = 0
    · have HRR := Lib.hid (show endT ts tx = R from by
        have h := HL.out
        rw [rdL, List.getElem?_eq_none (by have := HLL.out; have := HM.out; omega)] at h
        exact h)
      have v3 : ¬ (0 : Int) < (m : Int) := by omega
      clear hz
      go_wp2_with (go_at_call 48; refine Calls.mono (end_calls w.heap.size w.heap.size (fun _ => True) ts tx (.slice A1 ts.length c1) (.slice A2 tx.length c2) _ HI.out.ei (fun _ _ => trivial) (Nat.le_refl _) HLT6.out HLX6.out) ?_; rintro e w5 ⟨rfl, lv5, hei, hch, hat⟩; have HE5 := Lib.hid hei; have HB5 := Lib.hid ((HI.out.ended hei hch).below); obtain ⟨A5, c5, hl5⟩ := Kd.S_slice hei.lr; subst hl5; have l5 : w5.cell? ⟨w.heap.size, 0, none⟩ = some (.slice A5 (endT ts tx).length c5) := hei.lc.cell 0; clear hei hch hat)
      try rw [Exit.noGoto_ret]
      go_ret2
      exact ⟨_, rfl, by rw [HRF.out, ← HRR.out]; exact HE5.out.lr, HB5.out⟩
    · have hm0 : 0 < m := by omega
      have v3 : (0 : Int) < (m : Int) := by omega
      have hol : o < s.data.toList.length := by have := HLL.out; have := HM.out; omega
      obtain ⟨d, hd⟩ : ∃ d, d = s.data.toList[o]'hol := ⟨_, rfl⟩
      have HD := Lib.hid hd
      have HGL := Lib.hid HI.out.by_.lt
      have HBT := Lib.hid (show ∀ y, Below wr.heap.size wr y → Bt y (w.heap.size + 1 + 1) a m c (s.data.toList.drop o) from fun y hy => by
        have h := ((HI.out.step hy).bt HGE.out).drop (k := o) (a' := a) (c' := c) HM.out.2 (fun h => by have := HM.out; rw [HAO.out (by omega), Nat.zero_add]) (by have := HM.out; omega)
        rw [← HM.out.1] at h
        exact h)
      have HDC := Lib.hid (show ∀ y, Below wr.heap.size wr y → y.cell? ⟨w.heap.size + 1 + 1, a, none⟩ = some (.int .u8 (d.toNat : Int)) from fun y hy => by
        have h : y.cell? ⟨w.heap.size + 1 + 1, a, none⟩ = some (.int .u8 (((s.data.toList.drop o)[0]'(by rw [List.length_drop]; omega)).toNat : Int)) := (HBT.out y hy).cell 0 (by rw [List.length_drop]; omega)
        rw [h, List.getElem_drop, hd]
        rfl)
      obtain ⟨a1, ha1⟩ : ∃ a1, a1 = bof a c 1 := ⟨_, rfl⟩
      have hsl : ∀ W : World, (Instr.slice 72 (.slice (some ⟨w.heap.size + 1 + 1, a, none⟩) m c) (some (.int .i64 1)) none none).run Tryz.prog W = .ok (.slice (some ⟨w.heap.size + 1 + 1, a1, none⟩) (m - 1) (c - 1)) W := fun W => by
        have h := slice_l W (w.heap.size + 1 + 1) a m c 1 (by omega) hmc
        rw [← ha1] at h
        exact h
      have HA1 := Lib.hid (show 1 < c → a1 = a + 1 from fun h => by rw [ha1]; exact bof_lt h)
      have HGO := Lib.hid (show s.data.toList[o]? = some d from by rw [hd]; exact List.getElem?_eq_getElem hol)
      clear ha1 hd hz
      have q0 := fun o1 o2 => HDC.out ((wr.alloc o1).alloc o2) (below_alloc (below_alloc (Below.refl _ _) _) _)
      by_cases h60 : d = 60
      · subst h60
        have HCA := Lib.hid (show ∀ y, Below wr.heap.size wr y → Calls Tryz.prog 85 #[.slice (some ⟨w.heap.size + 1 + 1, a, none⟩) m c] y fun e z => TkPost y.heap.size (w.heap.size + 1 + 1) a m (clR (s.data.toList.drop o)) e z ∧ Below y.heap.size y z from fun y hy => cl_tk _ a m c _ y (HBT.out y hy) (by omega))
        have HOA := Lib.hid (show ∀ y, Below wr.heap.size wr y → Calls Tryz.prog 86 #[.slice (some ⟨w.heap.size + 1 + 1, a, none⟩) m c] y fun e z => TkPost y.heap.size (w.heap.size + 1 + 1) a m (opR (s.data.toList.drop o)) e z ∧ Below y.heap.size y z from fun y hy => op_tk _ a m c _ y (HBT.out y hy) (by omega) hm0)
        have hL := HL.out
        rw [rdL, HGO.out] at hL
        dsimp only at hL
        rw [if_pos rfl, tkF_eq] at hL
        have HLA := Lib.hid hL
        clear hL HL
        cases hcl : clR (s.data.toList.drop o) with
        | some r =>
          obtain ⟨tok, u⟩ := r
          have HCL := Lib.hid (show ∀ y, Below wr.heap.size wr y → Calls Tryz.prog 85 #[.slice (some ⟨w.heap.size + 1 + 1, a, none⟩) m c] y fun e z => TkPost y.heap.size (w.heap.size + 1 + 1) a m (some (tok, u)) e z ∧ Below y.heap.size y z from fun y hy => by
            have h := HCA.out y hy
            rw [hcl] at h
            exact h)
          have HUM := Lib.hid (show u ≤ m ∧ 0 < u from by
            have h := tkF_le (l := s.data.toList.drop o) (t := tok) (u := u) (by rw [tkF_eq, hcl]; rfl)
            rw [List.length_drop] at h
            have := HLL.out; have := HM.out
            omega)
          have HLN := Lib.hid (show rdL s.data.toList f (o + u) (endT ts tx ++ [tok]) [] = R from by
            have h := HLA.out
            rw [hcl] at h
            exact h)
          obtain ⟨k0, n1, t2, as3⟩ := tok
          clear hcl HLA HCA HOA
          go_wp2_with (go_at_call 49; go_in)
          refine wp_loop_rounds 1 ?_
          rw [rounds_succ]
          go_wp2_with (first | (go_at_call 85; refine Calls.mono (HCL.out _ (by (repeat (first | exact HZ2.out | exact HZ1.out | exact Below.refl _ _ | apply below_alloc)))) ?_; rintro e z1 ⟨hp, hb⟩; obtain ⟨cs, a6, hM, ha6, rfl⟩ := hp; have HZ1 := Lib.hid (show Below wr.heap.size wr z1 from bel_trans (by (repeat (first | exact HZ2.out | exact HZ1.out | exact Below.refl _ _ | apply below_alloc))) hb); have HZW := Lib.hid HZ1.out.size; have HA6 := Lib.hid ha6; have HMT := Lib.hid (tk_M hM HI.out.below.size (Below.size (by (repeat (first | exact HZ2.out | exact HZ1.out | exact Below.refl _ _ | apply below_alloc))))); obtain ⟨v3, hcs, hrow⟩ := k46_openM hM; dsimp only at hcs hrow; obtain ⟨A3, c3, hv3⟩ := Kd.R_slice hrow; subst hv3 hcs; clear hM hb hrow ha6) | (go_at_call 48; refine Calls.mono (end_calls w.heap.size w.heap.size (fun k => ¬ (wr.heap.size ≤ k ∧ k < z1.heap.size)) ts tx (.slice A1 ts.length c1) (.slice A2 tx.length c2) _ (rdi_end HI.out (by (repeat (first | exact HZ2.out | exact HZ1.out | exact Below.refl _ _ | apply below_alloc))) _) (by intro k hk; simp at hk; omega) (Nat.le_refl _) HLT6.out HLX6.out) ?_; rintro e w5 ⟨rfl, lv5, hei, hch, hat⟩; have HE5 := Lib.hid hei; have HC5 := Lib.hid hch; have HA5 := Lib.hid (app_i HI.out HMT.out ((Below.refl _ _).alloc (Nat.le_refl _) _) hei hch); have HB5 := Lib.hid (((HI.out.step (by (repeat (first | exact HZ2.out | exact HZ1.out | exact Below.refl _ _ | apply below_alloc)))).ended ⟨hei.lc, hei.tc, Kd.S_mono hei.lr (fun _ _ => trivial), hei.tr⟩ hch).below); obtain ⟨A5, c5, hl5⟩ := Kd.S_slice hei.lr; subst hl5; have l5 : w5.cell? ⟨w.heap.size, 0, none⟩ = some (.slice A5 (endT ts tx).length c5) := hei.lc.cell 0; have hzt : Blk w5 z1.heap.size #[.int .i64 k0, .string n1, .string t2, .slice A3 as3.length c3] 46 := ((Blk.alloc z1 _ _).of_block (hch.block _ (by simp) (by have := HZW.out; have := HI.out.ei.tc.lt; omega) (by have := HZW.out; have := HI.out.ei.tc.lt; omega) (fun e => by have := Kd.S_lt HI.out.ei.lr _ e.symm; have := HZW.out; omega))); have t0 := hzt.cell 0; have t1 := hzt.cell 1; have t2_ := hzt.cell 2; have t3 := hzt.cell 3; simp only [List.getElem?_toArray, List.getElem?_cons_zero, List.getElem?_cons_succ] at t0 t1 t2_ t3; clear hei hch hat hzt) | (at_builtin; refine Kd.S_append k46 (w0 := w) w.heap.size rfl _ _ 23 46 (.agg #[.int .i64 0, .string ⟨#[]⟩, .string ⟨#[]⟩, .slice none 0 0]) 64 rfl Tryz.underlying23 info_token rfl (by decide) (by decide) (.slice A5 (endT ts tx).length c5) (endT ts tx) ⟨k0, n1, t2, as3⟩ [.int .i64 k0, .string n1, .string t2, .slice A3 as3.length c3] (fun _ => True) (fun k => wr.heap.size ≤ k ∧ k < z1.heap.size) rfl rfl HA5.out.hp HA5.out.hokp (fun _ _ => trivial) HA5.out.ho HB5.out HB5.out.size (by have := endT_len ts tx; have := HLT6.out; omega) ?_; intro v1 w6 hr hb6 hg6 hat6; have HAP := Lib.hid (rdi_app HI.out (by (repeat (first | exact HZ2.out | exact HZ1.out | exact Below.refl _ _ | apply below_alloc))) HE5.out HC5.out hr hb6 hg6); obtain ⟨A6, c6, hv6⟩ := Kd.S_slice hr; rw [List.length_append, List.length_singleton] at hv6; subst hv6; have l6 : w6.cell? ⟨w.heap.size, 0, none⟩ = some (.slice A5 (endT ts tx).length c5) := HAP.out.1.cell 0; have f6 : w6.frozen? ⟨w.heap.size, 0, none⟩ = false := HAP.out.1.free 0; clear hr hb6 hg6 hat6))
          go_roundw
          case rel => exact ⟨f, o + u, a6, m - u, m - u, endT ts tx ++ [⟨k0, n1, t2, as3⟩], [], _, _, rfl, by have := HUM.out; omega, Nat.le_refl _, Lib.hid (by have := HM.out; have := HUM.out; omega), Lib.hid (fun h => by have := HM.out; have := HUM.out; rw [HA6.out (by omega), HAO.out (by omega)]), Lib.hid HAP.out.2, HLN, Lib.hid (by have := HF.out; have := HUM.out; omega), Lib.hid (by rw [List.length_append, List.length_singleton]; have := endT_len ts tx; have := HLT.out; have := HUM.out; omega), Lib.hid (Nat.zero_le _)⟩
          case measure => show slz _ < slz _; have := HUM.out; simp only [slz]; omega
        | none =>
          have HCL := Lib.hid (show ∀ y, Below wr.heap.size wr y → Calls Tryz.prog 85 #[.slice (some ⟨w.heap.size + 1 + 1, a, none⟩) m c] y fun e z => TkPost y.heap.size (w.heap.size + 1 + 1) a m none e z ∧ Below y.heap.size y z from fun y hy => by
            have h := HCA.out y hy
            rw [hcl] at h
            exact h)
          cases hop : opR (s.data.toList.drop o) with
          | some r =>
            obtain ⟨tok, u⟩ := r
            have HOP := Lib.hid (show ∀ y, Below wr.heap.size wr y → Calls Tryz.prog 86 #[.slice (some ⟨w.heap.size + 1 + 1, a, none⟩) m c] y fun e z => TkPost y.heap.size (w.heap.size + 1 + 1) a m (some (tok, u)) e z ∧ Below y.heap.size y z from fun y hy => by
              have h := HOA.out y hy
              rw [hop] at h
              exact h)
            have HUM := Lib.hid (show u ≤ m ∧ 0 < u from by
              have h := tkF_le (l := s.data.toList.drop o) (t := tok) (u := u) (by rw [tkF_eq, hcl, hop]; rfl)
              rw [List.length_drop] at h
              have := HLL.out; have := HM.out
              omega)
            have HLN := Lib.hid (show rdL s.data.toList f (o + u) (endT ts tx ++ [tok]) [] = R from by
              have h := HLA.out
              rw [hcl, hop] at h
              exact h)
            obtain ⟨k0, n1, t2, as3⟩ := tok
            clear hcl hop HLA HCA HOA
            go_wp2_with (go_at_call 49; go_in)
            refine wp_loop_rounds 2 ?_
            rw [rounds_succ]
            go_wp2_with (go_at_call 85; refine Calls.mono (HCL.out _ (by (repeat (first | exact HZ2.out | exact HZ1.out | exact Below.refl _ _ | apply below_alloc)))) ?_; rintro e z1 ⟨hp, hb⟩; have hp' : e = .returned (.tuple #[.agg #[.int .i64 0, .string ⟨#[]⟩, .string ⟨#[]⟩, .slice none 0 0], .slice none 0 0, .bool false]) := hp; subst hp'; have HZ1 := Lib.hid (show Below wr.heap.size wr z1 from bel_trans (by (repeat (first | exact HZ2.out | exact HZ1.out | exact Below.refl _ _ | apply below_alloc))) hb); have HFB := Lib.hid (show Blk z1 wr.heap.size #[.func (.func 85) #[] #[], .func (.func 86) #[] #[]] 77 from ((Blk.alloc wr _ _).alloc_old _).below hb (by simp; omega)); have ff1 : ∀ o, (z1.alloc o).cell? ⟨wr.heap.size, 1, none⟩ = some (.func (.func 86) #[] #[]) := (fun o => (HFB.out.alloc_old o).cell 1); have q1 := fun o1 o2 => HDC.out ((z1.alloc o1).alloc o2) (below_alloc (below_alloc HZ1.out _) _); clear hb hp)
            rw [rounds_succ]
            go_wp2_with (first | (go_at_call 86; refine Calls.mono (HOP.out _ (by (repeat (first | exact HZ2.out | exact HZ1.out | exact Below.refl _ _ | apply below_alloc)))) ?_; rintro e z2 ⟨hp, hb⟩; obtain ⟨cs, a6, hM, ha6, rfl⟩ := hp; have HZ2 := Lib.hid (show Below wr.heap.size wr z2 from bel_trans (by (repeat (first | exact HZ2.out | exact HZ1.out | exact Below.refl _ _ | apply below_alloc))) hb); have HZW := Lib.hid HZ2.out.size; have HA6 := Lib.hid ha6; have HMT := Lib.hid (tk_M hM HI.out.below.size (Below.size (by (repeat (first | exact HZ2.out | exact HZ1.out | exact Below.refl _ _ | apply below_alloc))))); obtain ⟨v3, hcs, hrow⟩ := k46_openM hM; dsimp only at hcs hrow; obtain ⟨A3, c3, hv3⟩ := Kd.R_slice hrow; subst hv3 hcs; clear hM hb hrow ha6) | (go_at_call 48; refine Calls.mono (end_calls w.heap.size w.heap.size (fun k => ¬ (wr.heap.size ≤ k ∧ k < z2.heap.size)) ts tx (.slice A1 ts.length c1) (.slice A2 tx.length c2) _ (rdi_end HI.out (by (repeat (first | exact HZ2.out | exact HZ1.out | exact Below.refl _ _ | apply below_alloc))) _) (by intro k hk; simp at hk; omega) (Nat.le_refl _) HLT6.out HLX6.out) ?_; rintro e w5 ⟨rfl, lv5, hei, hch, hat⟩; have HE5 := Lib.hid hei; have HC5 := Lib.hid hch; have HA5 := Lib.hid (app_i HI.out HMT.out ((Below.refl _ _).alloc (Nat.le_refl _) _) hei hch); have HB5 := Lib.hid (((HI.out.step (by (repeat (first | exact HZ2.out | exact HZ1.out | exact Below.refl _ _ | apply below_alloc)))).ended ⟨hei.lc, hei.tc, Kd.S_mono hei.lr (fun _ _ => trivial), hei.tr⟩ hch).below); obtain ⟨A5, c5, hl5⟩ := Kd.S_slice hei.lr; subst hl5; have l5 : w5.cell? ⟨w.heap.size, 0, none⟩ = some (.slice A5 (endT ts tx).length c5) := hei.lc.cell 0; have hzt : Blk w5 z2.heap.size #[.int .i64 k0, .string n1, .string t2, .slice A3 as3.length c3] 46 := ((Blk.alloc z2 _ _).of_block (hch.block _ (by simp) (by have := HZW.out; have := HI.out.ei.tc.lt; omega) (by have := HZW.out; have := HI.out.ei.tc.lt; omega) (fun e => by have := Kd.S_lt HI.out.ei.lr _ e.symm; have := HZW.out; omega))); have t0 := hzt.cell 0; have t1 := hzt.cell 1; have t2_ := hzt.cell 2; have t3 := hzt.cell 3; simp only [List.getElem?_toArray, List.getElem?_cons_zero, List.getElem?_cons_succ] at t0 t1 t2_ t3; clear hei hch hat hzt) | (at_builtin; refine Kd.S_append k46 (w0 := w) w.heap.size rfl _ _ 23 46 (.agg #[.int .i64 0, .string ⟨#[]⟩, .string ⟨#[]⟩, .slice none 0 0]) 64 rfl Tryz.underlying23 info_token rfl (by decide) (by decide) (.slice A5 (endT ts tx).length c5) (endT ts tx) ⟨k0, n1, t2, as3⟩ [.int .i64 k0, .string n1, .string t2, .slice A3 as3.length c3] (fun _ => True) (fun k => wr.heap.size ≤ k ∧ k < z2.heap.size) rfl rfl HA5.out.hp HA5.out.hokp (fun _ _ => trivial) HA5.out.ho HB5.out HB5.out.size (by have := endT_len ts tx; have := HLT6.out; omega) ?_; intro v1 w6 hr hb6 hg6 hat6; have HAP := Lib.hid (rdi_app HI.out (by (repeat (first | exact HZ2.out | exact HZ1.out | exact Below.refl _ _ | apply below_alloc))) HE5.out HC5.out hr hb6 hg6); obtain ⟨A6, c6, hv6⟩ := Kd.S_slice hr; rw [List.length_append, List.length_singleton] at hv6; subst hv6; have l6 : w6.cell? ⟨w.heap.size, 0, none⟩ = some (.slice A5 (endT ts tx).length c5) := HAP.out.1.cell 0; have f6 : w6.frozen? ⟨w.heap.size, 0, none⟩ = false := HAP.out.1.free 0; clear hr hb6 hg6 hat6))
            go_roundw
            case rel => exact ⟨f, o + u, a6, m - u, m - u, endT ts tx ++ [⟨k0, n1, t2, as3⟩], [], _, _, rfl, by have := HUM.out; omega, Nat.le_refl _, Lib.hid (by have := HM.out; have := HUM.out; omega), Lib.hid (fun h => by have := HM.out; have := HUM.out; rw [HA6.out (by omega), HAO.out (by omega)]), Lib.hid HAP.out.2, HLN, Lib.hid (by have := HF.out; have := HUM.out; omega), Lib.hid (by rw [List.length_append, List.length_singleton]; have := endT_len ts tx; have := HLT.out; have := HUM.out; omega), Lib.hid (Nat.zero_le _)⟩
            case measure => show slz _ < slz _; have := HUM.out; simp only [slz]; omega
          | none =>
            have HOP := Lib.hid (show ∀ y, Below wr.heap.size wr y → Calls Tryz.prog 86 #[.slice (some ⟨w.heap.size + 1 + 1, a, none⟩) m c] y fun e z => TkPost y.heap.size (w.heap.size + 1 + 1) a m none e z ∧ Below y.heap.size y z from fun y hy => by
              have h := HOA.out y hy
              rw [hop] at h
              exact h)
            have HLN := Lib.hid (show rdL s.data.toList f (o + 1) ts (tx ++ [60]) = R from by
              have h := HLA.out
              rw [hcl, hop] at h
              exact h)
            obtain ⟨d, hd⟩ : ∃ d, d = (60 : UInt8) := ⟨_, rfl⟩
            have HD60 := Lib.hid hd
            rw [← hd] at HLN HD
            clear hcl hop HLA HCA HOA hd
            go_wp2_with (go_at_call 49; go_in)
            refine wp_loop_rounds 3 ?_
            rw [rounds_succ]
            go_wp2_with (go_at_call 85; refine Calls.mono (HCL.out _ (by (repeat (first | exact HZ2.out | exact HZ1.out | exact Below.refl _ _ | apply below_alloc)))) ?_; rintro e z1 ⟨hp, hb⟩; have hp' : e = .returned (.tuple #[.agg #[.int .i64 0, .string ⟨#[]⟩, .string ⟨#[]⟩, .slice none 0 0], .slice none 0 0, .bool false]) := hp; subst hp'; have HZ1 := Lib.hid (show Below wr.heap.size wr z1 from bel_trans (by (repeat (first | exact HZ2.out | exact HZ1.out | exact Below.refl _ _ | apply below_alloc))) hb); have HFB := Lib.hid (show Blk z1 wr.heap.size #[.func (.func 85) #[] #[], .func (.func 86) #[] #[]] 77 from ((Blk.alloc wr _ _).alloc_old _).below hb (by simp; omega)); have ff1 : ∀ o, (z1.alloc o).cell? ⟨wr.heap.size, 1, none⟩ = some (.func (.func 86) #[] #[]) := (fun o => (HFB.out.alloc_old o).cell 1); have q1 := fun o1 o2 => HDC.out ((z1.alloc o1).alloc o2) (below_alloc (below_alloc HZ1.out _) _); clear hb hp)
            rw [rounds_succ]
            go_wp2_with (go_at_call 86; refine Calls.mono (HOP.out _ (by (repeat (first | exact HZ2.out | exact HZ1.out | exact Below.refl _ _ | apply below_alloc)))) ?_; rintro e z2 ⟨hp, hb⟩; have hp' : e = .returned (.tuple #[.agg #[.int .i64 0, .string ⟨#[]⟩, .string ⟨#[]⟩, .slice none 0 0], .slice none 0 0, .bool false]) := hp; subst hp'; have HZ2 := Lib.hid (show Below wr.heap.size wr z2 from bel_trans (by (repeat (first | exact HZ2.out | exact HZ1.out | exact Below.refl _ _ | apply below_alloc))) hb); clear hb hp)
            rw [rounds_succ]
            go_upto_region 17 with (fail)
            have HI17 := Lib.hid (HI.out.step (z := (z2.alloc (.cells #[.int .i64 0, .string ⟨#[]⟩, .string ⟨#[]⟩, .slice none 0 0] 46))) (below_alloc HZ2.out _))
            obtain ⟨W17, hW17⟩ : ∃ W17, W17 = (z2.alloc (.cells #[.int .i64 0, .string ⟨#[]⟩, .string ⟨#[]⟩, .slice none 0 0] 46)) := ⟨_, rfl⟩
            rw [← hW17] at HI17 ⊢
            clear hW17
            have d0 : W17.cell? ⟨w.heap.size + 1, 0, none⟩ = some (.slice A2 tx.length c2) := HI17.out.ei.tc.cell 0
            have d0' : ∀ o, (W17.alloc o).cell? ⟨w.heap.size + 1, 0, none⟩ = some (.slice A2 tx.length c2) := fun o => (HI17.out.ei.tc.alloc_old o).cell 0
            have c0 : W17.cell? ⟨w.heap.size + 1 + 1, a, none⟩ = some (.int .u8 (d.toNat : Int)) := by rw [HAO.out (by have := HM.out; omega)]; have h := (HI17.out.bt HGE.out).cell o (by have := HLL.out; have := HM.out; omega); rw [Nat.zero_add] at h; rw [h, ← HD.out]
            have HOW := Lib.hid (show ((W17.alloc (.cells #[.int .u8 (d.toNat : Int)] 5)).drew).ownsRow w.heap.size 5 1 (.slice A2 tx.length c2) tx.length (byc tx) from World.ownsRow.drew (HI17.out.ei.tr.alloc _))
            have HUC := Lib.hid (show ((W17.alloc (.cells #[.int .u8 (d.toNat : Int)] 5)).drew).cell? ⟨W17.heap.size, 0, none⟩ = some (.int .u8 (d.toNat : Int)) from (Blk.alloc W17 #[.int .u8 (d.toNat : Int)] 5).cell 0)
            have HBS := Lib.hid (show w.heap.size ≤ ((W17.alloc (.cells #[.int .u8 (d.toNat : Int)] 5)).drew).heap.size from Nat.le_trans HI17.out.below.size (by show W17.heap.size ≤ (W17.heap.push _).size; simp))
            have HBY := Lib.hid (show Below W17.heap.size W17 ((W17.alloc (.cells #[.int .u8 (d.toNat : Int)] 5)).drew) from below_drewN ((Below.refl _ _).alloc (Nat.le_refl _) _) 1)
            go_region_law ((refine own_app_step (by rfl) _ _ 72 5 (by rfl) i0 (.int .u8 0) 1 Tryz.underlying72 HIN.out HZ0.out HZS.out HZB.out rfl w.heap.size (.slice A2 tx.length c2) tx.length (byc tx) (by rfl) W17.heap.size (by rfl) (.int .u8 (d.toNat : Int)) HUC.out rfl HOW.out (by have := HLX.out; unfold maxLen; omega) (by have := HLX.out; omega) HBS.out ?_; intro v1 w4 hown4 hg4 hat4; have HT4 := Lib.hid (rdi_text HI17.out HBY.out hown4 hg4); obtain ⟨A4, c4, hv4⟩ := own_sl hown4; subst hv4; have e4 : w4.cell? ⟨w.heap.size + 1, 0, none⟩ = some (.slice A2 tx.length c2) := HT4.out.1.cell 0; have f4 : w4.frozen? ⟨w.heap.size + 1, 0, none⟩ = false := HT4.out.1.free 0; clear hown4 hg4 hat4))
            all_goals
              show Exit.inBlock _ _ _ _ _
              go_roundw
              case rel => (repeat apply Exists.intro); exact ⟨⟨f, o + 1, a1, m - 1, c - 1, ts, tx ++ [d], _, _, rfl, by omega, by omega, Lib.hid (by have := HM.out; omega), Lib.hid (fun h => by have := HM.out; rw [HA1.out (by omega), HAO.out (by omega)]), Lib.hid HT4.out.2, HLN, Lib.hid (by have := HF.out; omega), Lib.hid (by have := HLT.out; omega), Lib.hid (by rw [List.length_append]; have := HLXO.out; simp; omega)⟩, rfl⟩
              case measure => show slz _ < slz _; (try simp only [slz]); show m - 1 < m; omega
      · have v61 : ((d.toNat : Int) != 60) = true := by
          have : d.toNat ≠ 60 := fun h => h60 (by apply UInt8.toNat_inj.1; exact h)
          simp; omega
        have HLN := Lib.hid (show rdL s.data.toList f (o + 1) ts (tx ++ [d]) = R from by
          have h := HL.out
          rw [rdL, HGO.out] at h
          dsimp only at h
          rw [if_neg h60] at h
          exact h)
        clear HL h60
        go_wp2_with (go_at_call 49; go_in)
        refine wp_loop_rounds 1 ?_
        rw [rounds_succ]
        go_upto_region 17 with (fail)
        have HI17 := Lib.hid (HI.out.step (z := ((wr.alloc (.cells #[.func (.func 85) #[] #[], .func (.func 86) #[] #[]] 77)).alloc (.cells #[.func (.func 85) #[] #[]] 77))) (below_alloc (below_alloc (Below.refl _ _) _) _))
        obtain ⟨W17, hW17⟩ : ∃ W17, W17 = ((wr.alloc (.cells #[.func (.func 85) #[] #[], .func (.func 86) #[] #[]] 77)).alloc (.cells #[.func (.func 85) #[] #[]] 77)) := ⟨_, rfl⟩
        rw [← hW17] at HI17 ⊢
        clear hW17
        have d0 : W17.cell? ⟨w.heap.size + 1, 0, none⟩ = some (.slice A2 tx.length c2) := HI17.out.ei.tc.cell 0
        have d0' : ∀ o, (W17.alloc o).cell? ⟨w.heap.size + 1, 0, none⟩ = some (.slice A2 tx.length c2) := fun o => (HI17.out.ei.tc.alloc_old o).cell 0
        have c0 : W17.cell? ⟨w.heap.size + 1 + 1, a, none⟩ = some (.int .u8 (d.toNat : Int)) := by rw [HAO.out (by have := HM.out; omega)]; have h := (HI17.out.bt HGE.out).cell o (by have := HLL.out; have := HM.out; omega); rw [Nat.zero_add] at h; rw [h, ← HD.out]
        have HOW := Lib.hid (show ((W17.alloc (.cells #[.int .u8 (d.toNat : Int)] 5)).drew).ownsRow w.heap.size 5 1 (.slice A2 tx.length c2) tx.length (byc tx) from World.ownsRow.drew (HI17.out.ei.tr.alloc _))
        have HUC := Lib.hid (show ((W17.alloc (.cells #[.int .u8 (d.toNat : Int)] 5)).drew).cell? ⟨W17.heap.size, 0, none⟩ = some (.int .u8 (d.toNat : Int)) from (Blk.alloc W17 #[.int .u8 (d.toNat : Int)] 5).cell 0)
        have HBS := Lib.hid (show w.heap.size ≤ ((W17.alloc (.cells #[.int .u8 (d.toNat : Int)] 5)).drew).heap.size from Nat.le_trans HI17.out.below.size (by show W17.heap.size ≤ (W17.heap.push _).size; simp))
        have HBY := Lib.hid (show Below W17.heap.size W17 ((W17.alloc (.cells #[.int .u8 (d.toNat : Int)] 5)).drew) from below_drewN ((Below.refl _ _).alloc (Nat.le_refl _) _) 1)
        go_region_law ((refine own_app_step (by rfl) _ _ 72 5 (by rfl) i0 (.int .u8 0) 1 Tryz.underlying72 HIN.out HZ0.out HZS.out HZB.out rfl w.heap.size (.slice A2 tx.length c2) tx.length (byc tx) (by rfl) W17.heap.size (by rfl) (.int .u8 (d.toNat : Int)) HUC.out rfl HOW.out (by have := HLX.out; unfold maxLen; omega) (by have := HLX.out; omega) HBS.out ?_; intro v1 w4 hown4 hg4 hat4; have HT4 := Lib.hid (rdi_text HI17.out HBY.out hown4 hg4); obtain ⟨A4, c4, hv4⟩ := own_sl hown4; subst hv4; have e4 : w4.cell? ⟨w.heap.size + 1, 0, none⟩ = some (.slice A2 tx.length c2) := HT4.out.1.cell 0; have f4 : w4.frozen? ⟨w.heap.size + 1, 0, none⟩ = false := HT4.out.1.free 0; clear hown4 hg4 hat4))
        all_goals
          show Exit.inBlock _ _ _ _ _
          go_roundw
          case rel => (repeat apply Exists.intro); exact ⟨⟨f, o + 1, a1, m - 1, c - 1, ts, tx ++ [d], _, _, rfl, by omega, by omega, Lib.hid (by have := HM.out; omega), Lib.hid (fun h => by have := HM.out; rw [HA1.out (by omega), HAO.out (by omega)]), Lib.hid HT4.out.2, HLN, Lib.hid (by have := HF.out; omega), Lib.hid (by have := HLT.out; omega), Lib.hid (by rw [List.length_append]; have := HLXO.out; simp; omega)⟩, rfl⟩
          case measure => show slz _ < slz _; (try simp only [slz]); show m - 1 < m; omega
end Go.Proofs.YtkjgnkmnngaioaaGreat.Q
namespace Go.Proofs.YtkjgnkmnngaioaaGreat.Q
open Go.RowKit Go.IntWalk Go.Proofs.YtkjgnkmnngaioaaGreat.Mem
set_option linter.unusedVariables false
set_option linter.unusedSimpArgs false
theorem Bs.keep {q base np b : Nat} {W W' : World} {cs : Array Value} (h : Bs q base np W) (hb : Blk W b cs 139) (hk : ∀ g, g < W.heap.size → g ≠ b → W'.heap[g]? = W.heap[g]?) : Bs q base np W' := by
  obtain ⟨f, tr, hs⟩ := h
  unfold Blk at hb
  have hlt : ∀ g (o : Obj), W.heap[g]? = some o → g < W.heap.size := fun g o h => by
    rcases Nat.lt_or_ge g W.heap.size with h1 | h1
    · exact h1
    · rw [Array.getElem?_eq_none h1] at h; cases h
  have hq := hs.blk
  unfold Blk at hq
  refine ⟨f, tr, hs.blk.of_block (hk q hs.blk.lt (fun e => by subst e; rw [hb] at hq; cases hq)), own_keep hs.own (fun g cur h => hk g (hlt g _ h) (fun e => by subst e; rw [hb] at h; cases h)), fun a h1 h2 => (hs.done a h1 h2).keep (fun g cur fz h => hk g (hlt g _ h) (fun e => by subst e; rw [hb] at h; cases h)), hs.rest, hs.ge⟩
/-- What buildOnce leaves. -/
structure BsBuilt (b np base q : Nat) (w w' : World) : Prop where
  rep : ∃ c4, Blk w' b (RB 0 1 (.iface 180 (.pointer (some ⟨q, 0, none⟩))) c4) 139
  bs : Bs q base np w'
  but : But b w w'
set_option maxRecDepth 100000 in
set_option maxHeartbeats 1600000 in
theorem bs_once (b ob c m np : Nat) (w : World) (hm : m = 2 * np) (hnp : np = 3 ∨ np = 4) (hB : Blk w b (RB 0 1 .nilIface (.slice (some ⟨ob, 0, none⟩) m c)) 139) (hob : ob ≠ b) (hK : ∀ a, a < np → w.cell? ⟨ob, 2 * a, none⟩ = some (.string (os a)) ∧ w.cell? ⟨ob, 2 * a + 1, none⟩ = some (.string (ns a))) :
    Calls Tryz.prog 93 #[.pointer (some ⟨b, 0, none⟩)] w fun e w' => e = .returned (.tuple #[]) ∧ ∃ q, BsBuilt b np w.heap.size q w w' := by
  have HK := Lib.hid hK
  have HB := Lib.hid hB
  have HM := Lib.hid hm
  have HNP := Lib.hid hnp
  clear hK hB hm hnp
  go_enter Tryz.func93, Tryz.ntmps93
  go_wp2_with (go_at_call 112; refine (bs_build b ob c m np _ HM.out HNP.out (HB.out.cell 4) HK.out).mono ?_; rintro e w1 ⟨q, rfl, ht, hb⟩; have HT := Lib.hid ht; have HW := Lib.hid hb; have HB1 := Lib.hid (HB.out.below hb HB.out.lt); have c3 := HB1.out.cell 3; have c4 := HB1.out.cell 4; have f3 := HB1.out.free 3; have f4 := HB1.out.free 4; simp only [List.getElem?_toArray, List.getElem?_cons_zero, List.getElem?_cons_succ] at c3 c4; clear ht hb)
  first | go_end0 | refine bodyPost_ret (results_none rfl _ _ _) rfl ?_
  have hb1 := HB1.out
  refine ⟨rfl, q, ⟨_, (hb1.set 3 _).set 4 _⟩, HT.out.keep hb1 (fun j h1 h2 => (Below.heap_setCell _ _ _ _ h2).trans (Below.heap_setCell _ _ _ _ h2)), ?_⟩
  exact ((But.of_below HW.out).setCell 3 _).setCell 4 _
end Go.Proofs.YtkjgnkmnngaioaaGreat.Q
namespace Go.Proofs.YtkjgnkmnngaioaaGreat.Q
open Go.RowKit Go.IntWalk Go.Proofs.YtkjgnkmnngaioaaGreat.Mem
set_option linter.unusedVariables false
set_option linter.unusedSimpArgs false
set_option maxRecDepth 100000 in
set_option maxHeartbeats 1600000 in
theorem count_calls (s : ByteArray) (c : UInt8) (w : World) :
    Calls Tryz.prog 194 #[.string s, .string ⟨#[c]⟩] w fun e w' => e = .returned (.int .i64 (Lib.countByte s.data.toList c)) ∧ w' = w := by
  go_enter Tryz.func194, Tryz.ntmps194
  go_wp2_with fail
  rw [run_callFunc_extern Tryz.func196 (by kernel_rfl) (by kernel_rfl) (by kernel_rfl) (e := Extern.BytealgCount.count) (by kernel_rfl), Lib.run_countString]
  simp only [Result.andThen]
  rw [Oper.upon_value]
  go_wp2_with fail
  go_ret
  exact ⟨by simp; rfl, rfl⟩
end Go.Proofs.YtkjgnkmnngaioaaGreat.Q
namespace Go.Proofs.YtkjgnkmnngaioaaGreat.Q
set_option linter.unusedVariables false
set_option linter.unusedSimpArgs false
/-- What one byte is replaced by. -/
def sg (np : Nat) (c : UInt8) : List UInt8 := match (List.range np).find? (fun a => oby a == c.toNat) with
  | some a => (ns a).data.toList
  | none => [c]
def signF (np : Nat) (s : List UInt8) : List UInt8 := s.flatMap (sg np)
theorem sg_some {np a : Nat} {c : UInt8} (hnp : np ≤ 4) (ha : a < np) (h : c.toNat = oby a) : sg np c = (ns a).data.toList := by
  unfold sg
  cases hf : (List.range np).find? (fun a => oby a == c.toNat) with
  | none =>
    rw [List.find?_eq_none] at hf
    exact absurd (by simp [h]) (hf a (List.mem_range.2 ha))
  | some a' =>
    have h1 := List.find?_some hf
    have h2 := List.mem_of_find?_eq_some hf
    rw [List.mem_range] at h2
    have h3 : oby a' = oby a := by rw [← h]; simpa using h1
    rw [ob_inj (by omega) (by omega) h3]
theorem sg_none {np : Nat} {c : UInt8} (h : ∀ a, a < np → c.toNat ≠ oby a) : sg np c = [c] := by
  unfold sg
  rw [List.find?_eq_none.2 (fun a ha => by
    rw [List.mem_range] at ha
    have := h a ha
    simp
    exact fun e => this e.symm)]
theorem signF_succ {np i : Nat} {l : List UInt8} (h : i < l.length) : signF np (l.take (i + 1)) = signF np (l.take i) ++ sg np l[i] := by
  unfold signF
  rw [List.take_succ_eq_append_getElem h, List.flatMap_append]
  simp
/-- What the counts of the last `k` bytes add. -/
def wsum (np : Nat) (l : List UInt8) : Nat → Nat
  | 0 => 0
  | k + 1 => wsum np l k + Lib.countByte l (oby (np - 1 - k)).toUInt8 * ((ns (np - 1 - k)).size - 1)
theorem wsum_three (l : List UInt8) : wsum 3 l 3 = Lib.countByte l 62 * 3 + Lib.countByte l 60 * 3 + Lib.countByte l 38 * 4 := by
  show 0 + Lib.countByte l 62 * 3 + Lib.countByte l 60 * 3 + Lib.countByte l 38 * 4 = _
  omega
theorem wsum_four (l : List UInt8) : wsum 4 l 4 = Lib.countByte l 34 * 5 + Lib.countByte l 62 * 3 + Lib.countByte l 60 * 3 + Lib.countByte l 38 * 4 := by
  show 0 + Lib.countByte l 34 * 5 + Lib.countByte l 62 * 3 + Lib.countByte l 60 * 3 + Lib.countByte l 38 * 4 = _
  omega
theorem cb_cons (c x : UInt8) (l : List UInt8) : Lib.countByte (c :: l) x = Lib.countByte l x + if c = x then 1 else 0 := by
  unfold Lib.countByte
  rw [List.count_cons]
  simp
theorem sg_len3 (c : UInt8) : (sg 3 c).length = 1 + (if c = 62 then 3 else 0) + (if c = 60 then 3 else 0) + (if c = 38 then 4 else 0) := by
  by_cases h1 : c = 62
  · subst h1; rfl
  by_cases h2 : c = 60
  · subst h2; rfl
  by_cases h3 : c = 38
  · subst h3; rfl
  rw [sg_none (fun a ha e => by
    have h : a = 0 ∨ a = 1 ∨ a = 2 := by omega
    rcases h with rfl | rfl | rfl
    · exact h3 (UInt8.toNat_inj.1 e)
    · exact h2 (UInt8.toNat_inj.1 e)
    · exact h1 (UInt8.toNat_inj.1 e)), if_neg h1, if_neg h2, if_neg h3]
  rfl
theorem sg_len4 (c : UInt8) : (sg 4 c).length = 1 + (if c = 34 then 5 else 0) + (if c = 62 then 3 else 0) + (if c = 60 then 3 else 0) + (if c = 38 then 4 else 0) := by
  by_cases h0 : c = 34
  · subst h0; rfl
  by_cases h1 : c = 62
  · subst h1; rfl
  by_cases h2 : c = 60
  · subst h2; rfl
  by_cases h3 : c = 38
  · subst h3; rfl
  rw [sg_none (fun a ha e => by
    have h : a = 0 ∨ a = 1 ∨ a = 2 ∨ a = 3 := by omega
    rcases h with rfl | rfl | rfl | rfl
    · exact h3 (UInt8.toNat_inj.1 e)
    · exact h2 (UInt8.toNat_inj.1 e)
    · exact h1 (UInt8.toNat_inj.1 e)
    · exact h0 (UInt8.toNat_inj.1 e)), if_neg h0, if_neg h1, if_neg h2, if_neg h3]
  rfl
theorem signF_len {np : Nat} (h : np = 3 ∨ np = 4) (l : List UInt8) : (signF np l).length = l.length + wsum np l np := by
  induction l with
  | nil => rcases h with rfl | rfl <;> rfl
  | cons c l ih =>
    have e : signF np (c :: l) = sg np c ++ signF np l := by simp [signF]
    rw [e, List.length_append, ih, List.length_cons]
    rcases h with rfl | rfl
    · rw [wsum_three, wsum_three, cb_cons, cb_cons, cb_cons, sg_len3]
      split <;> split <;> split <;> omega
    · rw [wsum_four, wsum_four, cb_cons, cb_cons, cb_cons, cb_cons, sg_len4]
      split <;> split <;> split <;> split <;> omega
theorem sg_one {np : Nat} {c : UInt8} (hnp : np ≤ 4) (h : (sg np c).length = 1) : sg np c = [c] := by
  unfold sg at h ⊢
  cases hf : (List.range np).find? (fun a => oby a == c.toNat) with
  | none => rfl
  | some a =>
    rw [hf] at h
    have h2 := List.mem_of_find?_eq_some hf
    rw [List.mem_range] at h2
    have := (ns_size (a := a) (by omega)).1
    have h3 : (ns a).size = 1 := by simpa using h
    omega
theorem sg_pos {np : Nat} {c : UInt8} (hnp : np ≤ 4) : 1 ≤ (sg np c).length := by
  unfold sg
  cases hf : (List.range np).find? (fun a => oby a == c.toNat) with
  | none => exact Nat.le_refl _
  | some a =>
    have h2 := List.mem_of_find?_eq_some hf
    rw [List.mem_range] at h2
    have := (ns_size (a := a) (by omega)).1
    show 1 ≤ (ns a).data.toList.length
    have h3 : (ns a).data.toList.length = (ns a).size := by simp
    omega
theorem signF_ge {np : Nat} (hnp : np ≤ 4) (l : List UInt8) : l.length ≤ (signF np l).length := by
  induction l with
  | nil => exact Nat.le_refl _
  | cons c l ih =>
    have e : signF np (c :: l) = sg np c ++ signF np l := by simp [signF]
    have := sg_pos (c := c) hnp
    rw [e, List.length_append, List.length_cons]
    omega
theorem signF_same {np : Nat} (hnp : np ≤ 4) (l : List UInt8) (h : (signF np l).length = l.length) : signF np l = l := by
  induction l with
  | nil => rfl
  | cons c l ih =>
    have e : signF np (c :: l) = sg np c ++ signF np l := by simp [signF]
    have h1 := sg_pos (c := c) hnp
    have h2 := signF_ge hnp l
    rw [e, List.length_append, List.length_cons] at h
    rw [e, sg_one hnp (by omega), ih (by omega)]
    rfl
end Go.Proofs.YtkjgnkmnngaioaaGreat.Q
namespace Go.Proofs.YtkjgnkmnngaioaaGreat.Q
open Go.RowKit Go.IntWalk Go.Proofs.YtkjgnkmnngaioaaGreat.Mem
set_option linter.unusedVariables false
set_option linter.unusedSimpArgs false
theorem bs_or {q base np : Nat} {f : Nat → Value} {tr : Value} {W : World} (HS : BsS q base np np f tr W) (c : UInt8) :
    (∃ a, a < np ∧ c.toNat = oby a ∧ Rp W (f c.toNat) (ns a)) ∨ ((∀ a, a < np → c.toNat ≠ oby a) ∧ f c.toNat = nlb) := by
  by_cases h : ∃ a, a < np ∧ c.toNat = oby a
  · obtain ⟨a, h1, h2⟩ := h
    exact .inl ⟨a, h1, h2, by rw [h2]; exact HS.done a h1 (by omega)⟩
  · have h' : ∀ a, a < np → c.toNat ≠ oby a := fun a h1 h2 => h ⟨a, h1, h2⟩
    exact .inr ⟨h', HS.rest _ c.toNat_lt (fun a h1 _ => h' a h1)⟩
theorem take_set (l : List Value) (j : Nat) (v : Value) (h : j < l.length) : (l.set j v).take (j + 1) = l.take j ++ [v] := by
  rw [List.take_succ_eq_append_getElem (by simpa using h)]
  congr 1
  · rw [List.take_set, List.set_eq_of_length_le (by simp; omega)]
  · simp
def by8 (l : List UInt8) : List Value := l.map fun b => Value.int .u8 b.toNat
theorem signF_le {np : Nat} (l : List UInt8) (i : Nat) : (signF np (l.take i)).length ≤ (signF np l).length := by
  conv => rhs; rw [← List.take_append_drop i l]
  unfold signF
  rw [List.flatMap_append, List.length_append]
  omega
/-- Ahead of a piece that is copied, and behind it. -/
def CpC (q g : Nat) (S cur cur' : Array Value) (w0 : World) : Nat → World → Prop
  | 0, y => Blk y g cur 5 ∧ Blk y q S 179 ∧ Below w0.heap.size w0 y
  | _, y => Blk y g cur' 5 ∧ Blk y q S 179 ∧ Below w0.heap.size w0 y
theorem CpC.q {q g i : Nat} {S cur cur' : Array Value} {w0 y : World} (h : CpC q g S cur cur' w0 i y) : Blk y q S 179 := by
  cases i with
  | zero => exact h.2.1
  | succ i => exact h.2.1
set_option maxRecDepth 100000 in
set_option maxHeartbeats 1600000 in
theorem bsr_calls (q base np : Nat) (s : ByteArray) (w : World) (hnp : np = 3 ∨ np = 4) (hB : Bs q base np w) (hs : s.size ≤ 600000) :
    Calls Tryz.prog 192 #[.pointer (some ⟨q, 0, none⟩), .string s] w fun e w' => e = .returned (.string ⟨(signF np s.data.toList).toArray⟩) ∧ Below w.heap.size w w' := by
  obtain ⟨f, tr, hS⟩ := hB
  have HS := Lib.hid hS
  have HNP := Lib.hid hnp
  obtain ⟨A0, c0, htr⟩ := own_sl hS.own
  subst htr
  have l1 : w.cell? ⟨q, 256, none⟩ = some (.slice A0 np c0) := by rw [hS.blk.cell]; exact bsb_tr
  have hq : ∀ (w : World) (a : Option Addr) (n c : Nat), (binOp .neq 72 (.slice a n c) (.slice none 0 0)).run Tryz.prog w = .ok (.bool (!a.isNone)) w := fun w a n c => run_neq_slice_nil w 72 5 a n c Tryz.underlying72
  clear hS hnp
  by_cases hw : 8 * np ≤ s.size
  · have u1 : (np : Int) * 8 ≤ (s.size : Int) := by omega
    have u2 : (np : Int) * 8 ≤ 32 := by have := HNP.out; omega
    have u3 : 0 ≤ (np : Int) * 8 := by omega
    have u4 : (s.size : Int) ≤ 600000 := by omega
    have hrow : ∃ g0, A0 = some ⟨g0, 0, none⟩ := by
      rcases HS.out.own.2 with ⟨h, h'⟩ | ⟨g, cap, cur, h, -⟩
      · have := HNP.out; omega
      · cases h; exact ⟨g, rfl⟩
    obtain ⟨g0, rfl⟩ := hrow
    go_enter Tryz.func192, Tryz.ntmps192
    go_wp2_with fail
    clear u1 u2 u3
    go_loopw [5, 6, 32] (fun nv bv iv wr => ∃ (k n : Nat) (ch : Bool), k ≤ np ∧ nv = .int .i64 (n : Int) ∧ bv = .bool ch ∧ iv = .int .i64 (k : Int) ∧ Hid (BsS q base np np f (.slice (some ⟨g0, 0, none⟩) np c0) wr ∧ Below w.heap.size w wr) ∧ Hid (n = s.size + wsum np s.data.toList k) ∧ Hid (n ≤ s.size + 3000000 * k) ∧ Hid (ch = false → wsum np s.data.toList k = 0)) (fun _ _ iv _ => np - (intOf iv).toNat)
    case atStart => exact ⟨0, s.size, false, by omega, rfl, rfl, rfl, Lib.hid ⟨HS.out, Below.refl _ _⟩, Lib.hid rfl, Lib.hid (by omega), Lib.hid (fun _ => rfl)⟩
    case round =>
      obtain ⟨k, n, ch, hk, rfl, rfl, rfl, HWR, HN, HN6, HCH⟩ := hrel
      clear HS l1
      obtain ⟨w0, rfl⟩ : ∃ w0 : World, w0 = w := ⟨_, rfl⟩
      obtain ⟨w, rfl⟩ : ∃ w : World, w = wr := ⟨_, rfl⟩
      have HS := Lib.hid HWR.out.1
      have HBB := Lib.hid HWR.out.2
      clear HWR
      by_cases hlt : k < np
      · have v1 : (k : Int) < (np : Int) := by omega
        have v2 : (0 : Int) ≤ (k : Int) := by omega
        have hnp4 : np ≤ 4 := by have := HNP.out; omega
        obtain ⟨a, ha⟩ : ∃ a, a = np - 1 - k := ⟨_, rfl⟩
        have ha4 : a < 4 := by omega
        obtain ⟨c, hc, hc1⟩ : ∃ c : UInt8, os a = ⟨#[c]⟩ ∧ c = (oby a).toUInt8 ∧ c.toNat = oby a := by
          have h : a = 0 ∨ a = 1 ∨ a = 2 ∨ a = 3 := by omega
          rcases h with rfl | rfl | rfl | rfl <;> exact ⟨_, rfl, rfl, rfl⟩
        have l2 : w.cell? ⟨g0, k, none⟩ = some (.string ⟨#[c]⟩) := by
          have h := HS.out.own.cells (g := g0) rfl k (.string (os a)) (by rw [List.getElem?_map, List.getElem?_range hlt, ha]; rfl)
          rw [hc] at h
          have e : (⟨g0, 0, none⟩ : Addr).add k = ⟨g0, k, none⟩ := by unfold Addr.add; split <;> simp_all
          rw [e] at h
          exact h
        obtain ⟨g2, cap, cur, fz, h3, h4, h5⟩ := HS.out.done a (by omega) (by omega)
        have l3 : w.cell? ⟨q, oby a, none⟩ = some (.slice (some ⟨g2, 0, none⟩) (ns a).size cap) := by rw [HS.out.blk.cell, bsb_at (ob_lt ha4), h3]
        rw [← hc1.2] at l3
        obtain ⟨ct, hct⟩ : ∃ ct, ct = Lib.countByte s.data.toList c := ⟨_, rfl⟩
        have hcl : ct ≤ s.size := by rw [hct]; unfold Lib.countByte; have := List.count_le_length (a := c) (l := s.data.toList); simpa using this
        have hns := ns_size ha4
        have hmul : ct * ((ns a).size - 1) ≤ 3000000 := Nat.le_trans (Nat.mul_le_mul hcl (show (ns a).size - 1 ≤ 5 by omega)) (by omega)
        have HCO := Lib.hid (show wsum np s.data.toList (k + 1) = wsum np s.data.toList k + ct * ((ns a).size - 1) from by rw [hct, hc1.1, ha]; rfl)
        have hcc : Calls Tryz.prog 194 #[.string s, .string ⟨#[c]⟩] w fun e w' => e = .returned (.int .i64 (ct : Int)) ∧ w' = w := by rw [hct]; exact count_calls s c w
        have HCC := Lib.hid hcc
        obtain ⟨mz, hmz⟩ : ∃ mz, (ns a).size = mz + 1 := ⟨(ns a).size - 1, by omega⟩
        rw [hmz] at l3 hmul
        have HMZ := Lib.hid hmz
        have v5 : ((c.toNat : Nat) : Int) < 256 := by have := c.toNat_lt; omega
        have hN := HN6.out
        have v6 : (n : Int) ≤ 12600000 := by omega
        have v7 : (0 : Int) ≤ (n : Int) := by omega
        have hm2 : ct * mz ≤ 3000000 := by simpa using hmul
        have v8 : (ct : Int) * (mz : Int) ≤ 3000000 := by rw [← Int.natCast_mul]; omega
        have v9 : (0 : Int) ≤ (ct : Int) * (mz : Int) := by rw [← Int.natCast_mul]; omega
        clear hm2 hct hcl hns hmul hcc hmz ha hc hc1 h3 h4 h5 hN
        by_cases hz : ct = 0
        · subst hz
          go_wp2_with (go_at_call 194; refine HCC.out.mono ?_; rintro e w1 ⟨rfl, rfl⟩)
          go_roundw
          case rel => exact ⟨k + 1, n, ch, by omega, rfl, rfl, rfl, Lib.hid ⟨HS.out, HBB.out⟩, Lib.hid (by have h := HCO.out; have h1 := HN.out; rw [HMZ.out] at h; simp at h; omega), Lib.hid (by have := HN6.out; omega), Lib.hid (fun e => by have h := HCO.out; have h1 := HCH.out e; simp at h; omega)⟩
          case measure => simp [intOf]; omega
        · have z1 : ((ct : Int) != 0) = true := by simp; omega
          have hcz : ∀ p : 0 < (⟨#[c]⟩ : ByteArray).size, ((⟨#[c]⟩ : ByteArray)[0]'p) = c := fun _ => rfl
          go_wp2_with (go_at_call 194; refine HCC.out.mono ?_; rintro e w1 ⟨rfl, rfl⟩)
          go_still (by kernel_rfl)
          go_wp2_with fail
          have hm2 : ct * mz ≤ 3000000 := by have := v8; rw [← Int.natCast_mul] at this; omega
          have hmz5 : mz ≤ 5 := by have := HMZ.out; have := ns_size ha4; omega
          have hw8 : Value.int .i64 (IntKind.i64.wrap ((n : Int) + IntKind.i64.wrap ((ct : Int) * IntKind.i64.wrap (mz : Int)))) = .int .i64 ((n + ct * mz : Nat) : Int) := by
            rw [IntWalk.i64_in (mz : Int) ⟨by omega, by omega⟩, IntWalk.i64_in ((ct : Int) * (mz : Int)) ⟨by omega, by omega⟩, IntWalk.i64_in _ ⟨by omega, by omega⟩, Int.natCast_add, Int.natCast_mul]
          go_roundw
          case rel => exact ⟨k + 1, n + ct * mz, true, by omega, by first | exact hw8 | (congr 1; rw [← Int.natCast_mul]; omega), rfl, rfl, Lib.hid ⟨⟨HS.out.blk, HS.out.own, HS.out.done, HS.out.rest, HS.out.ge⟩, HBB.out.trans ⟨rfl, rfl, rfl, Nat.le_refl _, fun _ _ => rfl⟩⟩, Lib.hid (by have h := HCO.out; have h1 := HN.out; rw [HMZ.out] at h; simp at h; omega), Lib.hid (by have := HN6.out; omega), Lib.hid (fun e => by cases e)⟩
          case measure => simp [intOf]; omega
      · have v1 : ¬ (k : Int) < (np : Int) := by omega
        have hk' : k = np := by omega
        have hsl := signF_len HNP.out s.data.toList
        have hln : s.data.toList.length = s.size := by simp
        have h1 := HN.out
        rw [hk'] at h1
        have HN' := Lib.hid (show n = (signF np s.data.toList).length by omega)
        have hCH := HCH.out
        rw [hk'] at hCH
        have HCH' := Lib.hid (show ch = false → signF np s.data.toList = s.data.toList from fun e => signF_same (by have := HNP.out; omega) _ (by have := hCH e; omega))
        have hn6 : n ≤ 12600000 := by have := HN6.out; have := HNP.out; omega
        clear hsl hln h1 hCH HN HCH HN6
        cases ch with
        | false =>
          have HSG := Lib.hid (HCH'.out rfl)
          clear HCH'
          go_wp2_with fail
          refine bodyPost_ret (v := .string s) (by simp [results, Tryz.results192, go_sem]) rfl ⟨by rw [HSG.out], HBB.out⟩
        | true =>
          clear HCH'
          obtain ⟨i0, hi0, hzz⟩ : ∃ i0, Tryz.prog.info? 5 = some i0 ∧ (i0.zero, i0.size, i0.bytes) = (some (.int .u8 0), 1, 1) := Option.map_eq_some_iff.1 (show (Tryz.prog.info? 5).map (fun i => (i.zero, i.size, i.bytes)) = some (some (.int .u8 0), 1, 1) by kernel_rfl)
          simp only [Prod.mk.injEq] at hzz
          obtain ⟨hz0, hz1, hz2⟩ := hzz
          have hrun := run_make (P := Tryz.prog) w 72 5 i0 (.int .u8 0) Tryz.underlying72 hi0 hz0 .i64 .i64 (n : Int) (n : Int) (by omega) (by omega) (by rw [hz2]; omega) (by omega)
          rw [hz1, Nat.mul_one] at hrun
          simp only [Int.toNat_natCast] at hrun
          clear hi0 hz0 hz1 hz2
          go_wp2_with fail
          clear hrun
          obtain ⟨g, hg⟩ : ∃ g, g = w.heap.size := ⟨_, rfl⟩
          have HB0 := Lib.hid (show Blk (w.alloc (.cells (madeCells (Value.int .u8 0).cells n) 5)) g (madeCells (Value.int .u8 0).cells n) 5 from Blk.alloc_at _ _ _ hg)
          have HW0 := Lib.hid (show Below w.heap.size w (w.alloc (.cells (madeCells (Value.int .u8 0).cells n) 5)) from (Below.refl _ _).alloc (Nat.le_refl _) _)
          have HG := Lib.hid hg
          rw [← hg]
          clear hg
          go_loopw [13, 14] (fun jv iv wr => ∃ (i j : Nat) (cur : Array Value), i ≤ s.size ∧ jv = .int .i64 (j : Int) ∧ iv = .int .i64 (i : Int) ∧ Hid (j = (signF np (s.data.toList.take i)).length) ∧ Hid (Blk wr g cur 5) ∧ Hid (cur.size = n) ∧ Hid (cur.toList.take j = by8 (signF np (s.data.toList.take i))) ∧ Hid (Below w.heap.size w wr)) (fun _ iv _ => s.size - (intOf iv).toNat)
          case atStart => exact ⟨0, 0, _, by omega, rfl, rfl, Lib.hid rfl, HB0, Lib.hid (size_madeCells _ _), Lib.hid rfl, HW0⟩
          case round =>
            clear HB0 HW0
            obtain ⟨i, j, cur, hi, rfl, rfl, HJ, HB, HC, HT, HW⟩ := hrel
            by_cases hlt : i < s.size
            · have v1 : (i : Int) < (s.size : Int) := by omega
              have v2 : (0 : Int) ≤ (i : Int) := by omega
              have HSU := Lib.hid (show signF np (s.data.toList.take (i + 1)) = _ from signF_succ (by simpa using hlt))
              have HLE := Lib.hid (signF_le (np := np) s.data.toList (i + 1))
              have hq2 : q < w.heap.size := HS.out.blk.lt
              have l0 : wr.cell? ⟨q, (s[i]'hlt).toNat, none⟩ = some (f (s[i]'hlt).toNat) := by rw [(HS.out.blk.below HW.out hq2).cell]; exact bsb_at (s[i]'hlt).toNat_lt
              have v5 : (((s[i]'hlt).toNat : Nat) : Int) < 256 := by have := (s[i]'hlt).toNat_lt; omega
              have v6 : (j : Int) ≤ 12600000 := by have := HJ.out; have := HN'.out; have := signF_le (np := np) s.data.toList i; omega
              have v7 : (0 : Int) ≤ (j : Int) := by omega
              rcases bs_or HS.out (s[i]'hlt) with ⟨a, h1, h2, g2, cap, cur2, fz, h3, h4, h5⟩ | ⟨h1, h2⟩
              · have HL0 := Lib.hid h3
                rw [h3] at l0
                have HSG := Lib.hid (show sg np (s[i]'hlt) = _ from sg_some (by have := HNP.out; omega) h1 h2)
                have hns := ns_size (a := a) (by have := HNP.out; omega)
                have HP4 := Lib.hid h4
                have HP5 := Lib.hid h5
                have v8 : (j : Int) ≤ (n : Int) := by have := HJ.out; have := HN'.out; have := signF_le (np := np) s.data.toList i; omega
                clear h1 h2 h3 h4 h5
                have hbl : (by8 (ns a).data.toList).length = (ns a).size := by simp [by8]
                have hjn : j + (ns a).size ≤ n := by
                  have h1 := HLE.out
                  rw [HSU.out, List.length_append, show sg np s.data.toList[i] = (ns a).data.toList from HSG.out] at h1
                  have h2 := HJ.out
                  have h3 := HN'.out
                  simp at h1
                  omega
                have hnj : ¬ n = j := by omega
                have HNS := Lib.hid hns
                have HJN := Lib.hid hjn
                have HBL := Lib.hid hbl
                obtain ⟨cur', hcur⟩ : ∃ c', c' = (cur.toList.take j ++ by8 (ns a).data.toList ++ cur.toList.drop (j + (by8 (ns a).data.toList).length)).toArray := ⟨_, rfl⟩
                have HCUR := Lib.hid hcur
                clear hns hjn hbl hcur
                have v9 : (((ns a).size : Nat) : Int) ≤ 6 := by have := HNS.out; omega
                have v10 : (0 : Int) ≤ (((ns a).size : Nat) : Int) := by omega
                go_upto_region 28 with (fail)
                have hC0 : CpC q g (BSB f (.slice (some ⟨g0, 0, none⟩) np c0)) cur cur' w 0 wr.drew := ⟨HB.out.drew, (HS.out.blk.below HW.out HS.out.blk.lt).drew, HW.out.trans ⟨rfl, rfl, rfl, Nat.le_refl _, fun _ _ => rfl⟩⟩
                have ne : Nonempty (Mix.Wd (CpC q g (BSB f (.slice (some ⟨g0, 0, none⟩) np c0)) cur cur' w) 0) := ⟨⟨wr.drew, 0, Nat.le_refl _, hC0⟩⟩
                have lx : ∀ x : Mix.Wd (CpC q g (BSB f (.slice (some ⟨g0, 0, none⟩) np c0)) cur cur' w) 0, x.1.cell? ⟨q, (s[i]'hlt).toNat, none⟩ = some (.slice (some ⟨g2, 0, none⟩) (ns a).size cap) := fun x => by
                  obtain ⟨k, _, hk⟩ := x.2
                  rw [hk.q.cell, bsb_at (s[i]'hlt).toNat_lt, HL0.out]
                refine Mix.wp_region_mix (C := CpC q g (BSB f (.slice (some ⟨g0, 0, none⟩) np c0)) cur cur' w) [10] (by kernel_rfl) (by kernel_rfl) hC0 ?_
                iterate 10 (refine Mix.mix_still (by decide) (fun K hK => ?_); go_simp; refine hK _ ?_; clear hK K)
                refine Mix.mix_turn (by decide) (fun K hK => ?_)
                go_simp
                refine ⟨.int .i64 ((ns a).size : Nat), fun yw hy => ?_, hK _ ?_⟩
                · have hcp := run_copy_row (P := Tryz.prog) yw 72 72 3 5 g j (n - j) (n - j) ⟨g2, 0, none⟩ (ns a).size cap cur 5 (by8 (ns a).data.toList) Tryz.underlying72 (by kernel_rfl) hy.1 (by rw [HBL.out]; show (ns a).size = min (ns a).size (n - j); have := HJN.out; omega) (fun k v hk => by
                    have e : (⟨g2, 0, none⟩ : Addr).add k = ⟨g2, k, none⟩ := by unfold Addr.add; split <;> simp_all
                    rw [e]
                    have hk' : k < (ns a).size := by
                      have := (List.getElem?_eq_some_iff.1 hk).1
                      rw [HBL.out] at this; exact this
                    have h1 := HP5.out k hk'
                    have h2 : g2 < w.heap.size := by
                      rcases Nat.lt_or_ge g2 w.heap.size with h | h
                      · exact h
                      · have := HP4.out
                        rw [Array.getElem?_eq_none h] at this; cases this
                    have h3 : yw.heap[g2]? = some (.cells cur2 5 fz) := (hy.2.2.block g2 h2).trans HP4.out
                    have h4 : yw.cell? ⟨g2, k, none⟩ = cur2[k]? := by simp [World.cell?, h3]
                    rw [h4, h1, ← hk]
                    unfold by8
                    rw [List.getElem?_map, List.getElem?_eq_getElem (by simpa using hk')]
                    rfl) (by rw [HBL.out, HC.out]; exact HJN.out) (fun v hv => by
                    unfold by8 at hv
                    rw [List.mem_map] at hv
                    obtain ⟨_, _, rfl⟩ := hv
                    rfl)
                  rw [hcp, HBL.out, ← HBL.out, ← HCUR.out]
                  refine ⟨by first | rfl | (rw [HBL.out]; rfl), setRow_heap yw g cur cur' 5 (0, 0) hy.1, hy.2.1.of_block (setRow_other _ _ _ _ (by have := HG.out; have := HS.out.blk.lt; omega)), hy.2.2.trans ⟨rfl, rfl, rfl, by simp [World.setRow], fun k hk => setRow_other _ _ _ _ (by have := HG.out; omega)⟩⟩
                clear hK K
                iterate 2 (refine Mix.mix_still (by decide) (fun K hK => ?_); go_simp; refine hK _ ?_; clear hK K)
                refine Mix.mix_nil ?_
                intro w6 hw6
                have HB6 := Lib.hid hw6.1
                have HW6 := Lib.hid hw6.2.2
                clear hw6 ne hC0 lx l0 HB HW
                show Exit.inBlock _ _ _ _ w6
                go_wp2_with fail
                go_roundw
                case rel =>
                  have hsz := HC.out
                  have hjn := HJN.out
                  have hbl := HBL.out
                  have hA : (cur.toList.take j).length = j := by simp; omega
                  have hww : IntKind.i64.wrap ((j : Int) + (((ns a).size : Nat) : Int)) = ((j + (ns a).size : Nat) : Int) := by rw [IntKind.wrap_i64]; omega
                  refine ⟨i + 1, j + (ns a).size, cur', by omega, by rw [hww], rfl, Lib.hid ?_, HB6, Lib.hid ?_, Lib.hid ?_, HW6⟩
                  · rw [HSU.out, show sg np s.data.toList[i] = (ns a).data.toList from HSG.out, List.length_append, ← HJ.out]
                    simp
                  · rw [HCUR.out, List.size_toArray, List.length_append, List.length_append, hA, hbl, List.length_drop]
                    simp
                    omega
                  · rw [HSU.out, show sg np s.data.toList[i] = (ns a).data.toList from HSG.out, HCUR.out]
                    show List.take (j + (ns a).size) (cur.toList.take j ++ by8 (ns a).data.toList ++ _) = _
                    rw [List.take_left' (by rw [List.length_append, hA, hbl]), HT.out]
                    unfold by8
                    rw [List.map_append]
                case measure => simp [intOf]; omega
              · rw [h2] at l0
                have HSG := Lib.hid (show sg np (s[i]'hlt) = _ from sg_none h1)
                have hjn : j < n := by
                  have h1 := HLE.out
                  have h2 := HJ.out
                  have h3 := HN'.out
                  rw [HSU.out, List.length_append, show sg np s.data.toList[i] = [s[i]] from HSG.out] at h1
                  simp at h1
                  omega
                have v8 : (j : Int) < (n : Int) := by omega
                have d0 : wr.cell? ⟨g, j, none⟩ = some (cur[j]'(by have := HC.out; omega)) := by rw [HB.out.cell]; simp
                have d1 := HB.out.free j
                clear h1 h2 hq2
                go_wp2_with fail
                go_roundw
                case rel =>
                  refine ⟨i + 1, j + 1, cur.setIfInBounds j (.int .u8 ((s[i]'hlt).toNat : Int)), by omega, rfl, rfl, Lib.hid ?_, Lib.hid (HB.out.set _ _), Lib.hid (by rw [Array.size_setIfInBounds]; exact HC.out), Lib.hid ?_, Lib.hid (HW.out.trans ⟨rfl, rfl, rfl, by simp [World.setCell], fun k hk => Below.heap_setCell _ _ _ _ (by show k ≠ g; have := HG.out; omega)⟩)⟩
                  · rw [HSU.out, show sg np s.data.toList[i] = [s[i]] from HSG.out, List.length_append, ← HJ.out]; rfl
                  · rw [HSU.out, show sg np s.data.toList[i] = [s[i]] from HSG.out, Array.toList_setIfInBounds, take_set _ _ _ (by have := HC.out; simp; omega), HT.out]
                    unfold by8
                    rw [List.map_append]
                    rfl
                case measure => simp [intOf]; omega
            · have v1 : ¬ (i : Int) < (s.size : Int) := by omega
              have hi'' : i = s.size := by omega
              have htk : s.data.toList.take i = s.data.toList := by rw [hi'']; exact List.take_of_length_le (by simp)
              have hJ := HJ.out
              have hT := HT.out
              rw [htk] at hJ hT
              have hjn : j = n := by rw [hJ]; exact HN'.out.symm
              have hcv := run_convert_bytes_back (P := Tryz.prog) wr 72 9 5 ⟨g, 0, none⟩ n (signF np s.data.toList) Tryz.underlying72 Tryz.underlying5 Tryz.underlying9 (fun k hk => by
                have e : (⟨g, 0, none⟩ : Addr).add k = ⟨g, k, none⟩ := by unfold Addr.add; split <;> simp_all
                rw [e, HB.out.cell]
                have h1 : (cur.toList.take j)[k]? = some (.int .u8 ((signF np s.data.toList)[k].toNat : Int)) := by rw [hT]; unfold by8; rw [List.getElem?_map, List.getElem?_eq_getElem hk]; rfl
                rw [List.getElem?_take_of_lt (by omega)] at h1
                simpa using h1)
              rw [← HN'.out] at hcv
              clear hJ hT htk hjn
              go_wp2_with fail
              refine bodyPost_ret (v := .string ⟨(signF np s.data.toList).toArray⟩) (by simp [results, Tryz.results192, go_sem]) rfl ⟨rfl, HBB.out.trans (HW.out.mono HBB.out.size)⟩
  · have u1 : (np : Int) * 8 ≤ (s.size : Int) ↔ False := by simp; omega
    have u2 : (np : Int) * 8 ≤ 32 := by have := HNP.out; omega
    have u3 : 0 ≤ (np : Int) * 8 := by omega
    have u4 : (s.size : Int) ≤ 600000 := by omega
    have HU := Lib.hid (And.intro u1 (And.intro u2 u3))
    go_enter Tryz.func192, Tryz.ntmps192
    go_wp2_with fail
    clear u1 u2 u3
    go_loopw [5, 6, 10] (fun nv bv iv wr => ∃ (i n : Nat) (ch : Bool), i ≤ s.size ∧ nv = .int .i64 (n : Int) ∧ bv = .bool ch ∧ iv = .int .i64 (i : Int) ∧ Hid (wr = w) ∧ Hid (n = (signF np (s.data.toList.take i)).length + (s.size - i)) ∧ Hid (n ≤ s.size + 5 * i) ∧ Hid (ch = false → signF np (s.data.toList.take i) = s.data.toList.take i)) (fun _ _ iv _ => s.size - (intOf iv).toNat)
    case atStart => exact ⟨0, s.size, false, by omega, rfl, rfl, rfl, by first | exact Lib.hid rfl | exact Lib.hid trivial, Lib.hid (by simp [signF]), Lib.hid (by omega), Lib.hid (fun _ => rfl)⟩
    case round =>
      obtain ⟨i, n, ch, hi, rfl, rfl, rfl, HWR, HN, HN6, HCH⟩ := hrel
      obtain rfl : w = wr := HWR.out.symm
      clear HWR
      by_cases hlt : i < s.size
      · have v1 : (i : Int) < (s.size : Int) := by omega
        have v2 : (0 : Int) ≤ (i : Int) := by omega
        have v3 : (n : Int) ≤ 3600000 := by have := HN6.out; omega
        have v4 : (0 : Int) ≤ (n : Int) := by omega
        have l0 : w.cell? ⟨q, (s[i]'hlt).toNat, none⟩ = some (f (s[i]'hlt).toNat) := by rw [HS.out.blk.cell]; exact bsb_at (s[i]'hlt).toNat_lt
        have v5 : (((s[i]'hlt).toNat : Nat) : Int) < 256 := by have := (s[i]'hlt).toNat_lt; omega
        have HSU := Lib.hid (show signF np (s.data.toList.take (i + 1)) = _ from signF_succ (by simpa using hlt))
        rcases bs_or HS.out (s[i]'hlt) with ⟨a, h1, h2, g, cap, cur, fz, h3, h4, h5⟩ | ⟨h1, h2⟩
        · rw [h3] at l0
          have HSG := Lib.hid (show sg np (s[i]'hlt) = _ from sg_some (by have := HNP.out; omega) h1 h2)
          have hns := ns_size (a := a) (by have := HNP.out; omega)
          have v6 : 4 ≤ (((ns a).size : Nat) : Int) := by omega
          have v7 : (((ns a).size : Nat) : Int) ≤ 6 := by omega
          clear h1 h2 h3 h4 h5 hns
          go_wp2_with fail
          go_roundw
          case rel =>
            refine ⟨i + 1, n + (ns a).size - 1, true, by omega, by congr 1; omega, rfl, rfl, by first | exact Lib.hid rfl | exact Lib.hid trivial, Lib.hid ?_, Lib.hid ?_, Lib.hid (fun e => by cases e)⟩
            · have h1 := HSU.out
              have h2 : sg np s.data.toList[i] = (ns a).data.toList := HSG.out
              have h3 := HN.out
              rw [h1, h2, List.length_append]
              have h4 : (ns a).data.toList.length = (ns a).size := by simp
              omega
            · have := HN6.out; omega
          case measure => simp [intOf]; omega
        · rw [h2] at l0
          have HSG := Lib.hid (show sg np (s[i]'hlt) = _ from sg_none h1)
          clear h1 h2
          go_wp2_with fail
          go_roundw
          case rel =>
            refine ⟨i + 1, n, ch, by omega, rfl, rfl, rfl, by first | exact Lib.hid rfl | exact Lib.hid trivial, Lib.hid ?_, Lib.hid ?_, Lib.hid (fun e => ?_)⟩
            · have h1 := HSU.out
              have h2 : sg np s.data.toList[i] = [s[i]] := HSG.out
              have h3 := HN.out
              rw [h1, h2, List.length_append]
              simp
              omega
            · have := HN6.out; omega
            · have h1 := HSU.out
              have h2 : sg np s.data.toList[i] = [s[i]] := HSG.out
              rw [h1, h2, HCH.out e, List.take_succ_eq_append_getElem (by simpa using hlt)]
              rfl
          case measure => simp [intOf]; omega
      · have v1 : ¬ (i : Int) < (s.size : Int) := by omega
        have hi' : i = s.size := by omega
        have htk : s.data.toList.take i = s.data.toList := by rw [hi']; exact List.take_of_length_le (by simp)
        have hN := HN.out
        have hCH := HCH.out
        rw [htk] at hN hCH
        have HN' := Lib.hid (show n = (signF np s.data.toList).length by omega)
        have HCH' := Lib.hid hCH
        have hn6 : n ≤ 3600000 := by have := HN6.out; omega
        clear hN hCH HN HCH htk HN6
        cases ch with
        | false =>
          have HSG := Lib.hid (HCH'.out rfl)
          clear HCH'
          go_wp2_with fail
          refine bodyPost_ret (v := .string s) (by simp [results, Tryz.results192, go_sem]) rfl ⟨by rw [HSG.out], Below.refl _ _⟩
        | true =>
          clear HCH'
          obtain ⟨i0, hi0, hzz⟩ : ∃ i0, Tryz.prog.info? 5 = some i0 ∧ (i0.zero, i0.size, i0.bytes) = (some (.int .u8 0), 1, 1) := Option.map_eq_some_iff.1 (show (Tryz.prog.info? 5).map (fun i => (i.zero, i.size, i.bytes)) = some (some (.int .u8 0), 1, 1) by kernel_rfl)
          simp only [Prod.mk.injEq] at hzz
          obtain ⟨hz0, hz1, hz2⟩ := hzz
          have hrun := run_make (P := Tryz.prog) w 72 5 i0 (.int .u8 0) Tryz.underlying72 hi0 hz0 .i64 .i64 (n : Int) (n : Int) (by omega) (by omega) (by rw [hz2]; omega) (by omega)
          rw [hz1, Nat.mul_one] at hrun
          simp only [Int.toNat_natCast] at hrun
          clear hi0 hz0 hz1 hz2
          go_wp2_with fail
          clear hrun
          obtain ⟨g, hg⟩ : ∃ g, g = w.heap.size := ⟨_, rfl⟩
          have HB0 := Lib.hid (show Blk (w.alloc (.cells (madeCells (Value.int .u8 0).cells n) 5)) g (madeCells (Value.int .u8 0).cells n) 5 from Blk.alloc_at _ _ _ hg)
          have HW0 := Lib.hid (show Below w.heap.size w (w.alloc (.cells (madeCells (Value.int .u8 0).cells n) 5)) from (Below.refl _ _).alloc (Nat.le_refl _) _)
          have HG := Lib.hid hg
          rw [← hg]
          clear hg
          go_loopw [13, 14] (fun jv iv wr => ∃ (i j : Nat) (cur : Array Value), i ≤ s.size ∧ jv = .int .i64 (j : Int) ∧ iv = .int .i64 (i : Int) ∧ Hid (j = (signF np (s.data.toList.take i)).length) ∧ Hid (Blk wr g cur 5) ∧ Hid (cur.size = n) ∧ Hid (cur.toList.take j = by8 (signF np (s.data.toList.take i))) ∧ Hid (Below w.heap.size w wr)) (fun _ iv _ => s.size - (intOf iv).toNat)
          case atStart => exact ⟨0, 0, _, by omega, rfl, rfl, Lib.hid rfl, HB0, Lib.hid (size_madeCells _ _), Lib.hid rfl, HW0⟩
          case round =>
            clear HB0 HW0
            obtain ⟨i, j, cur, hi, rfl, rfl, HJ, HB, HC, HT, HW⟩ := hrel
            by_cases hlt : i < s.size
            · have v1 : (i : Int) < (s.size : Int) := by omega
              have v2 : (0 : Int) ≤ (i : Int) := by omega
              have HSU := Lib.hid (show signF np (s.data.toList.take (i + 1)) = _ from signF_succ (by simpa using hlt))
              have HLE := Lib.hid (signF_le (np := np) s.data.toList (i + 1))
              have hq2 : q < w.heap.size := HS.out.blk.lt
              have l0 : wr.cell? ⟨q, (s[i]'hlt).toNat, none⟩ = some (f (s[i]'hlt).toNat) := by rw [(HS.out.blk.below HW.out hq2).cell]; exact bsb_at (s[i]'hlt).toNat_lt
              have v5 : (((s[i]'hlt).toNat : Nat) : Int) < 256 := by have := (s[i]'hlt).toNat_lt; omega
              have v6 : (j : Int) ≤ 3600000 := by have := HJ.out; have := HN'.out; have := signF_le (np := np) s.data.toList i; omega
              have v7 : (0 : Int) ≤ (j : Int) := by omega
              rcases bs_or HS.out (s[i]'hlt) with ⟨a, h1, h2, g2, cap, cur2, fz, h3, h4, h5⟩ | ⟨h1, h2⟩
              · have HL0 := Lib.hid h3
                rw [h3] at l0
                have HSG := Lib.hid (show sg np (s[i]'hlt) = _ from sg_some (by have := HNP.out; omega) h1 h2)
                have hns := ns_size (a := a) (by have := HNP.out; omega)
                have HP4 := Lib.hid h4
                have HP5 := Lib.hid h5
                have v8 : (j : Int) ≤ (n : Int) := by have := HJ.out; have := HN'.out; have := signF_le (np := np) s.data.toList i; omega
                clear h1 h2 h3 h4 h5
                have hbl : (by8 (ns a).data.toList).length = (ns a).size := by simp [by8]
                have hjn : j + (ns a).size ≤ n := by
                  have h1 := HLE.out
                  rw [HSU.out, List.length_append, show sg np s.data.toList[i] = (ns a).data.toList from HSG.out] at h1
                  have h2 := HJ.out
                  have h3 := HN'.out
                  simp at h1
                  omega
                have hnj : ¬ n = j := by omega
                have HNS := Lib.hid hns
                have HJN := Lib.hid hjn
                have HBL := Lib.hid hbl
                obtain ⟨cur', hcur⟩ : ∃ c', c' = (cur.toList.take j ++ by8 (ns a).data.toList ++ cur.toList.drop (j + (by8 (ns a).data.toList).length)).toArray := ⟨_, rfl⟩
                have HCUR := Lib.hid hcur
                clear hns hjn hbl hcur
                have v9 : (((ns a).size : Nat) : Int) ≤ 6 := by have := HNS.out; omega
                have v10 : (0 : Int) ≤ (((ns a).size : Nat) : Int) := by omega
                go_upto_region 28 with (fail)
                have hC0 : CpC q g (BSB f (.slice A0 np c0)) cur cur' w 0 wr.drew := ⟨HB.out.drew, (HS.out.blk.below HW.out HS.out.blk.lt).drew, HW.out.trans ⟨rfl, rfl, rfl, Nat.le_refl _, fun _ _ => rfl⟩⟩
                have ne : Nonempty (Mix.Wd (CpC q g (BSB f (.slice A0 np c0)) cur cur' w) 0) := ⟨⟨wr.drew, 0, Nat.le_refl _, hC0⟩⟩
                have lx : ∀ x : Mix.Wd (CpC q g (BSB f (.slice A0 np c0)) cur cur' w) 0, x.1.cell? ⟨q, (s[i]'hlt).toNat, none⟩ = some (.slice (some ⟨g2, 0, none⟩) (ns a).size cap) := fun x => by
                  obtain ⟨k, _, hk⟩ := x.2
                  rw [hk.q.cell, bsb_at (s[i]'hlt).toNat_lt, HL0.out]
                refine Mix.wp_region_mix (C := CpC q g (BSB f (.slice A0 np c0)) cur cur' w) [10] (by kernel_rfl) (by kernel_rfl) hC0 ?_
                iterate 10 (refine Mix.mix_still (by decide) (fun K hK => ?_); go_simp; refine hK _ ?_; clear hK K)
                refine Mix.mix_turn (by decide) (fun K hK => ?_)
                go_simp
                refine ⟨.int .i64 ((ns a).size : Nat), fun yw hy => ?_, hK _ ?_⟩
                · have hcp := run_copy_row (P := Tryz.prog) yw 72 72 3 5 g j (n - j) (n - j) ⟨g2, 0, none⟩ (ns a).size cap cur 5 (by8 (ns a).data.toList) Tryz.underlying72 (by kernel_rfl) hy.1 (by rw [HBL.out]; show (ns a).size = min (ns a).size (n - j); have := HJN.out; omega) (fun k v hk => by
                    have e : (⟨g2, 0, none⟩ : Addr).add k = ⟨g2, k, none⟩ := by unfold Addr.add; split <;> simp_all
                    rw [e]
                    have hk' : k < (ns a).size := by
                      have := (List.getElem?_eq_some_iff.1 hk).1
                      rw [HBL.out] at this; exact this
                    have h1 := HP5.out k hk'
                    have h2 : g2 < w.heap.size := by
                      rcases Nat.lt_or_ge g2 w.heap.size with h | h
                      · exact h
                      · have := HP4.out
                        rw [Array.getElem?_eq_none h] at this; cases this
                    have h3 : yw.heap[g2]? = some (.cells cur2 5 fz) := (hy.2.2.block g2 h2).trans HP4.out
                    have h4 : yw.cell? ⟨g2, k, none⟩ = cur2[k]? := by simp [World.cell?, h3]
                    rw [h4, h1, ← hk]
                    unfold by8
                    rw [List.getElem?_map, List.getElem?_eq_getElem (by simpa using hk')]
                    rfl) (by rw [HBL.out, HC.out]; exact HJN.out) (fun v hv => by
                    unfold by8 at hv
                    rw [List.mem_map] at hv
                    obtain ⟨_, _, rfl⟩ := hv
                    rfl)
                  rw [hcp, HBL.out, ← HBL.out, ← HCUR.out]
                  refine ⟨by first | rfl | (rw [HBL.out]; rfl), setRow_heap yw g cur cur' 5 (0, 0) hy.1, hy.2.1.of_block (setRow_other _ _ _ _ (by have := HG.out; have := HS.out.blk.lt; omega)), hy.2.2.trans ⟨rfl, rfl, rfl, by simp [World.setRow], fun k hk => setRow_other _ _ _ _ (by have := HG.out; omega)⟩⟩
                clear hK K
                iterate 2 (refine Mix.mix_still (by decide) (fun K hK => ?_); go_simp; refine hK _ ?_; clear hK K)
                refine Mix.mix_nil ?_
                intro w6 hw6
                have HB6 := Lib.hid hw6.1
                have HW6 := Lib.hid hw6.2.2
                clear hw6 ne hC0 lx l0 HB HW
                show Exit.inBlock _ _ _ _ w6
                go_wp2_with fail
                go_roundw
                case rel =>
                  have hsz := HC.out
                  have hjn := HJN.out
                  have hbl := HBL.out
                  have hA : (cur.toList.take j).length = j := by simp; omega
                  have hww : IntKind.i64.wrap ((j : Int) + (((ns a).size : Nat) : Int)) = ((j + (ns a).size : Nat) : Int) := by rw [IntKind.wrap_i64]; omega
                  refine ⟨i + 1, j + (ns a).size, cur', by omega, by rw [hww], rfl, Lib.hid ?_, HB6, Lib.hid ?_, Lib.hid ?_, HW6⟩
                  · rw [HSU.out, show sg np s.data.toList[i] = (ns a).data.toList from HSG.out, List.length_append, ← HJ.out]
                    simp
                  · rw [HCUR.out, List.size_toArray, List.length_append, List.length_append, hA, hbl, List.length_drop]
                    simp
                    omega
                  · rw [HSU.out, show sg np s.data.toList[i] = (ns a).data.toList from HSG.out, HCUR.out]
                    show List.take (j + (ns a).size) (cur.toList.take j ++ by8 (ns a).data.toList ++ _) = _
                    rw [List.take_left' (by rw [List.length_append, hA, hbl]), HT.out]
                    unfold by8
                    rw [List.map_append]
                case measure => simp [intOf]; omega
              · rw [h2] at l0
                have HSG := Lib.hid (show sg np (s[i]'hlt) = _ from sg_none h1)
                have hjn : j < n := by
                  have h1 := HLE.out
                  have h2 := HJ.out
                  have h3 := HN'.out
                  rw [HSU.out, List.length_append, show sg np s.data.toList[i] = [s[i]] from HSG.out] at h1
                  simp at h1
                  omega
                have v8 : (j : Int) < (n : Int) := by omega
                have d0 : wr.cell? ⟨g, j, none⟩ = some (cur[j]'(by have := HC.out; omega)) := by rw [HB.out.cell]; simp
                have d1 := HB.out.free j
                clear h1 h2 hq2
                go_wp2_with fail
                go_roundw
                case rel =>
                  refine ⟨i + 1, j + 1, cur.setIfInBounds j (.int .u8 ((s[i]'hlt).toNat : Int)), by omega, rfl, rfl, Lib.hid ?_, Lib.hid (HB.out.set _ _), Lib.hid (by rw [Array.size_setIfInBounds]; exact HC.out), Lib.hid ?_, Lib.hid (HW.out.trans ⟨rfl, rfl, rfl, by simp [World.setCell], fun k hk => Below.heap_setCell _ _ _ _ (by show k ≠ g; have := HG.out; omega)⟩)⟩
                  · rw [HSU.out, show sg np s.data.toList[i] = [s[i]] from HSG.out, List.length_append, ← HJ.out]; rfl
                  · rw [HSU.out, show sg np s.data.toList[i] = [s[i]] from HSG.out, Array.toList_setIfInBounds, take_set _ _ _ (by have := HC.out; simp; omega), HT.out]
                    unfold by8
                    rw [List.map_append]
                    rfl
                case measure => simp [intOf]; omega
            · have v1 : ¬ (i : Int) < (s.size : Int) := by omega
              have hi'' : i = s.size := by omega
              have htk : s.data.toList.take i = s.data.toList := by rw [hi'']; exact List.take_of_length_le (by simp)
              have hJ := HJ.out
              have hT := HT.out
              rw [htk] at hJ hT
              have hjn : j = n := by rw [hJ]; exact HN'.out.symm
              have hcv := run_convert_bytes_back (P := Tryz.prog) wr 72 9 5 ⟨g, 0, none⟩ n (signF np s.data.toList) Tryz.underlying72 Tryz.underlying5 Tryz.underlying9 (fun k hk => by
                have e : (⟨g, 0, none⟩ : Addr).add k = ⟨g, k, none⟩ := by unfold Addr.add; split <;> simp_all
                rw [e, HB.out.cell]
                have h1 : (cur.toList.take j)[k]? = some (.int .u8 ((signF np s.data.toList)[k].toNat : Int)) := by rw [hT]; unfold by8; rw [List.getElem?_map, List.getElem?_eq_getElem hk]; rfl
                rw [List.getElem?_take_of_lt (by omega)] at h1
                simpa using h1)
              rw [← HN'.out] at hcv
              clear hJ hT htk hjn
              go_wp2_with fail
              refine bodyPost_ret (v := .string ⟨(signF np s.data.toList).toArray⟩) (by simp [results, Tryz.results192, go_sem]) rfl ⟨rfl, HW.out⟩
end Go.Proofs.YtkjgnkmnngaioaaGreat.Q
namespace Go.Proofs.YtkjgnkmnngaioaaGreat.Q
open Go.RowKit Go.IntWalk Go.Proofs.YtkjgnkmnngaioaaGreat.Mem
set_option linter.unusedVariables false
set_option linter.unusedSimpArgs false
theorem hmb (p : Addr) (w : World) : (method 342 180 (.pointer (some p)) "Replace").run Tryz.prog w = .ok (192, .pointer (some p)) w := by kernel_rfl
set_option maxRecDepth 100000 in
set_option maxHeartbeats 1600000 in
theorem repb_calls (b ob c m np : Nat) (s : ByteArray) (w : World) (hm : m = 2 * np) (hnp : np = 3 ∨ np = 4) (hB : Blk w b (RB 0 0 .nilIface (.slice (some ⟨ob, 0, none⟩) m c)) 139) (hob : ob ≠ b) (hK : ∀ a, a < np → w.cell? ⟨ob, 2 * a, none⟩ = some (.string (os a)) ∧ w.cell? ⟨ob, 2 * a + 1, none⟩ = some (.string (ns a))) (hs : s.size ≤ 600000) :
    Calls Tryz.prog 57 #[.pointer (some ⟨b, 0, none⟩), .string s] w fun e w' => e = .returned (.string ⟨(signF np s.data.toList).toArray⟩) ∧ But b w w' := by
  have HNP := Lib.hid hnp
  have hF := bs_once b ob c m np (w.setCell ⟨b, 1, none⟩ (.int .i32 1)) hm hnp (hB.set 1 _) hob (fun a ha => ⟨(World.cell?_of_block (Below.heap_setCell _ _ _ _ hob)).trans (hK a ha).1, (World.cell?_of_block (Below.heap_setCell _ _ _ _ hob)).trans (hK a ha).2⟩)
  have hD := do_build b .nilIface (.slice (some ⟨ob, 0, none⟩) m c) _ w hB (fun w' hq => by obtain ⟨q, hq⟩ := hq; obtain ⟨c4, h⟩ := hq.rep; exact ⟨_, c4, h⟩) hF
  have HD := Lib.hid hD
  have HBL := Lib.hid hB.lt
  have hmr := hmb
  have hmf : ∀ (fn : Fn) (first cap : Array Value) (w : World), (Instr.makeFunc fn first cap).run Tryz.prog w = .ok (.func fn first cap) w := fun _ _ _ _ => rfl
  clear hF hD hB hK hm hnp
  go_enter Tryz.func57, Tryz.ntmps57
  go_upto_region 2 with (go_at_call 92; refine HD.out.mono ?_; rintro e w1 ⟨rfl, w2, hq, hw1⟩; obtain ⟨q, hq⟩ := hq; have HQ := Lib.hid hq; have HW1 := Lib.hid hw1; clear hq hw1)
  have HT := Lib.hid (show Bs q (w.setCell ⟨b, 1, none⟩ (.int .i32 1)).heap.size np w1 from by
    obtain ⟨c4, h⟩ := HQ.out.rep
    rw [HW1.out]
    exact HQ.out.bs.keep h (fun j _ j1 => ((Below.heap_setCell _ _ _ _ j1).trans (Below.heap_setCell _ _ _ _ j1))))
  have HZ := Lib.hid (show But b w w1 from by
    rw [HW1.out]
    exact (((((But.refl b w).setCell 1 _).trans HQ.out.but).drewN 1).setCell 0 _).setCell 1 _)
  have c3 : w1.cell? ⟨b, 3, none⟩ = some (.iface 180 (.pointer (some ⟨q, 0, none⟩))) := by
    obtain ⟨c4, h⟩ := HQ.out.rep
    rw [HW1.out]
    exact ((h.drew.set 0 _).set 1 _).cell 3
  clear HQ HW1 HD
  go_wp2_with (go_at_call 192; refine (bsr_calls q _ np s _ HNP.out HT.out hs).mono ?_; rintro e w3 ⟨rfl, hb⟩; have HB3 := Lib.hid hb; clear hb)
  go_ret
  exact ⟨rfl, HZ.out.trans (But.of_below HB3.out)⟩
/-- The pairs of bytes and signs. -/
def PS (np : Nat) : List Value := (List.range np).flatMap fun a => [.string (os a), .string (ns a)]
theorem ps_at {np a : Nat} (hnp : np = 3 ∨ np = 4) (h : a < np) : (PS np)[2 * a]? = some (.string (os a)) ∧ (PS np)[2 * a + 1]? = some (.string (ns a)) := by
  rcases hnp with rfl | rfl
  · have : a = 0 ∨ a = 1 ∨ a = 2 := by omega
    rcases this with rfl | rfl | rfl <;> exact ⟨rfl, rfl⟩
  · have : a = 0 ∨ a = 1 ∨ a = 2 ∨ a = 3 := by omega
    rcases this with rfl | rfl | rfl | rfl <;> exact ⟨rfl, rfl⟩
/-- The signs in use. -/
def sgn (q : Bool) : Nat := if q then 4 else 3
set_option maxRecDepth 100000 in
set_option maxHeartbeats 1600000 in
theorem sign_calls (s : ByteArray) (q : Bool) (w : World) (hs : s.size ≤ 600000) :
    Calls Tryz.prog 21 #[.string s, .bool q] w fun e w' => e = .returned (.string ⟨(signF (sgn q) s.data.toList).toArray⟩) ∧ Below w.heap.size w w' := by
  cases q with
  | false =>
    have HN := Lib.hid (show ∀ W T, Blk W w.heap.size (PS 3).toArray T → Calls Tryz.prog 56 #[.slice (some ⟨w.heap.size, 0, none⟩) 6 6] W (NewR 6 (PS 3) W) from fun W T hB => new_calls6 w.heap.size 6 (PS 3) W rfl (fun j u hj => by rw [hB.cell, List.getElem?_toArray]; exact hj) (by decide))
    go_enter Tryz.func21, Tryz.ntmps21
    go_wp2_with fail
    refine (HN.out _ 9 (Blk.alloc w (PS 3).toArray 9)).mono ?_
    rintro e w1 ⟨b, ob, c, rfl, h1, h2, h3, h4, h5⟩
    have HB := Lib.hid h1
    have HO := Lib.hid h2
    have HL := Lib.hid (show w.heap.size ≤ b from Nat.le_trans (by simp) h3)
    have HK := Lib.hid (show ∀ a, a < 3 → w1.cell? ⟨ob, 2 * a, none⟩ = some (.string (os a)) ∧ w1.cell? ⟨ob, 2 * a + 1, none⟩ = some (.string (ns a)) from fun a ha => ⟨h4 _ _ (ps_at (.inl rfl) ha).1, h4 _ _ (ps_at (.inl rfl) ha).2⟩)
    have HW := Lib.hid (show Below w.heap.size w w1 from ((Below.refl _ _).alloc (Nat.le_refl _) _).trans (h5.mono (by simp)))
    clear h1 h2 h3 h4 h5 HN
    go_wp2_with (go_at_call 57; refine (repb_calls b ob c 6 3 s _ rfl (.inl rfl) HB.out HO.out HK.out hs).mono ?_; rintro e w2 ⟨rfl, hb⟩; have HZ := Lib.hid hb; clear hb)
    go_ret
    exact ⟨rfl, HW.out.trans (HZ.out.below HL.out HW.out.size)⟩
  | true =>
    obtain ⟨i0, hi, hzz⟩ : ∃ i0, Tryz.prog.info? 9 = some i0 ∧ (i0.zero, i0.size, i0.bytes) = (some (.string ⟨#[]⟩), 1, 16) := Option.map_eq_some_iff.1 (show (Tryz.prog.info? 9).map (fun i => (i.zero, i.size, i.bytes)) = some (some (.string ⟨#[]⟩), 1, 16) by kernel_rfl)
    simp only [Prod.mk.injEq] at hzz
    obtain ⟨hz0, hz1, hz2⟩ := hzz
    have HI := Lib.hid hi
    have HZ0 := Lib.hid hz0
    have HZ1 := Lib.hid hz1
    have HZ2 := Lib.hid hz2
    have HN := Lib.hid (show ∀ g cap W, (∀ j u, (PS 4)[j]? = some u → W.cell? ⟨g, j, none⟩ = some u) → Calls Tryz.prog 56 #[.slice (some ⟨g, 0, none⟩) 8 cap] W (NewR 8 (PS 4) W) from fun g cap W hB => new_calls8 g cap (PS 4) W rfl hB (by decide))
    clear hi hz0 hz1 hz2
    go_enter Tryz.func21, Tryz.ntmps21
    go_wp2_with (at_builtin; refine wpList_append_own _ rfl _ _ 87 rfl w.heap.size 9 i0 (.string ⟨#[]⟩) 1 16 Tryz.underlying87 HI.out HZ0.out HZ1.out HZ2.out rfl (by decide) (.slice (some ⟨w.heap.size, 0, none⟩) 6 6) 6 (PS 3) rfl ((World.ownsRow_lit w (PS 3).toArray 6 (Nat.le_refl _) (by unfold maxLen; omega) rfl).alloc _) ⟨w.heap.size + 1, 0, none⟩ 2 2 [.string (os 3), .string (ns 3)] rfl rfl (fun j u hj => by have e1 : (⟨w.heap.size + 1, 0, none⟩ : Addr).add j = ⟨w.heap.size + 1, j, none⟩ := (by unfold Addr.add; split <;> simp_all); rw [e1]; exact ((Blk.alloc_at (w.alloc (.cells (PS 3).toArray 9)) (b := w.heap.size + 1) #[.string (os 3), .string (ns 3)] 9 (by simp)).cell j).trans (by rw [← hj]; exact List.getElem?_toArray)) (by decide) (by unfold maxLen; omega) (by omega) (by simp; omega) ?_; intro v1 w1 ho1 hg1 h2; obtain ⟨g, cap, rfl, hg2, hg3, hg4⟩ := own_some ho1 (by omega); have HG1 := Lib.hid hg1; have HG3 := Lib.hid hg3; have HG4 := Lib.hid hg4; clear ho1 hg1 h2 hg2 hg3 hg4)
    refine (HN.out g cap w1 HG4.out).mono ?_
    rintro e w2 ⟨b, ob, c, rfl, h1, h2, h3, h4, h5⟩
    have hz1 : w.heap.size ≤ w1.heap.size := Nat.le_trans (by simp; omega) HG1.out.size
    have HB := Lib.hid h1
    have HO := Lib.hid h2
    have HL := Lib.hid (show w.heap.size ≤ b by omega)
    have HK := Lib.hid (show ∀ a, a < 4 → w2.cell? ⟨ob, 2 * a, none⟩ = some (.string (os a)) ∧ w2.cell? ⟨ob, 2 * a + 1, none⟩ = some (.string (ns a)) from fun a ha => ⟨h4 _ _ (ps_at (.inr rfl) ha).1, h4 _ _ (ps_at (.inr rfl) ha).2⟩)
    have HW := Lib.hid (show Below w.heap.size w w2 from by
      have hg := HG1.out
      refine Below.trans ⟨hg.os, hg.tape, hg.output, hz1, fun k hk => ?_⟩ (h5.mono hz1)
      refine (hg.block k (by simp; omega) (by simp [Value.ownBlock]; omega)).trans ?_
      exact (Below.heap_alloc _ _ _ (by simp; omega)).trans (Below.heap_alloc _ _ _ hk))
    clear h1 h2 h3 h4 h5 HN HG1 HG3 HG4 hz1
    go_wp2_with (go_at_call 57; refine (repb_calls b ob c 8 4 s _ rfl (.inr rfl) HB.out HO.out HK.out hs).mono ?_; rintro e w3 ⟨rfl, hb⟩; have HZ := Lib.hid hb; clear hb)
    go_ret
    exact ⟨rfl, HW.out.trans (HZ.out.below HL.out HW.out.size)⟩
end Go.Proofs.YtkjgnkmnngaioaaGreat.Q
namespace Go.Proofs.YtkjgnkmnngaioaaGreat.Q
open Go.RowKit Go.Proofs.YtkjgnkmnngaioaaGreat.Mem Go.Proofs.YtkjgnkmnngaioaaGreatW.PrintWords Go.Proofs.YtkjgnkmnngaioaaGreatW.PrintLast Go.Proofs.YtkjgnkmnngaioaaGreatW.PrintMore
set_option linter.unusedVariables false
set_option linter.unusedSimpArgs false
def token_Read.f (a0 : ByteArray) : Option (List S46 × Int) := if a0.size ≤ 140737488351232 then (if a0.size ≤ 4000 then some (readF a0.data.toList, 0) else some ([], 3)) else none
theorem token_Read.calls (a0 : ByteArray) (r0 : List S46) (r1 : Int) (w : World) (h : token_Read.f a0 = some (r0, r1)) :
    Calls Tryz.prog 13 #[.string a0] w fun e w' => ∃ v, e = .returned (.tuple #[v, .int .i64 r1]) ∧ Kd.S k46 46 w' w.heap.size (fun _ => True) v r0 ∧ Below w.heap.size w w' := by
  unfold token_Read.f at h
  split at h
  · rename_i h1
    split at h
    · rename_i h2
      injection h with h
      injection h with h3 h4
      subst h3 h4
      exact read_calls a0 w h2
    · rename_i h2
      injection h with h
      injection h with h3 h4
      subst h3 h4
      exact (read_long a0 w (by omega) h1).mono fun e w' ⟨he, hw⟩ => ⟨_, he, Kd.S_nil _ _ _ _ _, by subst hw; exact Below.refl _ _⟩
  · cases h
def token_Tell.f (a0 : ByteArray) : Option ByteArray := if a0.size ≤ 600000 then some (st (tellF a0 0)) else none
theorem token_Tell.calls (a0 r : ByteArray) (w : World) (h : token_Tell.f a0 = some r) :
    Calls Tryz.prog 19 #[.string a0] w fun e w' => e = .returned (.string r) ∧ Below w.heap.size w w' := by
  unfold token_Tell.f at h
  split at h
  · rename_i h1
    injection h with h
    subst h
    exact tell_calls a0 w h1
  · cases h
def token_Sign.f (a0 : ByteArray) (a1 : Bool) : Option ByteArray := if a0.size ≤ 600000 then some (st (signF (sgn a1) a0.data.toList)) else none
theorem token_Sign.calls (a0 : ByteArray) (a1 : Bool) (r : ByteArray) (w : World) (h : token_Sign.f a0 a1 = some r) :
    Calls Tryz.prog 21 #[.string a0, .bool a1] w fun e w' => e = .returned (.string r) ∧ Below w.heap.size w w' := by
  unfold token_Sign.f at h
  split at h
  · rename_i h1
    injection h with h
    subst h
    exact sign_calls a0 a1 w h1
  · cases h
def token_Name.f (a0 : ByteArray) : Option Bool := if a0.size ≤ 9223372036854775807 then some (nameB a0.data.toList) else none
theorem token_Name.calls (a0 : ByteArray) (r : Bool) (w : World) (h : token_Name.f a0 = some r) :
    Calls Tryz.prog 17 #[.string a0] w fun e w' => e = .returned (.bool r) ∧ Below w.heap.size w w' := by
  unfold token_Name.f at h
  split at h
  · rename_i h1
    injection h with h
    subst h
    exact isName_calls a0 w h1
  · cases h
end Go.Proofs.YtkjgnkmnngaioaaGreat.Q
namespace Go.Proofs.YtkjgnkmnngaioaaGreat.Q
open Go.RowKit Go.Proofs.YtkjgnkmnngaioaaGreat.Mem Go.Proofs.YtkjgnkmnngaioaaGreatW.PrintWords
set_option linter.unusedVariables false
set_option linter.unusedSimpArgs false
/-- Which sign begins, behind its first byte. -/
def lkL : List UInt8 → Option Nat
  | [] => none
  | c :: r => match lkI c with
    | none => none
    | some i => if (px i).data.toList.isPrefixOf r = true then some i else none
def tlL : Nat → List UInt8 → List UInt8
  | 0, _ => []
  | _ + 1, [] => []
  | d + 1, c :: r => if c.toNat = 38 then (match lkL r with
      | some a => (vs a).data.toList ++ tlL d (r.drop (1 + (px a).size))
      | none => c :: tlL d r)
    else c :: tlL d r
theorem tl_list (s : ByteArray) : (tl s).data.toList = s.data.toList.drop 1 := by
  unfold tl
  rw [Lib.extract_data]
  exact List.take_of_length_le (by simp)
theorem hpB_list (s p : ByteArray) : hpB s p = p.data.toList.isPrefixOf s.data.toList := by
  have h := Lib.hasPrefix_raw s p
  unfold Lib.hasPrefix at h
  rw [← h]
  unfold hpB
  by_cases hs : p.size ≤ s.size
  · rw [if_pos hs, decide_eq_true hs, Bool.true_and]
  · rw [if_neg hs, decide_eq_false hs, Bool.false_and]
theorem lkF_list (s : ByteArray) : lkF s = lkL (s.data.toList.drop 1) := by
  unfold lkF
  have h1 := tl_list s
  have h2 : (tl s).size = (s.data.toList.drop 1).length := by rw [← h1]; simp
  cases hd : s.data.toList.drop 1 with
  | nil =>
    rw [hd] at h2
    rw [dif_neg (by rw [h2]; simp)]
    rfl
  | cons c r =>
    rw [hd] at h1 h2
    have h3 : 0 < (tl s).size := by rw [h2]; simp
    have h4 : (tl s)[0] = c := by
      have h5 : (tl s).data.toList[0]? = some c := by rw [h1]; rfl
      have h6 : (tl s).data.toList[0]? = some ((tl s)[0]) := by
        rw [List.getElem?_eq_getElem (by simpa using h3)]
        rfl
      exact Option.some.inj (h6.symm.trans h5)
    rw [dif_pos h3, h4]
    have h7 : (tl (tl s)).data.toList = r := by rw [tl_list, h1]; rfl
    simp only [lkL]
    cases lkI c with
    | none => rfl
    | some i =>
      dsimp only
      rw [hpB_list, h7]
theorem tellN_list (s : ByteArray) : ∀ (d i : Nat), tellN s d i = tlL d (s.data.toList.drop i)
  | 0, i => by rw [tellN]; rfl
  | d + 1, i => by
    have hl : s.data.toList.length = s.size := by simp
    rw [tellN]
    by_cases h : i < s.size
    · have hd : s.data.toList.drop i = s[i] :: s.data.toList.drop (i + 1) := List.drop_eq_getElem_cons (by omega)
      rw [dif_pos h, hd, tlL, lkF_list]
      have h1 : (s.extract i s.size).data.toList.drop 1 = s.data.toList.drop (i + 1) := by
        rw [Lib.extract_data, List.take_of_length_le (by simp), List.drop_drop]
      rw [h1]
      by_cases hc : s[i].toNat = 38
      · rw [if_pos hc, if_pos hc]
        cases hk : lkL (s.data.toList.drop (i + 1)) with
        | none =>
          show s[i] :: tellN s d (i + 1) = _
          rw [tellN_list s d (i + 1)]
        | some a =>
          show (vs a).data.toList ++ tellN s d (i + (2 + (px a).size)) = _
          show _ = (vs a).data.toList ++ tlL d (List.drop (1 + (px a).size) (List.drop (i + 1) s.data.toList))
          rw [tellN_list s d, List.drop_drop]
          rw [show i + (2 + (px a).size) = i + 1 + (1 + (px a).size) by omega]
      · rw [if_neg hc, if_neg hc, tellN_list s d (i + 1)]
    · rw [dif_neg h, List.drop_of_length_le (by omega)]
      rfl
/-- What a text tells. -/
def tellL (l : List UInt8) : List UInt8 := tlL l.length l
theorem tellF_list (s : ByteArray) : tellF s 0 = tellL s.data.toList := by
  unfold tellF tellL
  rw [tellN_list, List.drop_zero]
  simp
theorem tellF_st (l : List UInt8) : tellF (st l) 0 = tellL l := tellF_list (st l)
theorem sign_len {np : Nat} (hnp : np ≤ 4) (l : List UInt8) : (signF np l).length ≤ 6 * l.length := by
  induction l with
  | nil => simp [signF]
  | cons c l ih =>
    have e : signF np (c :: l) = sg np c ++ signF np l := by simp [signF]
    rw [e, List.length_append, List.length_cons]
    have h6 : (sg np c).length ≤ 6 := by
      by_cases hc : ∃ a, a < np ∧ c.toNat = oby a
      · obtain ⟨a, ha, hca⟩ := hc
        rw [sg_some hnp ha hca]
        have := (ns_size (a := a) (by omega)).2
        simpa using this
      · rw [sg_none (fun a h1 h2 => hc ⟨a, h1, h2⟩)]; simp
    omega
end Go.Proofs.YtkjgnkmnngaioaaGreat.Q
