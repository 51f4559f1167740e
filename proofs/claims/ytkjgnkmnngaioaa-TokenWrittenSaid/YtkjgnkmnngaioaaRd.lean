/- 'token.Read'. -/
import Derived.Test.YtkjgnkmnngaioaaEnd
import Derived.Deep.RegionLaw
import Derived.LoopN
import Derived.WalkMore
import Derived.Maps.AppendAt
namespace Go.Proofs.Ytkjgnkmnngaioaa.Q
open Go.RowKit Go.IntWalk Go.Proofs.Ytkjgnkmnngaioaa.Mem Go.Proofs.YtkjgnkmnngaioaaW.PrintWords Go.Proofs.YtkjgnkmnngaioaaW.PrintLast Go.Proofs.YtkjgnkmnngaioaaW.PrintMore
set_option linter.unusedVariables false
set_option linter.unusedSimpArgs false

/-- What is taken at a place: a closing, an opening, or nothing. -/
def tkF (l : List UInt8) : Option (S31 × Nat) :=
  match clF l with
  | some (k, u) => some (⟨2, st (lows ((l.drop 2).take k)), ⟨#[]⟩, []⟩, u)
  | none => match opF l with
    | some (k, as_, u) => some (⟨1, st (lows ((l.drop 1).take k)), ⟨#[]⟩, as_⟩, u)
    | none => none
/-- The tokens from a place on. -/
def rdL (l : List UInt8) : Nat → Nat → List S31 → List UInt8 → List S31
  | 0, _, ts, tx => endT ts tx
  | f + 1, o, ts, tx =>
    match l[o]? with
    | none => endT ts tx
    | some c => if c = 60 then (match tkF (l.drop o) with
        | some (t, u) => rdL l f (o + u) (endT ts tx ++ [t]) []
        | none => rdL l f (o + 1) ts (tx ++ [c]))
      else rdL l f (o + 1) ts (tx ++ [c])
def readF (l : List UInt8) : List S31 := rdL l (l.length + 1) 0 [] []
theorem clF_le {l : List UInt8} {k u : Nat} (h : clF l = some (k, u)) : u ≤ l.length ∧ 0 < u := by
  unfold clF at h
  split at h
  · cases h
  · split at h
    · cases h
    · split at h
      · cases h
      · split at h
        · rename_i h1
          injection h with h
          injection h with h2 h3
          rw [List.head?_eq_getElem?, List.getElem?_drop] at h1
          have h4 := (List.getElem?_eq_some_iff.1 h1).1
          omega
        · cases h
theorem opL_le {l : List UInt8} : ∀ {f o : Nat} {as_ : List S36} {r : List S36 × Nat}, opL l f o as_ = some r → r.2 ≤ l.length ∧ 0 < r.2
  | 0, _, _, _, h => by cases h
  | f + 1, o, as_, r, h => by
    rw [opL] at h
    split at h
    · rename_i h1
      injection h with h
      subst h
      rw [List.head?_eq_getElem?, List.getElem?_drop] at h1
      have h4 := (List.getElem?_eq_some_iff.1 h1).1
      dsimp only
      omega
    · split at h
      · cases h
      · split at h
        · cases h
        · split at h
          · exact opL_le h
          · split at h
            · cases h
            · exact opL_le h
theorem tkF_le {l : List UInt8} {t : S31} {u : Nat} (h : tkF l = some (t, u)) : u ≤ l.length ∧ 0 < u := by
  unfold tkF at h
  split at h
  · rename_i k u' hc
    injection h with h
    injection h with h1 h2
    subst h2
    exact clF_le hc
  · split at h
    · rename_i hc k as_ u' ho
      injection h with h
      injection h with h1 h2
      subst h2
      unfold opF at ho
      split at ho
      · cases ho
      · obtain ⟨r, hr, he⟩ := Option.map_eq_some_iff.1 ho
        have := opL_le hr
        obtain ⟨r1, r2⟩ := r
        injection he with he1 he2
        injection he2 with he2 he3
        subst he3
        exact this
    · cases h
theorem endT_len (ts : List S31) (tx : List UInt8) : (endT ts tx).length ≤ ts.length + 1 := by
  unfold endT
  split
  · omega
  · rw [List.length_append]; simp
section
variable {P : Program} {ops : Array Oper} {o : Oper} {a : Act} {y : World} {Kc : Act → World → Prop} {Q : Exit → Act → World → Prop} {E : Prop}
/-- append of one cell to a row of one's own, as one step of a region. -/
theorem own_app_step (hg : o.guard = none) (s x : Operand) (t e : TypeId) (hop : o.op = Op.call { callee := Callee.builtin Builtin.append, args := #[s, x], argTypes := #[t, t] })
    (i : TypeInfo) (z : Value) (bytes : Nat) (ht : P.underlying t = some (.slice e)) (hi : P.info? e = some i) (hz : i.zero = some z) (hsize : i.size = 1) (hby : i.bytes = bytes) (hzs : z.cells.size = 1)
    (base : Nat) (v : Value) (n : Nat) (xs : List Value) (hs : a.eval s = v) (b : Nat) (hx : a.eval x = .slice (some ⟨b, 0, none⟩) 1 1) (u : Value) (hu : y.cell? ⟨b, 0, none⟩ = some u) (h1 : u.oneCell' = true)
    (hown : y.ownsRow base e 1 v n xs) (h63 : n + 1 ≤ maxLen) (hbytes : (n + 1) * bytes ≤ 140737488355328) (hbase : base ≤ y.heap.size)
    (hK : ∀ v1 w1, w1.ownsRow base e 1 v1 (n + 1) (xs ++ [u]) → y.grownBy w1 v.ownBlock → (v1.ownBlock = v.ownBlock ∨ v1.ownBlock = some y.heap.size) → Kc (a.put o.dst v1) w1) :
    if Region.wanted o (yielded ops a.tmps) = true then Oper.wp P o a y Kc Q else E := by
  have hw : Region.wanted o (yielded ops a.tmps) = true := by simp [Region.wanted, hg]
  rw [if_pos hw]
  obtain ⟨v1, w1, hrun, hown1, hg1, -, hat⟩ := run_append_own_at (P := P) (w := y) base t o.type e i z 1 bytes ht hi hz hsize hby hzs (by decide) v n xs hown ⟨b, 0, none⟩ 1 1 [u] rfl (fun j u' hj => by
    cases j with
    | zero => injection hj with hj; subst hj; exact hu
    | succ j => simp at hj) (by simp [h1]) h63 hbytes hbase
  unfold Oper.wp
  simp [execOp, hop, resolve, invoke, builtin, hs, hx, hrun, Result.andThen]
  exact hK v1 w1 hown1 hg1 hat
end
theorem own_ne_blz {w : World} {base e sz n g : Nat} {v : Value} {xs : List Value} {cs : Array Value} {fz : Nat × Nat} (h : w.ownsRow base e sz v n xs) (hb : Blz w g cs fz) (hf : fz ≠ (0, 0)) : some g ≠ v.ownBlock := by
  intro he
  rcases h.2 with ⟨rfl, _⟩ | ⟨g', cap, cur, rfl, _, hh, _⟩
  · simp [Value.ownBlock] at he
  · have : g = g' := by simpa [Value.ownBlock] using he
    subst this
    unfold Blz at hb
    rw [hb] at hh
    injection hh with hh
    injection hh with _ _ hh
    exact hf hh
theorem S_ne_blz {w : World} {base g : Nat} {v : Value} {ts : List S31} {ok : Nat → Prop} {cs : Array Value} {fz : Nat × Nat} (h : Kd.S k31 31 w base ok v ts) (hb : Blz w g cs fz) (hf : fz ≠ (0, 0)) : some g ≠ v.ownBlock := by
  obtain ⟨inner, hi⟩ := Kd.S_own h
  exact own_ne_blz hi hb hf
theorem own_keepB {w z : World} {base e sz n : Nat} {v : Value} {xs : List Value} (h : w.ownsRow base e sz v n xs) (hb : Below w.heap.size w z) : z.ownsRow base e sz v n xs := by
  refine own_move h (fun k hk => hb.block k (own_lt h k hk))
/-- What stands while a text is read. -/
structure RdI (s : ByteArray) (cp : Nat) (w : World) (ts : List S31) (tx : List UInt8) (lv tv : Value) (y : World) : Prop where
  ei : EndI w.heap.size w.heap.size (fun _ => True) ts tx lv tv y
  by_ : Blz y (w.heap.size + 1 + 1) (bytesRow s cp) ((bytesRow s cp).size, (bytesRow s cp).size + 1)
  below : Below w.heap.size w y
theorem RdI.bt {s : ByteArray} {cp : Nat} {w y : World} {ts : List S31} {tx : List UInt8} {lv tv : Value} (h : RdI s cp w ts tx lv tv y) (hc : s.size ≤ cp) : Bt y (w.heap.size + 1 + 1) 0 s.size cp s.data.toList := bt_made (w := w) hc h.by_
theorem RdI.step {s : ByteArray} {cp : Nat} {w y z : World} {ts : List S31} {tx : List UInt8} {lv tv : Value} (h : RdI s cp w ts tx lv tv y) (hb : Below y.heap.size y z) : RdI s cp w ts tx lv tv z :=
  ⟨⟨h.ei.lc.below hb h.ei.lc.lt, h.ei.tc.below hb h.ei.tc.lt, Kd.S_below h.ei.lr hb, own_keepB h.ei.tr hb⟩, (hb.block _ h.by_.lt).trans h.by_, h.below.trans (hb.mono h.below.size)⟩
theorem Chg.below {h : Nat} {row : Option Nat} {w w' : World} (hc : Chg h row w w') (hr : ∀ k, row = some k → h ≤ k) (hs : h ≤ w.heap.size) : Below h w w' :=
  ⟨hc.os, hc.tape, hc.output, hc.size, fun k hk => hc.block k (by omega) (by omega) (by omega) (fun e => by have := hr k e.symm; omega)⟩
/-- Behind the end of a text. -/
theorem RdI.ended {s : ByteArray} {cp : Nat} {w y z : World} {ts : List S31} {tx : List UInt8} {lv tv lv' tv' : Value} (h : RdI s cp w ts tx lv tv y) (he : EndI w.heap.size w.heap.size (fun _ => True) (endT ts tx) [] lv' tv' z) (hc : Chg w.heap.size lv.ownBlock y z) : RdI s cp w (endT ts tx) [] lv' tv' z :=
  ⟨he, (hc.block _ h.by_.lt (by omega) (by omega) (S_ne_blz h.ei.lr h.by_ (by simp))).trans h.by_, h.below.trans (hc.below (fun k hk => Kd.S_base h.ei.lr k hk) h.below.size)⟩
theorem bel_trans {x y z : World} (h : Below x.heap.size x y) (hb : Below y.heap.size y z) : Below x.heap.size x z := h.trans (hb.mono h.size)
/-- What is taken, between two sizes. -/
theorem tk_M {z : World} {X Y h : Nat} {tok : S31} {cs : List Value} (hM : k31.M z Y (fun _ => True) tok cs) (h1 : h ≤ X) (h2 : X ≤ Y) : k31.M z h (fun k => X ≤ k ∧ k < z.heap.size) tok cs :=
  k31.M_lower (Nat.le_trans h1 h2) (k31.M_mono (fun k hk => ⟨Nat.le_trans h2 hk.2.1, hk.2.2.1⟩) (k31.M_bound hM))
theorem rdi_end {s : ByteArray} {cp : Nat} {w y z : World} {ts : List S31} {tx : List UInt8} {lv tv : Value} (h : RdI s cp w ts tx lv tv y) (hb : Below y.heap.size y z) (n : Nat) : EndI w.heap.size w.heap.size (fun k => ¬ (y.heap.size ≤ k ∧ k < n)) ts tx lv tv z :=
  ⟨(h.step hb).ei.lc, (h.step hb).ei.tc, Kd.S_mono (Kd.S_below (Kd.S_bound h.ei.lr) hb) (fun k hk => by have := hk.2.2.1; omega), (h.step hb).ei.tr⟩
/-- The token, behind the text's end, and all that is needed to put it behind the others. -/
structure AppI (w w5 : World) (X n : Nat) (ts : List S31) (tok : S31) (cs : List Value) (lv : Value) : Prop where
  hp : k31.M w5 w.heap.size (fun k => X ≤ k ∧ k < n) tok cs
  hokp : ∀ k, X ≤ k ∧ k < n → True ∧ some k ≠ lv.ownBlock
  ho : Kd.S k31 31 w5 w.heap.size (fun k => True ∧ ¬ (X ≤ k ∧ k < n)) lv ts
theorem app_i {s : ByteArray} {cp : Nat} {w y z Z w5 : World} {ts : List S31} {tx : List UInt8} {lv tv lv5 : Value} {tok : S31} {cs : List Value} (h : RdI s cp w ts tx lv tv y) (hM : k31.M z w.heap.size (fun k => y.heap.size ≤ k ∧ k < z.heap.size) tok cs) (hz : Below z.heap.size z Z)
    (he : EndI w.heap.size w.heap.size (fun k => ¬ (y.heap.size ≤ k ∧ k < z.heap.size)) (endT ts tx) [] lv5 (.slice none 0 0) w5) (hc : Chg w.heap.size lv.ownBlock Z w5) : AppI w w5 y.heap.size z.heap.size (endT ts tx) tok cs lv5 := by
  have hy1 : w.heap.size + 1 < y.heap.size := h.ei.tc.lt
  refine ⟨?_, fun k hk => ⟨trivial, fun e => ?_⟩, Kd.S_mono he.lr (fun k hk => ⟨trivial, hk⟩)⟩
  · refine k31.M_move (fun k hk => ?_) hM
    refine (hc.block k (Nat.lt_of_lt_of_le hk.2 hz.size) (by omega) (by omega) (fun e => ?_)).trans (hz.block k hk.2)
    have := Kd.S_lt h.ei.lr k e.symm
    omega
  · exact (Kd.S_R he.lr).1 k e.symm hk
theorem rdi_app {s : ByteArray} {cp : Nat} {w y Z w5 w6 : World} {ts : List S31} {tx : List UInt8} {lv tv lv5 v1 : Value} {ok : Nat → Prop} {tok : S31} (h : RdI s cp w ts tx lv tv y) (hz : Below y.heap.size y Z)
    (he : EndI w.heap.size w.heap.size ok (endT ts tx) [] lv5 (.slice none 0 0) w5) (hc : Chg w.heap.size lv.ownBlock Z w5) (hr : Kd.S k31 31 w6 w.heap.size (fun _ => True) v1 (endT ts tx ++ [tok])) (hb6 : Below w.heap.size w w6) (hg : w5.grownBy w6 lv5.ownBlock) :
    Blk w6 w.heap.size #[lv5] 24 ∧ RdI s cp w (endT ts tx ++ [tok]) [] v1 (.slice none 0 0) (w6.setCell ⟨w.heap.size, 0, none⟩ v1) := by
  have hz' := h.step hz
  have e5 : RdI s cp w (endT ts tx) [] lv5 (.slice none 0 0) w5 := hz'.ended ⟨he.lc, he.tc, Kd.S_mono he.lr (fun _ _ => trivial), he.tr⟩ hc
  have b1 : Blk w6 w.heap.size #[lv5] 24 := he.lc.of_block (hg.block _ he.lc.lt (Kd.S_ne he.lr he.lc (by decide)))
  have b2 : Blk w6 (w.heap.size + 1) #[.slice none 0 0] 45 := he.tc.of_block (hg.block _ he.tc.lt (Kd.S_ne he.lr he.tc (by decide)))
  have b3 : Blz w6 (w.heap.size + 1 + 1) (bytesRow s cp) ((bytesRow s cp).size, (bytesRow s cp).size + 1) := (hg.block _ e5.by_.lt (S_ne_blz he.lr e5.by_ (by simp))).trans e5.by_
  refine ⟨b1, ⟨b1.set 0 _, b2.setCell_other _ (by show w.heap.size + 1 ≠ w.heap.size; omega), Kd.S_set hr b1 (typ_token (by decide) (by decide)) 0 _, ?_⟩, (Below.heap_setCell _ _ _ _ (by show w.heap.size + 1 + 1 ≠ w.heap.size; omega)).trans b3, hb6.trans ⟨rfl, rfl, rfl, by simp [World.setCell], fun k hk => Below.heap_setCell _ _ _ _ (by show k ≠ w.heap.size; omega)⟩⟩
  exact World.ownsRow_nil _ _ _ _
theorem own_ne_blk {w : World} {base e sz n g : Nat} {v : Value} {xs : List Value} {cs : Array Value} {T : TypeId} (h : w.ownsRow base e sz v n xs) (hb : Blk w g cs T) (hT : T ≠ e) : some g ≠ v.ownBlock := by
  intro he
  obtain ⟨cells, hc⟩ := own_typed h g he.symm
  unfold Blk at hb
  rw [hb] at hc
  injection hc with hc
  injection hc with _ hc
  exact hT hc
theorem rdi_text {s : ByteArray} {cp : Nat} {w y y1 w4 : World} {ts : List S31} {tx : List UInt8} {lv tv v1 : Value} {d : UInt8} (h : RdI s cp w ts tx lv tv y) (hy : Below y.heap.size y y1) (ho : w4.ownsRow w.heap.size 5 1 v1 (tx.length + 1) (byc tx ++ [.int .u8 (d.toNat : Int)])) (hg : y1.grownBy w4 tv.ownBlock) :
    Blk w4 (w.heap.size + 1) #[tv] 45 ∧ RdI s cp w ts (tx ++ [d]) lv v1 (w4.setCell ⟨w.heap.size + 1, 0, none⟩ v1) := by
  have h1 := h.step hy
  have b1 : Blk w4 w.heap.size #[lv] 24 := h1.ei.lc.of_block (hg.block _ h1.ei.lc.lt (own_ne_blk h1.ei.tr h1.ei.lc (by decide)))
  have b2 : Blk w4 (w.heap.size + 1) #[tv] 45 := h1.ei.tc.of_block (hg.block _ h1.ei.tc.lt (own_ne_blk h1.ei.tr h1.ei.tc (by decide)))
  have b3 : Blz w4 (w.heap.size + 1 + 1) (bytesRow s cp) ((bytesRow s cp).size, (bytesRow s cp).size + 1) := (hg.block _ h1.by_.lt (own_ne_blz h1.ei.tr h1.by_ (by simp))).trans h1.by_
  have b4 : Below w.heap.size w w4 := h1.below.trans ⟨hg.os, hg.tape, hg.output, hg.size, fun k hk => hg.block k (Nat.lt_of_lt_of_le hk h1.below.size) (fun e => by have := own_base h1.ei.tr k e.symm; omega)⟩
  have b5 : Kd.S k31 31 w4 w.heap.size (fun _ => True) lv ts := Kd.S_over' h1.ei.lr (fun k hk => own_typed h1.ei.tr k hk) (typ_token (by decide) (by decide)) hg
  refine ⟨b2, ⟨b1.setCell_other _ (by show w.heap.size ≠ w.heap.size + 1; omega), b2.set 0 _, Kd.S_set b5 b2 (typ_token (by decide) (by decide)) 0 _, ?_⟩, (Below.heap_setCell _ _ _ _ (by show w.heap.size + 1 + 1 ≠ w.heap.size + 1; omega)).trans b3, b4.trans ⟨rfl, rfl, rfl, by simp [World.setCell], fun k hk => Below.heap_setCell _ _ _ _ (by show k ≠ w.heap.size + 1; omega)⟩⟩
  have e1 : (tx ++ [d]).length = tx.length + 1 := by simp
  have e2 : byc (tx ++ [d]) = byc tx ++ [.int .u8 (d.toNat : Int)] := by unfold byc; simp
  rw [e1, e2]
  exact own_move ho (fun k hk => Below.heap_setCell _ _ _ _ (fun e => own_ne_blk ho b2 (by decide) (by rw [hk, e])))
/-- A closing, as a token in cells. -/
theorem closing_take (g a n c : Nat) (l : List UInt8) (w : World) (hB : Bt w g a n c l) (hn : n ≤ 600000) :
    Calls Try.prog 21 #[.slice (some ⟨g, a, none⟩) n c] w fun e w' => (match clF l with
    | none => NonePost e
    | some (k, u) => TakeP g a n w ⟨2, st (lows ((l.drop 2).take k)), ⟨#[]⟩, []⟩ u e w') ∧ Below w.heap.size w w' := by
  refine (closing_calls g a n c l w hB hn).mono fun e w' h => ?_
  unfold ClPost at h
  refine ⟨?_, h.2⟩
  have h1 := h.1
  revert h1
  cases clF l with
  | none => exact fun h => h
  | some p =>
    obtain ⟨k, u⟩ := p
    intro h1
    obtain ⟨a', h2, h3⟩ := h1
    exact ⟨_, a', k31_mkM _ _ _ ⟨2, st (lows ((l.drop 2).take k)), ⟨#[]⟩, []⟩ (Kd.R_nil _ _ _ _ _), h2, h3⟩
/-- Nothing is taken, or a token is. -/
def TkPost (X g a n : Nat) (r : Option (S31 × Nat)) (e : Ending) (z : World) : Prop :=
  match r with
  | none => NonePost e
  | some (tok, u) => ∃ cs a', k31.M z X (fun _ => True) tok cs ∧ (u < n → a' = a + u) ∧ e = .returned (.tuple #[.agg cs.toArray, .slice (some ⟨g, a', none⟩) (n - u) (n - u), .bool true])
def clR (l : List UInt8) : Option (S31 × Nat) := (clF l).map fun (k, u) => (⟨2, st (lows ((l.drop 2).take k)), ⟨#[]⟩, []⟩, u)
def opR (l : List UInt8) : Option (S31 × Nat) := (opF l).map fun (k, as_, u) => (⟨1, st (lows ((l.drop 1).take k)), ⟨#[]⟩, as_⟩, u)
theorem tkF_eq (l : List UInt8) : tkF l = (clR l).or (opR l) := by
  unfold tkF clR opR
  cases clF l with
  | none => cases opF l <;> rfl
  | some p => rfl
theorem cl_tk (g a n c : Nat) (l : List UInt8) (w : World) (hB : Bt w g a n c l) (hn : n ≤ 600000) :
    Calls Try.prog 21 #[.slice (some ⟨g, a, none⟩) n c] w fun e w' => TkPost w.heap.size g a n (clR l) e w' ∧ Below w.heap.size w w' := by
  refine (closing_take g a n c l w hB hn).mono fun e w' h => ⟨?_, h.2⟩
  have h1 := h.1
  unfold clR
  revert h1
  cases clF l with
  | none => exact fun h => h
  | some p => exact fun h => h
theorem op_tk (g a n c : Nat) (l : List UInt8) (w : World) (hB : Bt w g a n c l) (hn : n ≤ 600000) (hn0 : 0 < n) :
    Calls Try.prog 22 #[.slice (some ⟨g, a, none⟩) n c] w fun e w' => TkPost w.heap.size g a n (opR l) e w' ∧ Below w.heap.size w w' := by
  refine (opening_calls g a n c l w hB hn hn0).mono fun e w' h => ?_
  unfold OpPost at h
  refine ⟨?_, h.2⟩
  have h1 := h.1
  unfold opR
  revert h1
  cases opF l with
  | none => exact fun h => h
  | some p => exact fun h => h
set_option maxRecDepth 100000 in
set_option maxHeartbeats 16000000 in
theorem read_long (s : ByteArray) (w : World) (hs : 4000 < s.size) (hs2 : s.size ≤ 140737488351232) :
    Calls Try.prog 8 #[.string s] w fun e w' => e = .returned (.tuple #[.slice none 0 0, .int .i64 3]) ∧ w = w' := by
  have v1 : (4000 : Int) < (s.size : Int) := by omega
  go_enter Try.func8, Try.ntmps8
  go_wp2_with fail
  go_step3
  go_wp2_with fail
  try rw [Exit.noGoto_ret]
  go_ret2
  exact ⟨rfl, rfl⟩
set_option maxRecDepth 100000 in
set_option maxHeartbeats 16000000 in
theorem read_calls (s : ByteArray) (w : World) (hs : s.size ≤ 4000) :
    Calls Try.prog 8 #[.string s] w fun e w' => ∃ v, e = .returned (.tuple #[v, .int .i64 0]) ∧ Kd.S k31 31 w' w.heap.size (fun _ => True) v (readF s.data.toList) ∧ Below w.heap.size w w' := by
  have hbs : ∀ W : World, (convert 9 45 (.string s)).run Try.prog W = _ := fun W => run_bytes_of_string (P := Try.prog) W 9 45 5 s Try.underlying9 Try.underlying45 Try.underlying5
  have hmf : ∀ (fn : Fn) (first cap : Array Value) (w : World), (Instr.makeFunc fn first cap).run Try.prog w = .ok (.func fn first cap) w := fun _ _ _ _ => rfl
  have v1 : decide ((4000 : Int) < (s.size : Int)) = false := by simp; omega
  have HS := Lib.hid hs
  clear hs
  go_enter Try.func8, Try.ntmps8
  go_wp2_with fail
  go_step3
  go_wp2_with fail
  go_step3
  go_wp2_with fail
  obtain ⟨cp, hcp⟩ : ∃ cp, cp = grownCap ((w.alloc (.cells #[.slice none 0 0] 24)).alloc (.cells #[.slice none 0 0] 45)) s.size 0 5 := ⟨_, rfl⟩
  rw [← hcp]
  have HGE := Lib.hid (show s.size ≤ cp by rw [hcp]; exact grownCap_ge _ _ _ _)
  clear hcp hbs
  have HI0 := Lib.hid (show RdI s cp w [] [] (.slice none 0 0) (.slice none 0 0) ((((w.alloc (.cells #[.slice none 0 0] 24)).alloc (.cells #[.slice none 0 0] 45)).alloc (.cells (bytesRow s cp) 5 ((bytesRow s cp).size, (bytesRow s cp).size + 1))).drew) from
    ⟨⟨((Blk.alloc w _ _).alloc_old _).alloc_old _, (Blk.alloc_at _ _ _ (by simp)).alloc_old _, Kd.S_nil _ _ _ _ _, World.ownsRow_nil _ _ _ _⟩, (by show Blz _ _ _ _; have h := heap_alloc_new ((w.alloc (.cells #[.slice none 0 0] 24)).alloc (.cells #[.slice none 0 0] 45)) (.cells (bytesRow s cp) 5 ((bytesRow s cp).size, (bytesRow s cp).size + 1)); have e : ((w.alloc (.cells #[.slice none 0 0] 24)).alloc (.cells #[.slice none 0 0] 45)).heap.size = w.heap.size + 1 + 1 := (by simp); rw [e] at h; exact h), below_drewN (below_alloc (below_alloc (below_alloc (Below.refl _ _) _) _) _) 1⟩)
  have HLL := Lib.hid (show s.data.toList.length = s.size by simp)
  obtain ⟨R, hR⟩ : ∃ R, rdL s.data.toList (s.data.toList.length + 1) 0 [] [] = R := ⟨_, rfl⟩
  have HRF := Lib.hid (show readF s.data.toList = R from hR)
  have HR0 := Lib.hid hR
  obtain ⟨i0, hi, hzz⟩ : ∃ i0, Try.prog.info? 5 = some i0 ∧ (i0.zero, i0.size, i0.bytes) = (some (.int .u8 0), 1, 1) := Option.map_eq_some_iff.1 (show (Try.prog.info? 5).map (fun i => (i.zero, i.size, i.bytes)) = some (some (.int .u8 0), 1, 1) by kernel_rfl)
  simp only [Prod.mk.injEq] at hzz
  obtain ⟨hz0, hz1, hz2⟩ := hzz
  have HIN := Lib.hid hi
  have HZ0 := Lib.hid hz0
  have HZS := Lib.hid hz1
  have HZB := Lib.hid hz2
  clear hi hz0 hz1 hz2 hR
  go_loopw [7] (fun bv wr => ∃ (f o a m c : Nat) (ts : List S31) (tx : List UInt8) (lv tv : Value), bv = .slice (some ⟨w.heap.size + 1 + 1, a, none⟩) m c ∧ m ≤ 4000 ∧ m ≤ c ∧ Hid (m = s.size - o ∧ o ≤ s.size) ∧ Hid (o < s.size → a = o) ∧ Hid (RdI s cp w ts tx lv tv wr) ∧ Hid (rdL s.data.toList f o ts tx = R) ∧ Hid (m < f) ∧ Hid (ts.length ≤ 2 * o) ∧ Hid (tx.length ≤ o)) (fun bv _ => slz bv)
  case atStart => exact ⟨s.data.toList.length + 1, 0, 0, s.size, cp, [], [], _, _, rfl, HS.out, HGE.out, Lib.hid (by omega), Lib.hid (fun _ => rfl), HI0, HR0, Lib.hid (by have := HLL.out; omega), Lib.hid (Nat.zero_le _), Lib.hid (Nat.zero_le _)⟩
  case round =>
    clear HI0
    obtain ⟨f, o, a, m, c, ts, tx, lv, tv, rfl, hm4, hmc, HM, HAO, HI, HL, HF, HLT, HLXO⟩ := hrel
    obtain ⟨f, rfl⟩ : ∃ f', f = f' + 1 := ⟨f - 1, by have := HF.out; omega⟩
    obtain ⟨A1, c1, hlv⟩ := Kd.S_slice HI.out.ei.lr
    obtain ⟨A2, c2, htv⟩ := own_sl HI.out.ei.tr
    subst hlv htv
    have HLT6 := Lib.hid (show ts.length ≤ 600000 from by have := HLT.out; have := HM.out; have := HS.out; omega)
    have HLX6 := Lib.hid (show tx.length ≤ 600000 from by have := HLXO.out; have := HM.out; have := HS.out; omega)
    have HLX := HLX6
    by_cases hz : m = 0
    · have HRR := Lib.hid (show endT ts tx = R from by
        have h := HL.out
        rw [rdL, List.getElem?_eq_none (by have := HLL.out; have := HM.out; omega)] at h
        exact h)
      have v3 : ¬ (0 : Int) < (m : Int) := by omega
      clear hz
      go_wp2_with (go_at_call 15; refine Calls.mono (end_calls w.heap.size w.heap.size (fun _ => True) ts tx (.slice A1 ts.length c1) (.slice A2 tx.length c2) _ HI.out.ei (fun _ _ => trivial) (Nat.le_refl _) HLT6.out HLX6.out) ?_; rintro e w5 ⟨rfl, lv5, hei, hch, hat⟩; have HE5 := Lib.hid hei; have HB5 := Lib.hid ((HI.out.ended hei hch).below); obtain ⟨A5, c5, hl5⟩ := Kd.S_slice hei.lr; subst hl5; have l5 : w5.cell? ⟨w.heap.size, 0, none⟩ = some (.slice A5 (endT ts tx).length c5) := hei.lc.cell 0; clear hei hch hat)
      try rw [Exit.noGoto_ret]
      go_ret2
      exact ⟨_, rfl, by rw [HRF.out, ← HRR.out]; exact HE5.out.lr, HB5.out⟩
    · have hm0 : 0 < m := by omega
      have v3 : (0 : Int) < (m : Int) := by omega
      have hol : o < s.data.toList.length := by have := HLL.out; have := HM.out; omega
      obtain ⟨d, hd⟩ : ∃ d, d = s.data.toList[o]'hol := ⟨_, rfl⟩
      have HD := Lib.hid hd
      have HGL := Lib.hid HI.out.by_.lt
      have HBT := Lib.hid (show ∀ y, Below wr.heap.size wr y → Bt y (w.heap.size + 1 + 1) a m c (s.data.toList.drop o) from fun y hy => by
        have h := ((HI.out.step hy).bt HGE.out).drop (k := o) (a' := a) (c' := c) HM.out.2 (fun h => by have := HM.out; rw [HAO.out (by omega), Nat.zero_add]) (by have := HM.out; omega)
        rw [← HM.out.1] at h
        exact h)
      have HDC := Lib.hid (show ∀ y, Below wr.heap.size wr y → y.cell? ⟨w.heap.size + 1 + 1, a, none⟩ = some (.int .u8 (d.toNat : Int)) from fun y hy => by
        have h : y.cell? ⟨w.heap.size + 1 + 1, a, none⟩ = some (.int .u8 (((s.data.toList.drop o)[0]'(by rw [List.length_drop]; omega)).toNat : Int)) := (HBT.out y hy).cell 0 (by rw [List.length_drop]; omega)
        rw [h, List.getElem_drop, hd]
        rfl)
      obtain ⟨a1, ha1⟩ : ∃ a1, a1 = bof a c 1 := ⟨_, rfl⟩
      have hsl : ∀ W : World, (Instr.slice 45 (.slice (some ⟨w.heap.size + 1 + 1, a, none⟩) m c) (some (.int .i64 1)) none none).run Try.prog W = .ok (.slice (some ⟨w.heap.size + 1 + 1, a1, none⟩) (m - 1) (c - 1)) W := fun W => by
        have h := slice_l W (w.heap.size + 1 + 1) a m c 1 (by omega) hmc
        rw [← ha1] at h
        exact h
      have HA1 := Lib.hid (show 1 < c → a1 = a + 1 from fun h => by rw [ha1]; exact bof_lt h)
      have HGO := Lib.hid (show s.data.toList[o]? = some d from by rw [hd]; exact List.getElem?_eq_getElem hol)
      clear ha1 hd hz
      have q0 := fun o1 o2 => HDC.out ((wr.alloc o1).alloc o2) (below_alloc (below_alloc (Below.refl _ _) _) _)
      by_cases h60 : d = 60
      · subst h60
        have HCA := Lib.hid (show ∀ y, Below wr.heap.size wr y → Calls Try.prog 21 #[.slice (some ⟨w.heap.size + 1 + 1, a, none⟩) m c] y fun e z => TkPost y.heap.size (w.heap.size + 1 + 1) a m (clR (s.data.toList.drop o)) e z ∧ Below y.heap.size y z from fun y hy => cl_tk _ a m c _ y (HBT.out y hy) (by omega))
        have HOA := Lib.hid (show ∀ y, Below wr.heap.size wr y → Calls Try.prog 22 #[.slice (some ⟨w.heap.size + 1 + 1, a, none⟩) m c] y fun e z => TkPost y.heap.size (w.heap.size + 1 + 1) a m (opR (s.data.toList.drop o)) e z ∧ Below y.heap.size y z from fun y hy => op_tk _ a m c _ y (HBT.out y hy) (by omega) hm0)
        have hL := HL.out
        rw [rdL, HGO.out] at hL
        dsimp only at hL
        rw [if_pos rfl, tkF_eq] at hL
        have HLA := Lib.hid hL
        clear hL HL
        cases hcl : clR (s.data.toList.drop o) with
        | some r =>
          obtain ⟨tok, u⟩ := r
          have HCL := Lib.hid (show ∀ y, Below wr.heap.size wr y → Calls Try.prog 21 #[.slice (some ⟨w.heap.size + 1 + 1, a, none⟩) m c] y fun e z => TkPost y.heap.size (w.heap.size + 1 + 1) a m (some (tok, u)) e z ∧ Below y.heap.size y z from fun y hy => by
            have h := HCA.out y hy
            rw [hcl] at h
            exact h)
          have HUM := Lib.hid (show u ≤ m ∧ 0 < u from by
            have h := tkF_le (l := s.data.toList.drop o) (t := tok) (u := u) (by rw [tkF_eq, hcl]; rfl)
            rw [List.length_drop] at h
            have := HLL.out; have := HM.out
            omega)
          have HLN := Lib.hid (show rdL s.data.toList f (o + u) (endT ts tx ++ [tok]) [] = R from by
            have h := HLA.out
            rw [hcl] at h
            exact h)
          obtain ⟨k0, n1, t2, as3⟩ := tok
          clear hcl HLA HCA HOA
          go_wp2_with (go_at_call 16; go_in)
          refine wp_loop_rounds 1 ?_
          rw [rounds_succ]
          go_wp2_with (first | (go_at_call 21; refine Calls.mono (HCL.out _ (by (repeat (first | exact HZ2.out | exact HZ1.out | exact Below.refl _ _ | apply below_alloc)))) ?_; rintro e z1 ⟨hp, hb⟩; obtain ⟨cs, a6, hM, ha6, rfl⟩ := hp; have HZ1 := Lib.hid (show Below wr.heap.size wr z1 from bel_trans (by (repeat (first | exact HZ2.out | exact HZ1.out | exact Below.refl _ _ | apply below_alloc))) hb); have HZW := Lib.hid HZ1.out.size; have HA6 := Lib.hid ha6; have HMT := Lib.hid (tk_M hM HI.out.below.size (Below.size (by (repeat (first | exact HZ2.out | exact HZ1.out | exact Below.refl _ _ | apply below_alloc))))); obtain ⟨v3, hcs, hrow⟩ := k31_openM hM; dsimp only at hcs hrow; obtain ⟨A3, c3, hv3⟩ := Kd.R_slice hrow; subst hv3 hcs; clear hM hb hrow ha6) | (go_at_call 15; refine Calls.mono (end_calls w.heap.size w.heap.size (fun k => ¬ (wr.heap.size ≤ k ∧ k < z1.heap.size)) ts tx (.slice A1 ts.length c1) (.slice A2 tx.length c2) _ (rdi_end HI.out (by (repeat (first | exact HZ2.out | exact HZ1.out | exact Below.refl _ _ | apply below_alloc))) _) (by intro k hk; simp at hk; omega) (Nat.le_refl _) HLT6.out HLX6.out) ?_; rintro e w5 ⟨rfl, lv5, hei, hch, hat⟩; have HE5 := Lib.hid hei; have HC5 := Lib.hid hch; have HA5 := Lib.hid (app_i HI.out HMT.out ((Below.refl _ _).alloc (Nat.le_refl _) _) hei hch); have HB5 := Lib.hid (((HI.out.step (by (repeat (first | exact HZ2.out | exact HZ1.out | exact Below.refl _ _ | apply below_alloc)))).ended ⟨hei.lc, hei.tc, Kd.S_mono hei.lr (fun _ _ => trivial), hei.tr⟩ hch).below); obtain ⟨A5, c5, hl5⟩ := Kd.S_slice hei.lr; subst hl5; have l5 : w5.cell? ⟨w.heap.size, 0, none⟩ = some (.slice A5 (endT ts tx).length c5) := hei.lc.cell 0; have hzt : Blk w5 z1.heap.size #[.int .i64 k0, .string n1, .string t2, .slice A3 as3.length c3] 31 := ((Blk.alloc z1 _ _).of_block (hch.block _ (by simp) (by have := HZW.out; have := HI.out.ei.tc.lt; omega) (by have := HZW.out; have := HI.out.ei.tc.lt; omega) (fun e => by have := Kd.S_lt HI.out.ei.lr _ e.symm; have := HZW.out; omega))); have t0 := hzt.cell 0; have t1 := hzt.cell 1; have t2_ := hzt.cell 2; have t3 := hzt.cell 3; simp only [List.getElem?_toArray, List.getElem?_cons_zero, List.getElem?_cons_succ] at t0 t1 t2_ t3; clear hei hch hat hzt) | (at_builtin; refine Kd.S_append k31 (w0 := w) w.heap.size rfl _ _ 24 31 (.agg #[.int .i64 0, .string ⟨#[]⟩, .string ⟨#[]⟩, .slice none 0 0]) 64 rfl Try.underlying24 info_token rfl (by decide) (by decide) (.slice A5 (endT ts tx).length c5) (endT ts tx) ⟨k0, n1, t2, as3⟩ [.int .i64 k0, .string n1, .string t2, .slice A3 as3.length c3] (fun _ => True) (fun k => wr.heap.size ≤ k ∧ k < z1.heap.size) rfl rfl HA5.out.hp HA5.out.hokp (fun _ _ => trivial) HA5.out.ho HB5.out HB5.out.size (by have := endT_len ts tx; have := HLT6.out; omega) ?_; intro v1 w6 hr hb6 hg6 hat6; have HAP := Lib.hid (rdi_app HI.out (by (repeat (first | exact HZ2.out | exact HZ1.out | exact Below.refl _ _ | apply below_alloc))) HE5.out HC5.out hr hb6 hg6); obtain ⟨A6, c6, hv6⟩ := Kd.S_slice hr; rw [List.length_append, List.length_singleton] at hv6; subst hv6; have l6 : w6.cell? ⟨w.heap.size, 0, none⟩ = some (.slice A5 (endT ts tx).length c5) := HAP.out.1.cell 0; have f6 : w6.frozen? ⟨w.heap.size, 0, none⟩ = false := HAP.out.1.free 0; clear hr hb6 hg6 hat6))
          go_roundw
          case rel => exact ⟨f, o + u, a6, m - u, m - u, endT ts tx ++ [⟨k0, n1, t2, as3⟩], [], _, _, rfl, by have := HUM.out; omega, Nat.le_refl _, Lib.hid (by have := HM.out; have := HUM.out; omega), Lib.hid (fun h => by have := HM.out; have := HUM.out; rw [HA6.out (by omega), HAO.out (by omega)]), Lib.hid HAP.out.2, HLN, Lib.hid (by have := HF.out; have := HUM.out; omega), Lib.hid (by rw [List.length_append, List.length_singleton]; have := endT_len ts tx; have := HLT.out; have := HUM.out; omega), Lib.hid (Nat.zero_le _)⟩
          case measure => show slz _ < slz _; have := HUM.out; simp only [slz]; omega
        | none =>
          have HCL := Lib.hid (show ∀ y, Below wr.heap.size wr y → Calls Try.prog 21 #[.slice (some ⟨w.heap.size + 1 + 1, a, none⟩) m c] y fun e z => TkPost y.heap.size (w.heap.size + 1 + 1) a m none e z ∧ Below y.heap.size y z from fun y hy => by
            have h := HCA.out y hy
            rw [hcl] at h
            exact h)
          cases hop : opR (s.data.toList.drop o) with
          | some r =>
            obtain ⟨tok, u⟩ := r
            have HOP := Lib.hid (show ∀ y, Below wr.heap.size wr y → Calls Try.prog 22 #[.slice (some ⟨w.heap.size + 1 + 1, a, none⟩) m c] y fun e z => TkPost y.heap.size (w.heap.size + 1 + 1) a m (some (tok, u)) e z ∧ Below y.heap.size y z from fun y hy => by
              have h := HOA.out y hy
              rw [hop] at h
              exact h)
            have HUM := Lib.hid (show u ≤ m ∧ 0 < u from by
              have h := tkF_le (l := s.data.toList.drop o) (t := tok) (u := u) (by rw [tkF_eq, hcl, hop]; rfl)
              rw [List.length_drop] at h
              have := HLL.out; have := HM.out
              omega)
            have HLN := Lib.hid (show rdL s.data.toList f (o + u) (endT ts tx ++ [tok]) [] = R from by
              have h := HLA.out
              rw [hcl, hop] at h
              exact h)
            obtain ⟨k0, n1, t2, as3⟩ := tok
            clear hcl hop HLA HCA HOA
            go_wp2_with (go_at_call 16; go_in)
            refine wp_loop_rounds 2 ?_
            rw [rounds_succ]
            go_wp2_with (go_at_call 21; refine Calls.mono (HCL.out _ (by (repeat (first | exact HZ2.out | exact HZ1.out | exact Below.refl _ _ | apply below_alloc)))) ?_; rintro e z1 ⟨hp, hb⟩; have hp' : e = .returned (.tuple #[.agg #[.int .i64 0, .string ⟨#[]⟩, .string ⟨#[]⟩, .slice none 0 0], .slice none 0 0, .bool false]) := hp; subst hp'; have HZ1 := Lib.hid (show Below wr.heap.size wr z1 from bel_trans (by (repeat (first | exact HZ2.out | exact HZ1.out | exact Below.refl _ _ | apply below_alloc))) hb); have HFB := Lib.hid (show Blk z1 wr.heap.size #[.func (.func 21) #[] #[], .func (.func 22) #[] #[]] 50 from ((Blk.alloc wr _ _).alloc_old _).below hb (by simp; omega)); have ff1 : ∀ o, (z1.alloc o).cell? ⟨wr.heap.size, 1, none⟩ = some (.func (.func 22) #[] #[]) := (fun o => (HFB.out.alloc_old o).cell 1); have q1 := fun o1 o2 => HDC.out ((z1.alloc o1).alloc o2) (below_alloc (below_alloc HZ1.out _) _); clear hb hp)
            rw [rounds_succ]
            go_wp2_with (first | (go_at_call 22; refine Calls.mono (HOP.out _ (by (repeat (first | exact HZ2.out | exact HZ1.out | exact Below.refl _ _ | apply below_alloc)))) ?_; rintro e z2 ⟨hp, hb⟩; obtain ⟨cs, a6, hM, ha6, rfl⟩ := hp; have HZ2 := Lib.hid (show Below wr.heap.size wr z2 from bel_trans (by (repeat (first | exact HZ2.out | exact HZ1.out | exact Below.refl _ _ | apply below_alloc))) hb); have HZW := Lib.hid HZ2.out.size; have HA6 := Lib.hid ha6; have HMT := Lib.hid (tk_M hM HI.out.below.size (Below.size (by (repeat (first | exact HZ2.out | exact HZ1.out | exact Below.refl _ _ | apply below_alloc))))); obtain ⟨v3, hcs, hrow⟩ := k31_openM hM; dsimp only at hcs hrow; obtain ⟨A3, c3, hv3⟩ := Kd.R_slice hrow; subst hv3 hcs; clear hM hb hrow ha6) | (go_at_call 15; refine Calls.mono (end_calls w.heap.size w.heap.size (fun k => ¬ (wr.heap.size ≤ k ∧ k < z2.heap.size)) ts tx (.slice A1 ts.length c1) (.slice A2 tx.length c2) _ (rdi_end HI.out (by (repeat (first | exact HZ2.out | exact HZ1.out | exact Below.refl _ _ | apply below_alloc))) _) (by intro k hk; simp at hk; omega) (Nat.le_refl _) HLT6.out HLX6.out) ?_; rintro e w5 ⟨rfl, lv5, hei, hch, hat⟩; have HE5 := Lib.hid hei; have HC5 := Lib.hid hch; have HA5 := Lib.hid (app_i HI.out HMT.out ((Below.refl _ _).alloc (Nat.le_refl _) _) hei hch); have HB5 := Lib.hid (((HI.out.step (by (repeat (first | exact HZ2.out | exact HZ1.out | exact Below.refl _ _ | apply below_alloc)))).ended ⟨hei.lc, hei.tc, Kd.S_mono hei.lr (fun _ _ => trivial), hei.tr⟩ hch).below); obtain ⟨A5, c5, hl5⟩ := Kd.S_slice hei.lr; subst hl5; have l5 : w5.cell? ⟨w.heap.size, 0, none⟩ = some (.slice A5 (endT ts tx).length c5) := hei.lc.cell 0; have hzt : Blk w5 z2.heap.size #[.int .i64 k0, .string n1, .string t2, .slice A3 as3.length c3] 31 := ((Blk.alloc z2 _ _).of_block (hch.block _ (by simp) (by have := HZW.out; have := HI.out.ei.tc.lt; omega) (by have := HZW.out; have := HI.out.ei.tc.lt; omega) (fun e => by have := Kd.S_lt HI.out.ei.lr _ e.symm; have := HZW.out; omega))); have t0 := hzt.cell 0; have t1 := hzt.cell 1; have t2_ := hzt.cell 2; have t3 := hzt.cell 3; simp only [List.getElem?_toArray, List.getElem?_cons_zero, List.getElem?_cons_succ] at t0 t1 t2_ t3; clear hei hch hat hzt) | (at_builtin; refine Kd.S_append k31 (w0 := w) w.heap.size rfl _ _ 24 31 (.agg #[.int .i64 0, .string ⟨#[]⟩, .string ⟨#[]⟩, .slice none 0 0]) 64 rfl Try.underlying24 info_token rfl (by decide) (by decide) (.slice A5 (endT ts tx).length c5) (endT ts tx) ⟨k0, n1, t2, as3⟩ [.int .i64 k0, .string n1, .string t2, .slice A3 as3.length c3] (fun _ => True) (fun k => wr.heap.size ≤ k ∧ k < z2.heap.size) rfl rfl HA5.out.hp HA5.out.hokp (fun _ _ => trivial) HA5.out.ho HB5.out HB5.out.size (by have := endT_len ts tx; have := HLT6.out; omega) ?_; intro v1 w6 hr hb6 hg6 hat6; have HAP := Lib.hid (rdi_app HI.out (by (repeat (first | exact HZ2.out | exact HZ1.out | exact Below.refl _ _ | apply below_alloc))) HE5.out HC5.out hr hb6 hg6); obtain ⟨A6, c6, hv6⟩ := Kd.S_slice hr; rw [List.length_append, List.length_singleton] at hv6; subst hv6; have l6 : w6.cell? ⟨w.heap.size, 0, none⟩ = some (.slice A5 (endT ts tx).length c5) := HAP.out.1.cell 0; have f6 : w6.frozen? ⟨w.heap.size, 0, none⟩ = false := HAP.out.1.free 0; clear hr hb6 hg6 hat6))
            go_roundw
            case rel => exact ⟨f, o + u, a6, m - u, m - u, endT ts tx ++ [⟨k0, n1, t2, as3⟩], [], _, _, rfl, by have := HUM.out; omega, Nat.le_refl _, Lib.hid (by have := HM.out; have := HUM.out; omega), Lib.hid (fun h => by have := HM.out; have := HUM.out; rw [HA6.out (by omega), HAO.out (by omega)]), Lib.hid HAP.out.2, HLN, Lib.hid (by have := HF.out; have := HUM.out; omega), Lib.hid (by rw [List.length_append, List.length_singleton]; have := endT_len ts tx; have := HLT.out; have := HUM.out; omega), Lib.hid (Nat.zero_le _)⟩
            case measure => show slz _ < slz _; have := HUM.out; simp only [slz]; omega
          | none =>
            have HOP := Lib.hid (show ∀ y, Below wr.heap.size wr y → Calls Try.prog 22 #[.slice (some ⟨w.heap.size + 1 + 1, a, none⟩) m c] y fun e z => TkPost y.heap.size (w.heap.size + 1 + 1) a m none e z ∧ Below y.heap.size y z from fun y hy => by
              have h := HOA.out y hy
              rw [hop] at h
              exact h)
            have HLN := Lib.hid (show rdL s.data.toList f (o + 1) ts (tx ++ [60]) = R from by
              have h := HLA.out
              rw [hcl, hop] at h
              exact h)
            obtain ⟨d, hd⟩ : ∃ d, d = (60 : UInt8) := ⟨_, rfl⟩
            have HD60 := Lib.hid hd
            rw [← hd] at HLN HD
            clear hcl hop HLA HCA HOA hd
            go_wp2_with (go_at_call 16; go_in)
            refine wp_loop_rounds 3 ?_
            rw [rounds_succ]
            go_wp2_with (go_at_call 21; refine Calls.mono (HCL.out _ (by (repeat (first | exact HZ2.out | exact HZ1.out | exact Below.refl _ _ | apply below_alloc)))) ?_; rintro e z1 ⟨hp, hb⟩; have hp' : e = .returned (.tuple #[.agg #[.int .i64 0, .string ⟨#[]⟩, .string ⟨#[]⟩, .slice none 0 0], .slice none 0 0, .bool false]) := hp; subst hp'; have HZ1 := Lib.hid (show Below wr.heap.size wr z1 from bel_trans (by (repeat (first | exact HZ2.out | exact HZ1.out | exact Below.refl _ _ | apply below_alloc))) hb); have HFB := Lib.hid (show Blk z1 wr.heap.size #[.func (.func 21) #[] #[], .func (.func 22) #[] #[]] 50 from ((Blk.alloc wr _ _).alloc_old _).below hb (by simp; omega)); have ff1 : ∀ o, (z1.alloc o).cell? ⟨wr.heap.size, 1, none⟩ = some (.func (.func 22) #[] #[]) := (fun o => (HFB.out.alloc_old o).cell 1); have q1 := fun o1 o2 => HDC.out ((z1.alloc o1).alloc o2) (below_alloc (below_alloc HZ1.out _) _); clear hb hp)
            rw [rounds_succ]
            go_wp2_with (go_at_call 22; refine Calls.mono (HOP.out _ (by (repeat (first | exact HZ2.out | exact HZ1.out | exact Below.refl _ _ | apply below_alloc)))) ?_; rintro e z2 ⟨hp, hb⟩; have hp' : e = .returned (.tuple #[.agg #[.int .i64 0, .string ⟨#[]⟩, .string ⟨#[]⟩, .slice none 0 0], .slice none 0 0, .bool false]) := hp; subst hp'; have HZ2 := Lib.hid (show Below wr.heap.size wr z2 from bel_trans (by (repeat (first | exact HZ2.out | exact HZ1.out | exact Below.refl _ _ | apply below_alloc))) hb); clear hb hp)
            rw [rounds_succ]
            go_upto_region 17 with (fail)
            have HI17 := Lib.hid (HI.out.step (z := (z2.alloc (.cells #[.int .i64 0, .string ⟨#[]⟩, .string ⟨#[]⟩, .slice none 0 0] 31))) (below_alloc HZ2.out _))
            obtain ⟨W17, hW17⟩ : ∃ W17, W17 = (z2.alloc (.cells #[.int .i64 0, .string ⟨#[]⟩, .string ⟨#[]⟩, .slice none 0 0] 31)) := ⟨_, rfl⟩
            rw [← hW17] at HI17 ⊢
            clear hW17
            have d0 : W17.cell? ⟨w.heap.size + 1, 0, none⟩ = some (.slice A2 tx.length c2) := HI17.out.ei.tc.cell 0
            have d0' : ∀ o, (W17.alloc o).cell? ⟨w.heap.size + 1, 0, none⟩ = some (.slice A2 tx.length c2) := fun o => (HI17.out.ei.tc.alloc_old o).cell 0
            have c0 : W17.cell? ⟨w.heap.size + 1 + 1, a, none⟩ = some (.int .u8 (d.toNat : Int)) := by rw [HAO.out (by have := HM.out; omega)]; have h := (HI17.out.bt HGE.out).cell o (by have := HLL.out; have := HM.out; omega); rw [Nat.zero_add] at h; rw [h, ← HD.out]
            have HOW := Lib.hid (show ((W17.alloc (.cells #[.int .u8 (d.toNat : Int)] 5)).drew).ownsRow w.heap.size 5 1 (.slice A2 tx.length c2) tx.length (byc tx) from World.ownsRow.drew (HI17.out.ei.tr.alloc _))
            have HUC := Lib.hid (show ((W17.alloc (.cells #[.int .u8 (d.toNat : Int)] 5)).drew).cell? ⟨W17.heap.size, 0, none⟩ = some (.int .u8 (d.toNat : Int)) from (Blk.alloc W17 #[.int .u8 (d.toNat : Int)] 5).cell 0)
            have HBS := Lib.hid (show w.heap.size ≤ ((W17.alloc (.cells #[.int .u8 (d.toNat : Int)] 5)).drew).heap.size from Nat.le_trans HI17.out.below.size (by show W17.heap.size ≤ (W17.heap.push _).size; simp))
            have HBY := Lib.hid (show Below W17.heap.size W17 ((W17.alloc (.cells #[.int .u8 (d.toNat : Int)] 5)).drew) from below_drewN ((Below.refl _ _).alloc (Nat.le_refl _) _) 1)
            go_region_law ((refine own_app_step (by rfl) _ _ 45 5 (by rfl) i0 (.int .u8 0) 1 Try.underlying45 HIN.out HZ0.out HZS.out HZB.out rfl w.heap.size (.slice A2 tx.length c2) tx.length (byc tx) (by rfl) W17.heap.size (by rfl) (.int .u8 (d.toNat : Int)) HUC.out rfl HOW.out (by have := HLX.out; unfold maxLen; omega) (by have := HLX.out; omega) HBS.out ?_; intro v1 w4 hown4 hg4 hat4; have HT4 := Lib.hid (rdi_text HI17.out HBY.out hown4 hg4); obtain ⟨A4, c4, hv4⟩ := own_sl hown4; subst hv4; have e4 : w4.cell? ⟨w.heap.size + 1, 0, none⟩ = some (.slice A2 tx.length c2) := HT4.out.1.cell 0; have f4 : w4.frozen? ⟨w.heap.size + 1, 0, none⟩ = false := HT4.out.1.free 0; clear hown4 hg4 hat4))
            all_goals
              show Exit.inBlock _ _ _ _ _
              go_roundw
              case rel => (repeat apply Exists.intro); exact ⟨⟨f, o + 1, a1, m - 1, c - 1, ts, tx ++ [d], _, _, rfl, by omega, by omega, Lib.hid (by have := HM.out; omega), Lib.hid (fun h => by have := HM.out; rw [HA1.out (by omega), HAO.out (by omega)]), Lib.hid HT4.out.2, HLN, Lib.hid (by have := HF.out; omega), Lib.hid (by have := HLT.out; omega), Lib.hid (by rw [List.length_append]; have := HLXO.out; simp; omega)⟩, rfl⟩
              case measure => show slz _ < slz _; (try simp only [slz]); show m - 1 < m; omega
      · have v61 : ((d.toNat : Int) != 60) = true := by
          have : d.toNat ≠ 60 := fun h => h60 (by apply UInt8.toNat_inj.1; exact h)
          simp; omega
        have HLN := Lib.hid (show rdL s.data.toList f (o + 1) ts (tx ++ [d]) = R from by
          have h := HL.out
          rw [rdL, HGO.out] at h
          dsimp only at h
          rw [if_neg h60] at h
          exact h)
        clear HL h60
        go_wp2_with (go_at_call 16; go_in)
        refine wp_loop_rounds 1 ?_
        rw [rounds_succ]
        go_upto_region 17 with (fail)
        have HI17 := Lib.hid (HI.out.step (z := ((wr.alloc (.cells #[.func (.func 21) #[] #[], .func (.func 22) #[] #[]] 50)).alloc (.cells #[.func (.func 21) #[] #[]] 50))) (below_alloc (below_alloc (Below.refl _ _) _) _))
        obtain ⟨W17, hW17⟩ : ∃ W17, W17 = ((wr.alloc (.cells #[.func (.func 21) #[] #[], .func (.func 22) #[] #[]] 50)).alloc (.cells #[.func (.func 21) #[] #[]] 50)) := ⟨_, rfl⟩
        rw [← hW17] at HI17 ⊢
        clear hW17
        have d0 : W17.cell? ⟨w.heap.size + 1, 0, none⟩ = some (.slice A2 tx.length c2) := HI17.out.ei.tc.cell 0
        have d0' : ∀ o, (W17.alloc o).cell? ⟨w.heap.size + 1, 0, none⟩ = some (.slice A2 tx.length c2) := fun o => (HI17.out.ei.tc.alloc_old o).cell 0
        have c0 : W17.cell? ⟨w.heap.size + 1 + 1, a, none⟩ = some (.int .u8 (d.toNat : Int)) := by rw [HAO.out (by have := HM.out; omega)]; have h := (HI17.out.bt HGE.out).cell o (by have := HLL.out; have := HM.out; omega); rw [Nat.zero_add] at h; rw [h, ← HD.out]
        have HOW := Lib.hid (show ((W17.alloc (.cells #[.int .u8 (d.toNat : Int)] 5)).drew).ownsRow w.heap.size 5 1 (.slice A2 tx.length c2) tx.length (byc tx) from World.ownsRow.drew (HI17.out.ei.tr.alloc _))
        have HUC := Lib.hid (show ((W17.alloc (.cells #[.int .u8 (d.toNat : Int)] 5)).drew).cell? ⟨W17.heap.size, 0, none⟩ = some (.int .u8 (d.toNat : Int)) from (Blk.alloc W17 #[.int .u8 (d.toNat : Int)] 5).cell 0)
        have HBS := Lib.hid (show w.heap.size ≤ ((W17.alloc (.cells #[.int .u8 (d.toNat : Int)] 5)).drew).heap.size from Nat.le_trans HI17.out.below.size (by show W17.heap.size ≤ (W17.heap.push _).size; simp))
        have HBY := Lib.hid (show Below W17.heap.size W17 ((W17.alloc (.cells #[.int .u8 (d.toNat : Int)] 5)).drew) from below_drewN ((Below.refl _ _).alloc (Nat.le_refl _) _) 1)
        go_region_law ((refine own_app_step (by rfl) _ _ 45 5 (by rfl) i0 (.int .u8 0) 1 Try.underlying45 HIN.out HZ0.out HZS.out HZB.out rfl w.heap.size (.slice A2 tx.length c2) tx.length (byc tx) (by rfl) W17.heap.size (by rfl) (.int .u8 (d.toNat : Int)) HUC.out rfl HOW.out (by have := HLX.out; unfold maxLen; omega) (by have := HLX.out; omega) HBS.out ?_; intro v1 w4 hown4 hg4 hat4; have HT4 := Lib.hid (rdi_text HI17.out HBY.out hown4 hg4); obtain ⟨A4, c4, hv4⟩ := own_sl hown4; subst hv4; have e4 : w4.cell? ⟨w.heap.size + 1, 0, none⟩ = some (.slice A2 tx.length c2) := HT4.out.1.cell 0; have f4 : w4.frozen? ⟨w.heap.size + 1, 0, none⟩ = false := HT4.out.1.free 0; clear hown4 hg4 hat4))
        all_goals
          show Exit.inBlock _ _ _ _ _
          go_roundw
          case rel => (repeat apply Exists.intro); exact ⟨⟨f, o + 1, a1, m - 1, c - 1, ts, tx ++ [d], _, _, rfl, by omega, by omega, Lib.hid (by have := HM.out; omega), Lib.hid (fun h => by have := HM.out; rw [HA1.out (by omega), HAO.out (by omega)]), Lib.hid HT4.out.2, HLN, Lib.hid (by have := HF.out; omega), Lib.hid (by have := HLT.out; omega), Lib.hid (by rw [List.length_append]; have := HLXO.out; simp; omega)⟩, rfl⟩
          case measure => show slz _ < slz _; (try simp only [slz]); show m - 1 < m; omega
end Go.Proofs.Ytkjgnkmnngaioaa.Q
