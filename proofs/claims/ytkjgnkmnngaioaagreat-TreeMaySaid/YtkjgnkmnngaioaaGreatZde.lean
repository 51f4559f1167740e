/- What the proof of treeMay_holds needs, of the texts that this work has written and of the words that the kit's print lends. -/
import Derived.Test.YtkjgnkmnngaioaaGreatZdd
import Derived.Test.YtkjgnkmnngaioaaGreatZda
import Derived.Test.YtkjgnkmnngaioaaGreatZdb
import Derived.Laws.StructEq
import Derived.Test.YtkjgnkmnngaioaaGreatProg
import Derived.Below
import Derived.Deep.Draws
import Derived.Deep.AppendLies
import Derived.Maps.AppendAt
import Derived.OwnWalk
import Derived.Laws.BytesArg
import Derived.Laws.MakeOwn
import Derived.Laws.OwnMore
import Derived.Deep.OwnRows
import Derived.Tactics
import Derived.Lib.ConvBytes
import Derived.Laws.Slices
import Derived.WalkKit
import Derived.KernelRfl
import Derived.RowKit3
import Derived.Deep.LoopGhost
import Derived.Deep.QuietTactic
import Derived.BigQuiet
import Derived.WideLaws
import Derived.Deep.DeepCutAuto
import Derived.Deep.CutBlock
import Derived.Deep.RegionHeld3
import Derived.Laws.Rows
import Derived.Lib.AppendStr
import Derived.ArgAppend
import Derived.Laws.IdiomCopy
import Derived.OrdersHeld
import Derived.Laws.BitsLemmas
import Derived.RowKit
namespace Go.Proofs.YtkjgnkmnngaioaaGreatW.PrintWords
open Go.RowKit
namespace Kd
/-- The cells one behind the other, element by element. -/
def chunks (sz : Nat) (n : Nat) (inner : List Value) : List (List Value) := (List.range n).map fun j => (inner.drop (j * sz)).take sz
theorem chunks_length (sz n : Nat) (inner : List Value) : (chunks sz n inner).length = n := by simp [chunks]
theorem chunks_at {sz n : Nat} {inner : List Value} {j : Nat} (hj : j < n) : (chunks sz n inner)[j]? = some ((inner.drop (j * sz)).take sz) := by simp [chunks, hj]
theorem chunks_get {sz n : Nat} {inner : List Value} {j : Nat} {c : List Value} (h : (chunks sz n inner)[j]? = some c) : c = (inner.drop (j * sz)).take sz := by
  have hj : j < n := by have := (List.getElem?_eq_some_iff.1 h).1; rwa [chunks_length] at this
  rw [chunks_at hj] at h
  injection h with h
  exact h.symm
theorem reps_raw {α : Type} {Rr : α → List Value → Prop} {sz : Nat} {xs : List α} {inner : List Value} (h : Reps Rr sz xs inner) (hR : ∀ x c, Rr x c → c.length = sz ∧ ∀ u ∈ c, u.oneCell' = true) : Reps (fun x cs => cs = x ∧ cs.length = sz ∧ ∀ u ∈ cs, u.oneCell' = true) sz (chunks sz xs.length inner) inner := by
  refine ⟨by rw [chunks_length]; exact h.1, fun j p hj => ?_⟩
  have hjl : j < xs.length := by have := (List.getElem?_eq_some_iff.1 hj).1; rwa [chunks_length] at this
  have hp := chunks_get hj
  exact ⟨hp.symm, hR _ _ (h.2 j _ (List.getElem?_eq_getElem hjl))⟩
section
variable {α : Type} {d : Kd α} {e base n cc g : Nat} {ok ok' okp S : Nat → Prop} {w w1 W W1 : World} {A : Option Addr} {u v v1 : Value} {xs : List α} {x : α} {c : List Value}
/-- Element i of a row that is read: its cells, and what they lead to, in ok. -/
theorem F_get (h : F d W ok A n xs) (z : α) (i : Int) (h0 : 0 ≤ i) (h1 : i < n) :
    ∃ ad c, A = some ad ∧ c.length = d.sz ∧ FK d W ok (xs.getD i.toNat z) c ∧ (∀ j u, c[j]? = some u → W.cell? (ad.add (i.toNat * d.sz + j)) = some u) ∧ (0 < d.sz → ok ad.block) := by
  obtain ⟨ad, c, rfl, hcl, hK, hcc⟩ := C_get (F_now h) z i h0 h1
  have hin : 0 < d.sz → ok ad.block := by
    intro hs
    by_cases hk : ok ad.block
    · exact hk
    · obtain ⟨W', h2, h3⟩ := emptied W ad.block
      obtain ⟨ad', c', he, hcl', _, hcc'⟩ := C_get (h W' (fun k hk' _ => h2 k (fun e => hk (e ▸ hk')))) z i h0 h1
      injection he with he
      subst he
      have h4 := hcc' 0 _ (List.getElem?_eq_getElem (by omega))
      rw [h3 _ (add_block _ _)] at h4
      cases h4
  refine ⟨ad, c, rfl, hcl, fun W' hW => ?_, hcc, hin⟩
  obtain ⟨ad', c', he, hcl', hK', hcc'⟩ := C_get (h W' hW) z i h0 h1
  injection he with he
  subst he
  have hc : c = c' := by
    apply List.ext_getElem?
    intro j
    by_cases hj : j < d.sz
    · have hb : W'.heap[ad.block]? = W.heap[ad.block]? := by
        have h5 := hcc j _ (List.getElem?_eq_getElem (by omega))
        have h6 := World.block_lt_of_cell? W _ h5
        rw [add_block] at h6
        exact hW _ (hin (by omega)) h6
      have h5 := hcc j _ (List.getElem?_eq_getElem (by omega))
      have h6 := hcc' j _ (List.getElem?_eq_getElem (by omega))
      have h7 : W'.cell? (ad.add (i.toNat * d.sz + j)) = W.cell? (ad.add (i.toNat * d.sz + j)) := by simp [World.cell?, add_block, hb]
      rw [h7, h5] at h6
      rw [List.getElem?_eq_getElem (by omega), List.getElem?_eq_getElem (by omega)]
      exact h6
    · rw [List.getElem?_eq_none (by omega), List.getElem?_eq_none (by omega)]
  rw [hc]
  exact hK'
/-- .. as_ a row of such elements. -/
theorem F_rows (h : F d W ok A n xs) : ReadsRow (fun x c => FK d W ok x c) d.sz W A n xs := by
  obtain ⟨hl, hm, hn⟩ := F_now h
  refine ⟨hl, hm, fun hp => ?_⟩
  obtain ⟨ad, rfl, _⟩ := hn hp
  refine ⟨ad, rfl, fun j p hj => ?_⟩
  obtain ⟨hjl, hjp⟩ := List.getElem?_eq_some_iff.1 hj
  obtain ⟨ad', c, he, hcl, hK, hcc, _⟩ := F_get h p (j : Int) (by omega) (by omega)
  injection he with he
  subst he
  simp only [Int.toNat_natCast] at hK hcc
  rw [List.getD_eq_getElem?_getD, hj] at hK
  exact ⟨c, hcl, hK, hcc⟩
/-- A row of elements (type e) of the call's own; what the elements lead to is only read, and is not this row. -/
def N {α : Type} (d : Kd α) (e : Nat) (w : World) (base : Nat) (ok : Nat → Prop) (v : Value) (xs : List α) : Prop :=
  (∀ k, v.ownBlock = some k → ok k) ∧ ∃ rows : List (List Value), rows.length = xs.length ∧ (raw d.sz).R e w base (fun k => some k = v.ownBlock) v rows ∧ ∀ (j : Nat) (x : α) (c : List Value), xs[j]? = some x → rows[j]? = some c → FK d w (fun k => ok k ∧ some k ≠ v.ownBlock) x c
theorem raw_tight {sz : Nat} {rows : List (List Value)} (h : (raw sz).R e w base ok v rows) : (raw sz).R e w base (fun k => some k = v.ownBlock) v rows := R_tight rfl h
theorem raw_any {sz : Nat} {rows : List (List Value)} (h : (raw sz).R e w base ok v rows) : (raw sz).R e w base (fun _ => True) v rows := R_mono h (fun _ _ => trivial)
theorem R_N (h : d.R e w base ok v xs) : N d e w base ok v xs := by
  obtain ⟨h0, inner, ho, hr⟩ := h
  refine ⟨h0, chunks d.sz xs.length inner, chunks_length _ _ _, ⟨fun k hk => hk.symm, inner, by rw [chunks_length]; exact ho, reps_raw hr (fun x c hp => ⟨d.K_len (d.K_of_M hp), d.K_one (d.K_of_M hp)⟩)⟩, fun j x c hx hc => ?_⟩
  rw [chunks_get hc]
  exact FK_of_M (hr.2 j x hx)
theorem N_nil (d : Kd α) (e : Nat) (w : World) (base : Nat) (ok : Nat → Prop) : N d e w base ok (.slice none 0 0) [] := R_N (R_nil _ _ _ _ _)
theorem N_lt (h : N d e w base ok v xs) : ∀ k, v.ownBlock = some k → k < w.heap.size := by
  obtain ⟨_, rows, _, hR, _⟩ := h
  exact R_lt hR
theorem N_base (h : N d e w base ok v xs) : ∀ k, v.ownBlock = some k → base ≤ k := by
  obtain ⟨_, rows, _, hR, _⟩ := h
  exact R_base hR
theorem N_lower {base' : Nat} (h : N d e w base ok v xs) (hb : base' ≤ base) : N d e w base' ok v xs := by
  obtain ⟨h0, rows, hl, hR, hf⟩ := h
  exact ⟨h0, rows, hl, R_lower hR hb, hf⟩
theorem N_step (h : N d e w base ok v xs) (hm : ∀ k, ok k → k < w.heap.size → w1.heap[k]? = w.heap[k]?) : N d e w1 base ok v xs := by
  obtain ⟨h0, rows, hl, hR, hf⟩ := h
  exact ⟨h0, rows, hl, R_step hR (fun k hk hlt => hm k (h0 k hk.symm) hlt), fun j x c hx hc => FK_step (hf j x c hx hc) (fun k hk hlt => hm k hk.1 hlt)⟩
theorem N_below (h : N d e w base ok v xs) (hb : Below w.heap.size w w1) : N d e w1 base ok v xs := N_step h (fun k _ hk => hb.block k hk)
theorem N_drewN (h : N d e w base ok v xs) (m : Nat) : N d e (w.drewN m) base ok v xs := N_below h (pw_below_drewN (Below.refl _ _) m)
theorem N_slice (h : N d e w base ok v xs) : ∃ A c, v = .slice A xs.length c := by
  obtain ⟨_, rows, hl, hR, _⟩ := h
  obtain ⟨A, c, he⟩ := R_slice hR
  exact ⟨A, c, by rw [he, hl]⟩
theorem N_form (h : N d e w base ok v xs) (hp : 0 < xs.length) : ∃ g cap, v = .slice (some ⟨g, 0, none⟩) xs.length cap ∧ base ≤ g ∧ g < w.heap.size ∧ ∃ cells, w.heap[g]? = some (.cells cells e (0, 0)) := by
  obtain ⟨_, rows, hl, hR, _⟩ := h
  rw [← hl] at hp ⊢
  exact R_form hR hp
theorem N_reads' {n c : Nat} (h : N d e w base ok (.slice A n c) xs) : n = xs.length ∧ n ≤ c ∧ d.C w A xs.length xs := by
  obtain ⟨_, rows, hl, hR, hf⟩ := h
  obtain ⟨hn, hc, hC⟩ := R_reads' hR
  refine ⟨by omega, hc, ?_⟩
  rw [hl] at hC
  refine ⟨rfl, hC.2.1, fun hp => ?_⟩
  obtain ⟨ad, he, hcell⟩ := hC.2.2 hp
  refine ⟨ad, he, fun j p hj => ?_⟩
  have hjl : j < rows.length := by have := (List.getElem?_eq_some_iff.1 hj).1; omega
  obtain ⟨c', hcl, hK, hcc⟩ := hcell j _ (List.getElem?_eq_getElem hjl)
  have hk := FK_now (hf j p _ hj (List.getElem?_eq_getElem hjl))
  refine ⟨c', hcl, ?_, hcc⟩
  rw [show c' = rows[j] from hK.1]
  exact hk
theorem N_reads (h : N d e w base ok v xs) : ∃ A c, v = .slice A xs.length c ∧ xs.length ≤ c ∧ d.C w A xs.length xs := by
  obtain ⟨A, c, rfl⟩ := N_slice h
  exact ⟨A, c, rfl, (N_reads' h).2⟩
/-- Element i: its cells, and what they lead to. -/
theorem N_elem {n cap : Nat} (h : N d e W base ok (.slice (some ⟨g, 0, none⟩) n cap) xs) (z : α) (i : Int) (h0 : 0 ≤ i) (h1 : i < n) :
    ∃ c, c.length = d.sz ∧ FK d W (fun k => ok k ∧ k ≠ g) (xs.getD i.toNat z) c ∧ (∀ j u, c[j]? = some u → W.cell? ⟨g, i.toNat * d.sz + j, none⟩ = some u) ∧ ∀ j, W.frozen? ⟨g, i.toNat * d.sz + j, none⟩ = false := by
  obtain ⟨_, rows, hl, hR, hf⟩ := h
  have hn := (R_reads' hR).1
  obtain ⟨c, hcl, hM, hcc, hfr⟩ := R_elem hR [] i h0 h1
  have hil : i.toNat < rows.length := by omega
  have hil' : i.toNat < xs.length := by omega
  have hc : c = rows[i.toNat] := by
    have h2 := hM.1
    rwa [List.getD_eq_getElem?_getD, List.getElem?_eq_getElem hil] at h2
  refine ⟨c, hcl, ?_, hcc, hfr⟩
  rw [List.getD_eq_getElem?_getD, List.getElem?_eq_getElem hil']
  exact FK_mono (hf _ _ _ (List.getElem?_eq_getElem hil') (by rw [hc]; exact List.getElem?_eq_getElem hil)) (fun k hk => ⟨hk.1, fun he => hk.2 (by rw [he]; simp [Value.ownBlock])⟩)
end
end Kd
end Go.Proofs.YtkjgnkmnngaioaaGreatW.PrintWords
namespace Go.Proofs.YtkjgnkmnngaioaaGreatW.PrintWords
open Go.RowKit
section
variable {P : Program} {d : Nat} {xs ys : Array Value} {f : Field} {fs : List Field} {a b : Value} {r s : Bool} {w : World}
/-- The last field that counts. -/
theorem eqf_last (hn : (f.name == "_") = false) (ha : (part f.type xs f.offset).run P w = .ok a w) (hb : (part f.type ys f.offset).run P w = .ok b w) (he : (Op.equalIn d f.type a b).run P w = .ok r w) : (Op.eqFields d xs ys [f]).run P w = .ok r w := by
  have hn' : f.name ≠ "_" := by simpa using hn
  simp only [Op.eqFields, if_pos hn', Sem.run_bind, ha, hb, he, Result.andThen_ok]
  cases r <;> simp
theorem eqf_cons (hn : (f.name == "_") = false) (ha : (part f.type xs f.offset).run P w = .ok a w) (hb : (part f.type ys f.offset).run P w = .ok b w) (he : (Op.equalIn d f.type a b).run P w = .ok r w) (hr : (Op.eqFields d xs ys fs).run P w = .ok s w) : (Op.eqFields d xs ys (f :: fs)).run P w = .ok (r && s) w := by
  have hn' : f.name ≠ "_" := by simpa using hn
  rw [Op.eqFields]
  simp only [if_pos hn', Sem.run_bind, ha, hb, he, Result.andThen_ok]
  cases r
  · simp
  · simpa using hr
theorem eqA_of {t : TypeId} {fs : Array Field} (hu : P.underlying t = some (.struct fs)) (hp : P.stoodInHeld t = false) (h : (Op.eqFields d xs ys fs.toList).run P w = .ok r w) : (Op.equalIn (d + 1) t (.agg xs) (.agg ys)).run P w = .ok r w := by
  have hf : P.fieldsOf t = fs := by simp [Program.fieldsOf, hu]
  rw [run_equalIn_struct (P := P) w d t xs ys (by rw [hf]; exact hu) hp, hf]
  exact h
end
end Go.Proofs.YtkjgnkmnngaioaaGreatW.PrintWords
namespace Go.Proofs.YtkjgnkmnngaioaaGreatW.PrintLast
/-- Number i is listed too. -/
def up (b : Nat → Bool) (i : Nat) : Nat → Bool := fun j => if j = i then true else b j
/-- What is listed: O's operations by b, all else already. -/
def lof (n : Nat) (O : List Nat) (b : Nat → Bool) : List Bool := (List.range n).map fun j => if O.contains j then b j else true
/-- The destinations of what is listed are filled. -/
def putSel (a : Act) (b : Nat → Bool) : List (Nat × Tmp × Value) → Act
  | [] => a
  | e :: r => putSel (if b e.1 = true then a.put (some e.2.1) e.2.2 else a) b r
section
variable {P : Program} {ops : Array Oper} {Q : Exit → Act → World → Prop} {md : Region.Mode} {T : Bool × List (List Nat × List Nat)} {B : List Nat} {O : List Nat} {b : Nat → Bool} {i j n : Nat}
/-- The step of operation i: out of the relation, it not being listed, all it waits for being so, and nothing that waits for it. -/
def StepAt (P : Program) (ops : Array Oper) (Q : Exit → Act → World → Prop) (B : List Nat) (O : List Nat) (I : (Nat → Bool) → Act → World → Prop) (i : Nat) : Prop :=
  ∀ b a w, I b a w → b i = false → (∀ j, (O.contains j && (B.getD i 0).testBit j) = true → b j = true) → (∀ d, (O.contains d && (B.getD d 0).testBit i) = true → b d = false) →
    ∃ oi, ops[i]? = some oi ∧ ∀ K : Act → World → Prop, Shut (∀ a' w', I (up b i) a' w' → K a' w') → if Region.wanted oi (yielded ops a.tmps) = true then Oper.wp P oi a w K Q else K (a.put oi.dst undef) w
/-- Every edge goes to an earlier operation; what is listed already waits for nothing of O; O's numbers are the region's, each once. -/
def baseOk (T : List (List Nat × List Nat)) (O : List Nat) : Bool :=
  (List.range T.length).all (fun d => match T[d]? with
    | some r => (O.contains d || r.1.all fun n => !O.contains n) && r.1.all fun n => decide (n < d)
    | none => false) && O.all (fun i => decide (i < T.length)) && decide O.Nodup
def Closed (T : List (List Nat × List Nat)) (O : List Nat) (b : Nat → Bool) : Prop := ∀ d r, T[d]? = some r → O.contains d = true → b d = true → ∀ n ∈ r.1, O.contains n = true → b n = true
end
end Go.Proofs.YtkjgnkmnngaioaaGreatW.PrintLast
namespace Go.Proofs.YtkjgnkmnngaioaaGreatW.PrintWords
open Go.RowKit
section
variable {P : Program} {ops : Array Oper} {rest : List Oper} {o : Oper} {a : Act} {Q : Exit → Act → World → Prop} {W : World}
/-- The gate takes the guard off (hw: 'by rfl', 'by kernel_rfl': the guard's slot holds what is wanted). -/
theorem gate_guard (hw : Region.wanted o (yielded ops a.tmps) = true) (h : wpList P ops Q ({ o with guard := none } :: rest) a W) : wpList P ops Q (o :: rest) a W := by
  have h1 : Region.wanted { o with guard := none } (yielded ops a.tmps) = true := rfl
  unfold wpList at h ⊢
  rw [if_pos h1] at h
  rw [if_pos hw]
  exact h
end
end Go.Proofs.YtkjgnkmnngaioaaGreatW.PrintWords
namespace Go.Proofs.YtkjgnkmnngaioaaGreatW.PrintWords
open Go.RowKit
namespace Kd
section
variable {α : Type} {d : Kd α} {e base n cap g : Nat} {ok ok' okp : Nat → Prop} {w w1 W : World} {v v1 : Value} {xs ys : List α}
/-- Behind an append: the old elements and the new ones, moved. -/
theorem N_appended {rows news : List (List Value)} (h0 : ∀ k, v.ownBlock = some k → ok k) (hl : rows.length = xs.length) (hf : ∀ (j : Nat) (x : α) (c : List Value), xs[j]? = some x → rows[j]? = some c → FK d W (fun k => ok k ∧ some k ≠ v.ownBlock) x c)
    (hl2 : news.length = ys.length) (hf2 : ∀ (j : Nat) (x : α) (c : List Value), ys[j]? = some x → news[j]? = some c → FK d W okp x c) (hokp : ∀ k, okp k → ok k ∧ some k ≠ v.ownBlock) (hfresh : ∀ k, W.heap.size ≤ k → ok k)
    (hR : (raw d.sz).R e w1 base (fun _ => True) v1 (rows ++ news)) (hg : W.grownBy w1 v.ownBlock) (hat : v1.ownBlock = v.ownBlock ∨ ∃ b, v1.ownBlock = some b ∧ W.heap.size ≤ b) : N d e w1 base ok v1 (xs ++ ys) := by
  have hne : ∀ k, some k ≠ v.ownBlock → k < W.heap.size → some k ≠ v1.ownBlock := by
    intro k hk hlt
    rcases hat with hat | ⟨b, hb, hle⟩
    · rw [hat]; exact hk
    · rw [hb]
      intro he
      injection he with he
      omega
  have step : ∀ {x : α} {c : List Value} {o : Nat → Prop}, FK d W o x c → (∀ k, o k → ok k ∧ some k ≠ v.ownBlock) → FK d w1 (fun k => ok k ∧ some k ≠ v1.ownBlock) x c := by
    intro x c o hq ho
    exact FK_mono (FK_step (FK_bound hq) (fun k hk hlt => hg.block k hlt (ho k hk.1).2)) (fun k hk => ⟨(ho k hk.1).1, hne k (ho k hk.1).2 hk.2⟩)
  refine ⟨fun k hk => ?_, rows ++ news, by rw [List.length_append, List.length_append, hl, hl2], raw_tight hR, fun j x c hx hc => ?_⟩
  · rcases hat with hat | ⟨b, hb, hle⟩
    · exact h0 k (hat ▸ hk)
    · rw [hb] at hk
      injection hk with hk
      exact hfresh k (by omega)
  · rcases Nat.lt_or_ge j xs.length with hlt | hge
    · rw [List.getElem?_append_left hlt] at hx
      rw [List.getElem?_append_left (by omega)] at hc
      exact step (hf j x c hx hc) (fun _ hk => hk)
    · rw [List.getElem?_append_right hge] at hx
      rw [List.getElem?_append_right (by omega), hl] at hc
      exact step (hf2 _ x c hx hc) hokp
theorem FK_raw {x : α} {c : List Value} (h : FK d W ok x c) : c = c ∧ c.length = d.sz ∧ ∀ u ∈ c, u.oneCell' = true := ⟨rfl, d.K_len (FK_now h), d.K_one (FK_now h)⟩
/-- What was made just now. -/
theorem N_made {rows : List (List Value)} (hR : (raw d.sz).R e w1 base (fun k => k = W.heap.size) v1 rows) (hg : W.grownBy w1 none) (hat : ∃ b, v1.ownBlock = some b ∧ W.heap.size ≤ b) (hl : rows.length = xs.length) (hf : ∀ (j : Nat) (x : α) (c : List Value), xs[j]? = some x → rows[j]? = some c → FK d W okp x c)
    (hok : ∀ k, okp k → ok k) (hfresh : ok W.heap.size) : N d e w1 base ok v1 xs := by
  obtain ⟨b, hb, hle⟩ := hat
  refine ⟨fun k hk => by rw [hR.1 k hk]; exact hfresh, rows, hl, raw_tight hR, fun j x c hx hc => ?_⟩
  refine FK_mono (FK_step (FK_bound (hf j x c hx hc)) (fun k hk hlt => hg.block k hlt (by simp))) (fun k hk => ⟨hok k hk.1, fun he => ?_⟩)
  rw [hb] at he
  injection he with he
  have := hk.2
  omega
/-- Element i's cells were written: it is x' then. -/
theorem N_written {rows : List (List Value)} {i : Int} {x' : α} {c' : List Value} (h0 : ∀ k, (Value.slice (some ⟨g, 0, none⟩) n cap).ownBlock = some k → ok k) (hl : rows.length = xs.length) (hf : ∀ (j : Nat) (x : α) (c : List Value), xs[j]? = some x → rows[j]? = some c → FK d W (fun k => ok k ∧ some k ≠ (Value.slice (some ⟨g, 0, none⟩) n cap).ownBlock) x c)
    (hR : (raw d.sz).R e w1 base (fun _ => True) (.slice (some ⟨g, 0, none⟩) n cap) (rows.set i.toNat c')) (hg : W.grownBy w1 (some g)) (hM : FK d W okp x' c') (hokp : ∀ k, okp k → ok k ∧ k ≠ g) : N d e w1 base ok (.slice (some ⟨g, 0, none⟩) n cap) (xs.set i.toNat x') := by
  have hgo : some g = (Value.slice (some ⟨g, 0, none⟩) n cap).ownBlock := by simp [Value.ownBlock]
  refine ⟨h0, rows.set i.toNat c', by rw [List.length_set, List.length_set, hl], raw_tight hR, fun j x c hx hc => ?_⟩
  have hjl : j < xs.length := by have := (List.getElem?_eq_some_iff.1 hx).1; rwa [List.length_set] at this
  by_cases hji : j = i.toNat
  · subst hji
    rw [List.getElem?_set_self hjl] at hx
    rw [List.getElem?_set_self (by omega)] at hc
    injection hx with hx
    injection hc with hc
    rw [← hx, ← hc]
    exact FK_mono (FK_step hM (fun k hk hlt => hg.block k hlt (fun he => (hokp k hk).2 (by injection he)))) (fun k hk => ⟨(hokp k hk).1, fun he => (hokp k hk).2 (by rw [← hgo] at he; injection he)⟩)
  · rw [List.getElem?_set_ne (Ne.symm hji)] at hx hc
    exact FK_step (hf j x c hx hc) (fun k hk hlt => hg.block k hlt (by rw [hgo]; exact hk.2))
/-- Cells of element i are written, the world as_ it is then. -/
theorem N_seg (h : N d e W base ok (.slice (some ⟨g, 0, none⟩) n cap) xs) (i : Int) (h0 : 0 ≤ i) (h1 : i < n) {c seg : List Value} {j : Nat} (hcl : c.length = d.sz) (hcc : ∀ j u, c[j]? = some u → W.cell? ⟨g, i.toNat * d.sz + j, none⟩ = some u)
    (hj : j + seg.length ≤ d.sz) {x' : α} (hM : FK d W okp x' (c.take j ++ seg ++ c.drop (j + seg.length))) (hokp : ∀ k, okp k → ok k ∧ k ≠ g) :
    N d e (W.setCells g (i.toNat * d.sz + j) seg) base ok (.slice (some ⟨g, 0, none⟩) n cap) (xs.set i.toNat x') ∧ W.grownBy (W.setCells g (i.toNat * d.sz + j) seg) (some g) := by
  obtain ⟨hown, rows, hl, hR, hf⟩ := h
  obtain ⟨h2, h3⟩ := R_seg (raw_any hR) i h0 h1 (c := c) (seg := seg) (j := j) (x' := c.take j ++ seg ++ c.drop (j + seg.length)) (okp := fun _ => False) hcl hcc hj ⟨rfl, d.K_len (FK_now hM), d.K_one (FK_now hM)⟩ (fun _ hk => hk.elim)
  exact ⟨N_written hown hl hf h2 h3 hM hokp, h3⟩
end
section
variable {P : Program} {ops : Array Oper} {rest : List Oper} {o : Oper} {a : Act} {Q : Exit → Act → World → Prop} {Kc : Act → World → Prop} {α : Type}
/-- append(v, x), behind 'at_builtin': x's cells are cs. -/
theorem N_append (d : Kd α) {w0 W : World} (base : Nat) (hgd : o.guard = none) (s x : Operand) (t e : TypeId) (z : Value) (bytes : Nat)
    (ho : o.op = .call { callee := .builtin .append, args := #[s, x], argTypes := #[t, t] })
    (ht : P.underlying t = some (.slice e)) (hinfo : (P.info? e).map (fun i => (i.zero, i.size, i.bytes)) = some (some z, d.sz, bytes)) (hz : z.cells.size = d.sz) (hs0 : 0 < d.sz) (hb0 : 0 < bytes)
    (v : Value) (xs : List α) (p : α) (cs : List Value) (ok okp : Nat → Prop) (hs : a.eval s = v) (hx : a.eval x = .slice (some ⟨W.heap.size, 0, none⟩) 1 1) (hp : FK d W okp p cs) (hokp : ∀ k, okp k → ok k ∧ some k ≠ v.ownBlock) (hfresh : ∀ k, W.heap.size ≤ k → ok k)
    (HO : N d e W base ok v xs) (HB : Below base w0 W) (hbase : base ≤ W.heap.size) (hl : (xs.length + 1) * bytes ≤ 140737488355328)
    (h : ∀ v1 w1, N d e w1 base ok v1 (xs ++ [p]) → Below base w0 w1 → W.grownBy w1 v.ownBlock → (v1.ownBlock = v.ownBlock ∨ ∃ b, v1.ownBlock = some b ∧ W.heap.size ≤ b) → wpList P ops Q rest (a.put o.dst v1) w1) :
    wpList P ops Q (o :: rest) a (W.alloc (.cells cs.toArray e)) := by
  obtain ⟨h0, rows, hlr, hR, hf⟩ := HO
  refine R_append (raw d.sz) base hgd s x t e z bytes ho ht hinfo hz hs0 hb0 v rows cs cs (fun _ => True) (fun _ => False) hs hx (FK_raw hp) (fun _ hk => hk.elim) (fun _ _ => trivial) (raw_any hR) HB hbase (by rw [hlr]; exact hl) ?_
  intro v1 w1 hr hb hg hat
  exact h v1 w1 (N_appended h0 hlr hf (ys := [p]) (news := [cs]) rfl (fun j y c hy hc => by
    rcases j with _ | j
    · simp only [List.getElem?_cons_zero, Option.some.injEq] at hy hc
      rw [← hy, ← hc]; exact hp
    · simp at hy) hokp hfresh hr hg hat) hb hg hat
/-- A literal '[]T{..}': inner its cells; what the elements lead to is okp. -/
theorem N_lit (d : Kd α) {w0 W : World} (base e : Nat) (hgd : o.guard = none) {N' : Tmp} (_hd : o.dst = some N') {xs : List α} {inner : List Value} {ok okp : Nat → Prop}
    (hrun : (execOp a.eval o).run P W = .ok (.value (.slice (some ⟨W.heap.size, 0, none⟩) xs.length xs.length)) (W.alloc (.cells inner.toArray e)))
    (hrep : Reps (FK d W okp) d.sz xs inner) (hok : ∀ k, okp k → ok k) (hfresh : ok W.heap.size) (HB : Below base w0 W) (hbase : base ≤ W.heap.size) (hm : xs.length ≤ 9223372036854775807)
    (h : ∀ v1 w1, N d e w1 base ok v1 xs → Below base w0 w1 → W.grownBy w1 none → (∃ b, v1.ownBlock = some b ∧ W.heap.size ≤ b) → wpList P ops Q rest (a.put o.dst v1) w1) :
    wpList P ops Q (o :: rest) a W := by
  refine R_lit (raw d.sz) base e hgd _hd (xs := chunks d.sz xs.length inner) (inner := inner) (ok := fun k => k = W.heap.size) (okp := fun _ => False) (by rw [chunks_length]; exact hrun) (reps_raw hrep (fun y c hk => ⟨d.K_len (FK_now hk), d.K_one (FK_now hk)⟩)) (fun _ hk => hk.elim) rfl HB hbase (by rw [chunks_length]; exact hm) ?_
  intro v1 w1 hr hb hg hat
  exact h v1 w1 (N_made hr hg hat (chunks_length _ _ _) (fun j y c hy hc => by rw [chunks_get hc]; exact hrep.2 j y hy) hok hfresh) hb hg hat
theorem N_make (d : Kd α) {w0 W : World} (base e : Nat) (hgd : o.guard = none) {N' : Tmp} (hd : o.dst = some N') (t : TypeId) (x y : Operand) (ho : o.op = .makeSlice t x y) (n : Int) (hx : a.eval x = .int .i64 n) (hy : a.eval y = .int .i64 n)
    (ht : P.underlying t = some (.slice e)) (z : Value) (bytes : Nat) (hinfo : (P.info? e).map (fun i => (i.zero, i.size, i.bytes)) = some (some z, d.sz, bytes)) (hz : z.cells.size = d.sz) (hs0 : 0 < d.sz) (hb0 : 0 < bytes)
    (z0 : α) {ok okp : Nat → Prop} (hzero : FK d W okp z0 z.cells.toList) (hok : ∀ k, okp k → ok k) (hfresh : ok W.heap.size) (h0 : 0 ≤ n) (hl : n.toNat * bytes ≤ 281474976710656) (HB : Below base w0 W) (hbase : base ≤ W.heap.size)
    (h : ∀ v1 w1, N d e w1 base ok v1 (List.replicate n.toNat z0) → Below base w0 w1 → W.grownBy w1 none → (∃ b, v1.ownBlock = some b ∧ W.heap.size ≤ b) → wpList P ops Q rest (a.put o.dst v1) w1) :
    wpList P ops Q (o :: rest) a W := by
  refine R_make (raw d.sz) base e hgd hd t x y ho n hx hy ht z bytes hinfo hz hs0 hb0 z.cells.toList (ok := fun k => k = W.heap.size) (okp := fun _ => False) (FK_raw hzero) (fun _ hk => hk.elim) rfl h0 hl HB hbase ?_
  intro v1 w1 hr hb hg hat
  refine h v1 w1 (N_made hr hg hat (by rw [List.length_replicate, List.length_replicate]) (fun j y c hy hc => ?_) hok hfresh) hb hg hat
  have h1 := (List.getElem?_eq_some_iff.1 hy).2
  have h2 := (List.getElem?_eq_some_iff.1 hc).2
  rw [List.getElem_replicate] at h1 h2
  rw [← h1, ← h2]
  exact hzero
end
end Kd
end Go.Proofs.YtkjgnkmnngaioaaGreatW.PrintWords
namespace Go.Proofs.YtkjgnkmnngaioaaGreatW.PrintMore
open Go.RowKit Go.Proofs.YtkjgnkmnngaioaaGreatW.PrintWords
namespace Kd
open Go.Proofs.YtkjgnkmnngaioaaGreatW.PrintWords.Kd
end Kd
namespace Kd
open Go.Proofs.YtkjgnkmnngaioaaGreatW.PrintWords.Kd
end Kd
/-- 'max' and 'min' of two whole numbers. -/
theorem max2_int (k k' : IntKind) (x y : Int) : Builtin.max2 (.int k x) (.int k' y) = pure (.int k (if x < y then y else x)) := by simp only [Builtin.max2, gt_iff_lt]
theorem min2_int (k k' : IntKind) (x y : Int) : Builtin.min2 (.int k x) (.int k' y) = pure (.int k (if y < x then y else x)) := by simp only [Builtin.min2]
theorem max_two (ats : Array TypeId) (ty : TypeId) (a b : Value) : Builtin.max_ ats ty #[a, b] = (Builtin.max2 a b >>= fun s => pure s) := by simp only [Builtin.max_, List.foldlM_cons, List.foldlM_nil]
theorem min_two (ats : Array TypeId) (ty : TypeId) (a b : Value) : Builtin.min_ ats ty #[a, b] = (Builtin.min2 a b >>= fun s => pure s) := by simp only [Builtin.min_, List.foldlM_cons, List.foldlM_nil]
theorem max_three (ats : Array TypeId) (ty : TypeId) (a b c : Value) : Builtin.max_ ats ty #[a, b, c] = (Builtin.max2 a b >>= fun s => Builtin.max2 s c >>= fun s => pure s) := by simp only [Builtin.max_, List.foldlM_cons, List.foldlM_nil]
theorem min_three (ats : Array TypeId) (ty : TypeId) (a b c : Value) : Builtin.min_ ats ty #[a, b, c] = (Builtin.min2 a b >>= fun s => Builtin.min2 s c >>= fun s => pure s) := by simp only [Builtin.min_, List.foldlM_cons, List.foldlM_nil]
theorem max_four (ats : Array TypeId) (ty : TypeId) (a b c d : Value) : Builtin.max_ ats ty #[a, b, c, d] = (Builtin.max2 a b >>= fun s => Builtin.max2 s c >>= fun s => Builtin.max2 s d >>= fun s => pure s) := by simp only [Builtin.max_, List.foldlM_cons, List.foldlM_nil]
theorem min_four (ats : Array TypeId) (ty : TypeId) (a b c d : Value) : Builtin.min_ ats ty #[a, b, c, d] = (Builtin.min2 a b >>= fun s => Builtin.min2 s c >>= fun s => Builtin.min2 s d >>= fun s => pure s) := by simp only [Builtin.min_, List.foldlM_cons, List.foldlM_nil]
end Go.Proofs.YtkjgnkmnngaioaaGreatW.PrintMore
namespace Go.Proofs.YtkjgnkmnngaioaaGreatW.PrintWords
open Go.RowKit
section
variable {P : Program} {ops : Array Oper} {rest : List Oper} {o : Oper} {a : Act} {Q : Exit → Act → World → Prop} {W : World}
/-- The operation is a call of this function (a cheap look ahead of a dear step). -/
theorem gate_callee {f : FuncId} {as_ : Array Operand} {ts : Array TypeId} (_ho : o.op = .call { callee := .value (.func f), args := as_, argTypes := ts }) (h : wpList P ops Q (o :: rest) a W) : wpList P ops Q (o :: rest) a W := h
/-- The operation is a builtin over these places. -/
theorem gate_builtin {b : Builtin} {xs : Array Operand} {ts : Array TypeId} (_ho : o.op = .call { callee := .builtin b, args := xs, argTypes := ts }) (h : wpList P ops Q (o :: rest) a W) : wpList P ops Q (o :: rest) a W := h
end
/-- The greater of two whole numbers, as_ Go's max tells it. -/
def mx (a b : Int) : Int := if a < b then b else a
/-- The smaller of two whole numbers, as_ Go's min tells it. -/
def mn (a b : Int) : Int := if b < a then b else a
/-- A shift to the left, as_ Go tells it: a count beyond the width leaves nothing. -/
def shl (k : IntKind) (x y : Int) : Int := k.wrap (x * 2 ^ min y.toNat k.bits)
/-- A shift to the right: a count beyond the width leaves the sign. -/
def shr (k : IntKind) (x y : Int) : Int := x / 2 ^ min y.toNat k.bits
namespace Kd
end Kd
end Go.Proofs.YtkjgnkmnngaioaaGreatW.PrintWords
namespace Go.Proofs.YtkjgnkmnngaioaaGreatW.PrintWords
open Go.RowKit
namespace Kd
/-- A row that is only read, told by its value: its form, its length, what it leads to (in ok). e and base say nothing; they make it as_ the others are. -/
def V {α : Type} (d : Kd α) (_e : Nat) (W : World) (_base : Nat) (ok : Nat → Prop) (v : Value) (xs : List α) : Prop := ∃ A c, v = .slice A xs.length c ∧ xs.length ≤ c ∧ F d W ok A xs.length xs
section
variable {α β : Type} {d : Kd α} {e base base' n m c g N' lo hi : Nat} {ok ok' S : Nat → Prop} {w W w1 : World} {A : Option Addr} {ad : Addr} {u v v1 : Value} {xs : List α}
theorem V_map (h : V d e W base ok v xs) (hF : ∀ A, F d W ok A xs.length xs → F d w1 ok' A xs.length xs) : V d e w1 base' ok' v xs := by
  obtain ⟨A, c, hv, hl, hf⟩ := h
  exact ⟨A, c, hv, hl, hF A hf⟩
theorem V_mk (hl : xs.length ≤ c) (hf : F d W ok A xs.length xs) : V d e W base ok (.slice A xs.length c) xs := ⟨A, c, rfl, hl, hf⟩
theorem V_at (h : V d e W base ok (.slice A n c) xs) : n = xs.length ∧ n ≤ c ∧ F d W ok A xs.length xs := by
  obtain ⟨A', c', hv, hl, hf⟩ := h
  injection hv with ha hn hc
  subst ha; subst hc
  exact ⟨hn, by rw [hn]; exact hl, hf⟩
theorem V_reads' (h : V d e W base ok (.slice A n c) xs) : n = xs.length ∧ n ≤ c ∧ d.C W A xs.length xs := ⟨(V_at h).1, (V_at h).2.1, F_now (V_at h).2.2⟩
theorem V_F (h : V d e W base ok (.slice A n c) xs) : F d W ok A n xs := by
  obtain ⟨hn, _, hf⟩ := V_at h
  rw [hn]
  exact hf
theorem V_mono (h : V d e W base ok v xs) (hok : ∀ k, ok k → ok' k) : V d e W base ok' v xs := V_map h (fun _ hf => F_mono hf hok)
theorem V_drewN (h : V d e W base ok v xs) (m : Nat) : V d e (W.drewN m) base ok v xs := V_map h (fun _ hf => F_drewN hf m)
theorem V_after (h : V d e W base (fun k => ok k ∧ some k ≠ u.ownBlock) v xs) (hg : W.grownBy w1 u.ownBlock) (hat : v1.ownBlock = u.ownBlock ∨ ∃ b, v1.ownBlock = some b ∧ W.heap.size ≤ b) : V d e w1 base (fun k => ok k ∧ some k ≠ v1.ownBlock) v xs := V_map h (fun _ hf => F_after hf hg hat)
theorem V_afterv (h : V d e W base (fun k => ok k ∧ some k ≠ v.ownBlock) u xs) (hg : W.grownBy w1 v.ownBlock) (hat : v1.ownBlock = v.ownBlock ∨ ∃ b, v1.ownBlock = some b ∧ W.heap.size ≤ b) : V d e w1 base (fun k => ok k ∧ some k ≠ v1.ownBlock) u xs := V_after h hg hat
theorem V_elder' (h : V d e W base ok v xs) (hbase : ∀ k, u.ownBlock = some k → W.heap.size ≤ k) (hb : Below W.heap.size W w1) : V d e w1 base (fun k => ok k ∧ some k ≠ u.ownBlock) v xs := V_map h (fun _ hf => F_elder' hf hbase hb)
theorem V_get (h : V d e W base ok (.slice (some ad) n c) xs) (z : α) (i : Int) (h0 : 0 ≤ i) (h1 : i < n) :
    ∃ cs, cs.length = d.sz ∧ FK d W ok (xs.getD i.toNat z) cs ∧ ∀ j u, cs[j]? = some u → W.cell? (ad.add (i.toNat * d.sz + j)) = some u := by
  obtain ⟨ad', cs, he, hcl, hK, hcc, _⟩ := F_get (V_F h) z i h0 h1
  injection he with he
  subst he
  exact ⟨cs, hcl, hK, hcc⟩
end
end Kd
end Go.Proofs.YtkjgnkmnngaioaaGreatW.PrintWords
namespace Go.Proofs.YtkjgnkmnngaioaaGreat.Q
open Go.RowKit Go.Proofs.YtkjgnkmnngaioaaGreatW.PrintWords Go.Proofs.YtkjgnkmnngaioaaGreatW.PrintLast Go.Proofs.YtkjgnkmnngaioaaGreatW.PrintMore
attribute [local go_sem] max2_int min2_int max_two min_two max_three min_three max_four min_four   -- for this text's walks alone
set_option linter.unusedVariables false
set_option linter.unusedSimpArgs false
def errW : Option Int → Value
  | none => .nilIface
  | some c => .iface 0 (.int .i64 c)
theorem info3 : (Tryz.prog.info? 3).map (fun i => (i.zero, i.size, i.bytes)) = some (some (.int .i64 0), 1, 8) := by kernel_rfl
theorem info5 : (Tryz.prog.info? 5).map (fun i => (i.zero, i.size, i.bytes)) = some (some (.int .u8 0), 1, 1) := by kernel_rfl
theorem info70 : (Tryz.prog.info? 70).map (fun i => (i.zero, i.size, i.bytes)) = some (some (.agg #[(.string ⟨#[]⟩), (.string ⟨#[]⟩)]), 2, 32) := by kernel_rfl
theorem info71 : (Tryz.prog.info? 71).map (fun i => (i.zero, i.size, i.bytes)) = some (some (.agg #[(.int .i64 0), (.string ⟨#[]⟩), (.string ⟨#[]⟩), (.slice none 0 0)]), 4, 64) := by kernel_rfl
structure S70 where
  f0 : ByteArray
  f1 : ByteArray
def z70 : S70 := ⟨(⟨#[]⟩ : ByteArray), (⟨#[]⟩ : ByteArray)⟩
def k70 : Kd S70 := Kd.iso (Kd.pair Kd.string Kd.string) (fun x : S70 => (x.f0, x.f1))
theorem k70_open {w : World} {x : S70} {cs : List Value} (h : k70.K w x cs) : cs = [.string x.f0, .string x.f1] := by
  obtain ⟨_, _, rfl, rfl, rfl⟩ := h
  exact rfl
theorem k70_mkM (w : World) (base : Nat) (ok : Nat → Prop) (x : S70)  : k70.M w base ok x [.string x.f0, .string x.f1] := ⟨[.string x.f0], [.string x.f1], rfl, rfl, rfl⟩
def rd_T70 (xs : List S70) (i : Int) : S70 := xs.getD i.toNat z70
theorem at_T70 {w : World} {A : Option Addr} {n : Nat} {xs : List S70} (h : Kd.C k70 w A n xs) (i : Int) (h0 : 0 ≤ i) (h1 : i < n) : ∃ ad , A = some ad ∧ w.cell? (ad.add (i.toNat * 2)) = some (.string (rd_T70 xs i).f0) ∧ w.cell? ⟨(ad.add (i.toNat * 2)).block, (ad.add (i.toNat * 2)).off + 1, none⟩ = some (.string (rd_T70 xs i).f1) := by
  obtain ⟨ad, c, e, _, hK, hc0⟩ := Kd.C_get h z70 i h0 h1
  have hc : ∀ j u, c[j]? = some u → w.cell? (ad.add (i.toNat * 2 + j)) = some u := hc0
  obtain rfl := k70_open hK
  exact ⟨ad, e, hc 0 _ rfl, by rw [← add_field _ _ 1 (by omega)]; exact hc 1 _ rfl⟩
def rd_L3 (xs : List (List S70)) (i : Int) : (List S70) := xs.getD i.toNat ([] : List S70)
def rd_L4 (xs : List (List Int)) (i : Int) : (List Int) := xs.getD i.toNat ([] : List Int)
structure S49 where
  f0 : Int
  f1 : ByteArray
  f2 : ByteArray
  f3 : (List S70)
  f4 : (List Int)
def z49 : S49 := ⟨(0 : Int), (⟨#[]⟩ : ByteArray), (⟨#[]⟩ : ByteArray), ([] : List S70), ([] : List Int)⟩
def k49 : Kd S49 := Kd.iso (Kd.pair (Kd.int .i64) (Kd.pair Kd.string (Kd.pair Kd.string (Kd.pair (Kd.slice 70 k70) (Kd.slice 3 (Kd.int .i64)))))) (fun x : S49 => (x.f0, x.f1, x.f2, x.f3, x.f4))
theorem k49_open {w : World} {x : S49} {cs : List Value} (h : k49.K w x cs) : ∃ A3 c3 A4 c4, cs = [.int .i64 x.f0, .string x.f1, .string x.f2, .slice A3 x.f3.length c3, .slice A4 x.f4.length c4] ∧ x.f3.length ≤ c3 ∧ k70.C w A3 x.f3.length x.f3 ∧ x.f4.length ≤ c4 ∧ (Kd.int .i64).C w A4 x.f4.length x.f4 := by
  obtain ⟨_, _, rfl, rfl, ⟨_, _, rfl, rfl, ⟨_, _, rfl, rfl, ⟨_, _, rfl, ⟨A3, c3, rfl, l3, g3⟩, ⟨A4, c4, rfl, l4, g4⟩⟩⟩⟩⟩ := h
  exact ⟨A3, c3, A4, c4, rfl, l3, g3, l4, g4⟩
theorem k49_openM {w : World} {base : Nat} {ok : Nat → Prop} {x : S49} {cs : List Value} (h : k49.M w base ok x cs) : ∃ v3 v4, cs = [.int .i64 x.f0, .string x.f1, .string x.f2, v3, v4] ∧ k70.R 70 w base ok v3 x.f3 ∧ (Kd.int .i64).R 3 w base ok v4 x.f4 := by
  obtain ⟨_, _, rfl, rfl, ⟨_, _, rfl, rfl, ⟨_, _, rfl, rfl, ⟨_, _, rfl, ⟨v3, rfl, g3⟩, ⟨v4, rfl, g4⟩⟩⟩⟩⟩ := h
  exact ⟨v3, v4, rfl, g3, g4⟩
theorem k49_mk (w : World) (x : S49) {A3 : Option Addr} {c3 : Nat} (l3 : x.f3.length ≤ c3) (g3 : k70.C w A3 x.f3.length x.f3) {A4 : Option Addr} {c4 : Nat} (l4 : x.f4.length ≤ c4) (g4 : (Kd.int .i64).C w A4 x.f4.length x.f4) : k49.K w x [.int .i64 x.f0, .string x.f1, .string x.f2, .slice A3 x.f3.length c3, .slice A4 x.f4.length c4] := ⟨[.int .i64 x.f0], [.string x.f1, .string x.f2, .slice A3 x.f3.length c3, .slice A4 x.f4.length c4], rfl, rfl, ⟨[.string x.f1], [.string x.f2, .slice A3 x.f3.length c3, .slice A4 x.f4.length c4], rfl, rfl, ⟨[.string x.f2], [.slice A3 x.f3.length c3, .slice A4 x.f4.length c4], rfl, rfl, ⟨[.slice A3 x.f3.length c3], [.slice A4 x.f4.length c4], rfl, ⟨A3, c3, rfl, l3, g3⟩, ⟨A4, c4, rfl, l4, g4⟩⟩⟩⟩⟩
theorem k49_mkM (w : World) (base : Nat) (ok : Nat → Prop) (x : S49) {v3 : Value} (g3 : k70.R 70 w base ok v3 x.f3) {v4 : Value} (g4 : (Kd.int .i64).R 3 w base ok v4 x.f4) : k49.M w base ok x [.int .i64 x.f0, .string x.f1, .string x.f2, v3, v4] := ⟨[.int .i64 x.f0], [.string x.f1, .string x.f2, v3, v4], rfl, rfl, ⟨[.string x.f1], [.string x.f2, v3, v4], rfl, rfl, ⟨[.string x.f2], [v3, v4], rfl, rfl, ⟨[v3], [v4], rfl, ⟨v3, rfl, g3⟩, ⟨v4, rfl, g4⟩⟩⟩⟩⟩
theorem k49_openF {W : World} {ok : Nat → Prop} {x : S49} {cs : List Value} (h : Kd.FK k49 W ok x cs) : ∃ A3 c3 A4 c4, cs = [.int .i64 x.f0, .string x.f1, .string x.f2, .slice A3 x.f3.length c3, .slice A4 x.f4.length c4] ∧ x.f3.length ≤ c3 ∧ Kd.F k70 W ok A3 x.f3.length x.f3 ∧ x.f4.length ≤ c4 ∧ Kd.F (Kd.int .i64) W ok A4 x.f4.length x.f4 := by
  obtain ⟨A3, c3, A4, c4, rfl, l3, _, l4, _⟩ := k49_open (Kd.FK_now h)
  exact ⟨A3, c3, A4, c4, rfl, l3, (fun W' hW => by obtain ⟨A3_, c3_, A4_, c4_, he, l3_, g3_, l4_, g4_⟩ := k49_open (h W' hW); injection (Option.some.inj (show some (Value.slice A3 x.f3.length c3) = some (Value.slice A3_ x.f3.length c3_) from congrArg (fun l => l[3]?) he)) with ha_ _ _; rw [ha_]; exact g3_), l4, (fun W' hW => by obtain ⟨A3_, c3_, A4_, c4_, he, l3_, g3_, l4_, g4_⟩ := k49_open (h W' hW); injection (Option.some.inj (show some (Value.slice A4 x.f4.length c4) = some (Value.slice A4_ x.f4.length c4_) from congrArg (fun l => l[4]?) he)) with ha_ _ _; rw [ha_]; exact g4_)⟩
def rd_T49 (xs : List S49) (i : Int) : S49 := xs.getD i.toNat z49
theorem at_T49 {w : World} {A : Option Addr} {n : Nat} {xs : List S49} (h : Kd.C k49 w A n xs) (i : Int) (h0 : 0 ≤ i) (h1 : i < n) : ∃ ad A3 c3 A4 c4, A = some ad ∧ w.cell? (ad.add (i.toNat * 5)) = some (.int .i64 (rd_T49 xs i).f0) ∧ w.cell? ⟨(ad.add (i.toNat * 5)).block, (ad.add (i.toNat * 5)).off + 1, none⟩ = some (.string (rd_T49 xs i).f1) ∧ w.cell? ⟨(ad.add (i.toNat * 5)).block, (ad.add (i.toNat * 5)).off + 2, none⟩ = some (.string (rd_T49 xs i).f2) ∧ w.cell? ⟨(ad.add (i.toNat * 5)).block, (ad.add (i.toNat * 5)).off + 3, none⟩ = some (.slice A3 (rd_T49 xs i).f3.length c3) ∧ w.cell? ⟨(ad.add (i.toNat * 5)).block, (ad.add (i.toNat * 5)).off + 4, none⟩ = some (.slice A4 (rd_T49 xs i).f4.length c4) ∧ (rd_T49 xs i).f3.length ≤ c3 ∧ k70.C w A3 (rd_T49 xs i).f3.length (rd_T49 xs i).f3 ∧ (rd_T49 xs i).f4.length ≤ c4 ∧ (Kd.int .i64).C w A4 (rd_T49 xs i).f4.length (rd_T49 xs i).f4 := by
  obtain ⟨ad, c, e, _, hK, hc0⟩ := Kd.C_get h z49 i h0 h1
  have hc : ∀ j u, c[j]? = some u → w.cell? (ad.add (i.toNat * 5 + j)) = some u := hc0
  obtain ⟨A3, c3, A4, c4, rfl, l3, g3, l4, g4⟩ := k49_open hK
  exact ⟨ad, A3, c3, A4, c4, e, hc 0 _ rfl, by rw [← add_field _ _ 1 (by omega)]; exact hc 1 _ rfl, by rw [← add_field _ _ 2 (by omega)]; exact hc 2 _ rfl, by rw [← add_field _ _ 3 (by omega)]; exact hc 3 _ rfl, by rw [← add_field _ _ 4 (by omega)]; exact hc 4 _ rfl, l3, g3, l4, g4⟩
structure S46 where
  f0 : Int
  f1 : ByteArray
  f2 : ByteArray
  f3 : (List S70)
def z46 : S46 := ⟨(0 : Int), (⟨#[]⟩ : ByteArray), (⟨#[]⟩ : ByteArray), ([] : List S70)⟩
def k46 : Kd S46 := Kd.iso (Kd.pair (Kd.int .i64) (Kd.pair Kd.string (Kd.pair Kd.string (Kd.slice 70 k70)))) (fun x : S46 => (x.f0, x.f1, x.f2, x.f3))
theorem k46_open {w : World} {x : S46} {cs : List Value} (h : k46.K w x cs) : ∃ A3 c3, cs = [.int .i64 x.f0, .string x.f1, .string x.f2, .slice A3 x.f3.length c3] ∧ x.f3.length ≤ c3 ∧ k70.C w A3 x.f3.length x.f3 := by
  obtain ⟨_, _, rfl, rfl, ⟨_, _, rfl, rfl, ⟨_, _, rfl, rfl, ⟨A3, c3, rfl, l3, g3⟩⟩⟩⟩ := h
  exact ⟨A3, c3, rfl, l3, g3⟩
theorem k46_openM {w : World} {base : Nat} {ok : Nat → Prop} {x : S46} {cs : List Value} (h : k46.M w base ok x cs) : ∃ v3, cs = [.int .i64 x.f0, .string x.f1, .string x.f2, v3] ∧ k70.R 70 w base ok v3 x.f3 := by
  obtain ⟨_, _, rfl, rfl, ⟨_, _, rfl, rfl, ⟨_, _, rfl, rfl, ⟨v3, rfl, g3⟩⟩⟩⟩ := h
  exact ⟨v3, rfl, g3⟩
theorem k46_mk (w : World) (x : S46) {A3 : Option Addr} {c3 : Nat} (l3 : x.f3.length ≤ c3) (g3 : k70.C w A3 x.f3.length x.f3) : k46.K w x [.int .i64 x.f0, .string x.f1, .string x.f2, .slice A3 x.f3.length c3] := ⟨[.int .i64 x.f0], [.string x.f1, .string x.f2, .slice A3 x.f3.length c3], rfl, rfl, ⟨[.string x.f1], [.string x.f2, .slice A3 x.f3.length c3], rfl, rfl, ⟨[.string x.f2], [.slice A3 x.f3.length c3], rfl, rfl, ⟨A3, c3, rfl, l3, g3⟩⟩⟩⟩
theorem k46_mkM (w : World) (base : Nat) (ok : Nat → Prop) (x : S46) {v3 : Value} (g3 : k70.R 70 w base ok v3 x.f3) : k46.M w base ok x [.int .i64 x.f0, .string x.f1, .string x.f2, v3] := ⟨[.int .i64 x.f0], [.string x.f1, .string x.f2, v3], rfl, rfl, ⟨[.string x.f1], [.string x.f2, v3], rfl, rfl, ⟨[.string x.f2], [v3], rfl, rfl, ⟨v3, rfl, g3⟩⟩⟩⟩
theorem k46_openF {W : World} {ok : Nat → Prop} {x : S46} {cs : List Value} (h : Kd.FK k46 W ok x cs) : ∃ A3 c3, cs = [.int .i64 x.f0, .string x.f1, .string x.f2, .slice A3 x.f3.length c3] ∧ x.f3.length ≤ c3 ∧ Kd.F k70 W ok A3 x.f3.length x.f3 := by
  obtain ⟨A3, c3, rfl, l3, _⟩ := k46_open (Kd.FK_now h)
  exact ⟨A3, c3, rfl, l3, (fun W' hW => by obtain ⟨A3_, c3_, he, l3_, g3_⟩ := k46_open (h W' hW); injection (Option.some.inj (show some (Value.slice A3 x.f3.length c3) = some (Value.slice A3_ x.f3.length c3_) from congrArg (fun l => l[3]?) he)) with ha_ _ _; rw [ha_]; exact g3_)⟩
def rd_T46 (xs : List S46) (i : Int) : S46 := xs.getD i.toNat z46
theorem at_T46 {w : World} {A : Option Addr} {n : Nat} {xs : List S46} (h : Kd.C k46 w A n xs) (i : Int) (h0 : 0 ≤ i) (h1 : i < n) : ∃ ad A3 c3, A = some ad ∧ w.cell? (ad.add (i.toNat * 4)) = some (.int .i64 (rd_T46 xs i).f0) ∧ w.cell? ⟨(ad.add (i.toNat * 4)).block, (ad.add (i.toNat * 4)).off + 1, none⟩ = some (.string (rd_T46 xs i).f1) ∧ w.cell? ⟨(ad.add (i.toNat * 4)).block, (ad.add (i.toNat * 4)).off + 2, none⟩ = some (.string (rd_T46 xs i).f2) ∧ w.cell? ⟨(ad.add (i.toNat * 4)).block, (ad.add (i.toNat * 4)).off + 3, none⟩ = some (.slice A3 (rd_T46 xs i).f3.length c3) ∧ (rd_T46 xs i).f3.length ≤ c3 ∧ k70.C w A3 (rd_T46 xs i).f3.length (rd_T46 xs i).f3 := by
  obtain ⟨ad, c, e, _, hK, hc0⟩ := Kd.C_get h z46 i h0 h1
  have hc : ∀ j u, c[j]? = some u → w.cell? (ad.add (i.toNat * 4 + j)) = some u := hc0
  obtain ⟨A3, c3, rfl, l3, g3⟩ := k46_open hK
  exact ⟨ad, A3, c3, e, hc 0 _ rfl, by rw [← add_field _ _ 1 (by omega)]; exact hc 1 _ rfl, by rw [← add_field _ _ 2 (by omega)]; exact hc 2 _ rfl, by rw [← add_field _ _ 3 (by omega)]; exact hc 3 _ rfl, l3, g3⟩
structure S71 where
  f0 : Int
  f1 : ByteArray
  f2 : ByteArray
  f3 : (List S70)
def z71 : S71 := ⟨(0 : Int), (⟨#[]⟩ : ByteArray), (⟨#[]⟩ : ByteArray), ([] : List S70)⟩
def k71 : Kd S71 := Kd.iso (Kd.pair (Kd.int .i64) (Kd.pair Kd.string (Kd.pair Kd.string (Kd.slice 70 k70)))) (fun x : S71 => (x.f0, x.f1, x.f2, x.f3))
theorem k71_mk (w : World) (x : S71) {A3 : Option Addr} {c3 : Nat} (l3 : x.f3.length ≤ c3) (g3 : k70.C w A3 x.f3.length x.f3) : k71.K w x [.int .i64 x.f0, .string x.f1, .string x.f2, .slice A3 x.f3.length c3] := ⟨[.int .i64 x.f0], [.string x.f1, .string x.f2, .slice A3 x.f3.length c3], rfl, rfl, ⟨[.string x.f1], [.string x.f2, .slice A3 x.f3.length c3], rfl, rfl, ⟨[.string x.f2], [.slice A3 x.f3.length c3], rfl, rfl, ⟨A3, c3, rfl, l3, g3⟩⟩⟩⟩
theorem k71_mkF (W : World) (ok : Nat → Prop) (x : S71) {A3 : Option Addr} {c3 : Nat} (l3 : x.f3.length ≤ c3) (g3 : Kd.F k70 W ok A3 x.f3.length x.f3) : Kd.FK k71 W ok x [.int .i64 x.f0, .string x.f1, .string x.f2, .slice A3 x.f3.length c3] := fun W2 hW => k71_mk W2 x l3 (g3 W2 hW)
def rd_T71 (xs : List S71) (i : Int) : S71 := xs.getD i.toNat z71
end Go.Proofs.YtkjgnkmnngaioaaGreat.Q
namespace Go.Proofs.YtkjgnkmnngaioaaGreat.Q
open Go.RowKit Go.IntWalk Go.Proofs.YtkjgnkmnngaioaaGreat.Mem Go.Proofs.YtkjgnkmnngaioaaGreatW.PrintWords Go.Proofs.YtkjgnkmnngaioaaGreatW.PrintLast Go.Proofs.YtkjgnkmnngaioaaGreatW.PrintMore
set_option linter.unusedVariables false
set_option linter.unusedSimpArgs false
theorem ltr_of (c : UInt8) : ltr c = ((decide (97 ≤ c.toNat) && decide (c.toNat ≤ 122)) || (decide (65 ≤ c.toNat) && decide (c.toNat ≤ 90))) := by
  have h : ∀ n : Fin 256, ltr (UInt8.ofNat n.val) = ((decide (97 ≤ (UInt8.ofNat n.val).toNat) && decide ((UInt8.ofNat n.val).toNat ≤ 122)) || (decide (65 ≤ (UInt8.ofNat n.val).toNat) && decide ((UInt8.ofNat n.val).toNat ≤ 90))) := by decide +kernel
  have := h ⟨c.toNat, c.toNat_lt⟩
  simpa using this
theorem low_nat (c : UInt8) : ((low c).toNat : Int) = if 65 ≤ c.toNat ∧ c.toNat ≤ 90 then ((c.toNat : Int) + 32) % 256 else (c.toNat : Int) := by
  have h : ∀ n : Fin 256, ((low (UInt8.ofNat n.val)).toNat : Int) = if 65 ≤ (UInt8.ofNat n.val).toNat ∧ (UInt8.ofNat n.val).toNat ≤ 90 then (((UInt8.ofNat n.val).toNat : Int) + 32) % 256 else ((UInt8.ofNat n.val).toNat : Int) := by decide +kernel
  have := h ⟨c.toNat, c.toNat_lt⟩
  simpa using this
set_option maxRecDepth 100000 in
set_option maxHeartbeats 1600000 in
theorem rletter_calls (c : UInt8) (w : World) : Calls Tryz.prog 91 #[.int .u8 (c.toNat : Int)] w fun e w' => e = .returned (.bool (ltr c)) ∧ w = w' := by
  have HL := Lib.hid (ltr_of c)
  obtain ⟨b, hb⟩ : ∃ b, ltr c = b := ⟨_, rfl⟩
  rw [hb] at HL ⊢
  clear hb
  obtain ⟨d, hd⟩ : ∃ d, c.toNat = d := ⟨_, rfl⟩
  rw [hd] at HL ⊢
  clear hd
  by_cases h1 : 97 ≤ d
  · have u1 : (97 : Int) ≤ (d : Int) := by omega
    by_cases h2 : d ≤ 122
    · have u2 : (d : Int) ≤ 122 := by omega
      go_enter Tryz.func91, Tryz.ntmps91
      go_wp2_with fail
      go_ret
      exact ⟨by rw [HL.out]; simp [h1, h2], rfl⟩
    · have u2 : ¬ (d : Int) ≤ 122 := by omega
      have u3 : (65 : Int) ≤ (d : Int) := by omega
      have u4 : ¬ (d : Int) ≤ 90 := by omega
      have h4 : ¬ d ≤ 90 := by omega
      go_enter Tryz.func91, Tryz.ntmps91
      go_wp2_with fail
      go_ret
      exact ⟨by rw [HL.out]; simp [h1, h2, h4], rfl⟩
  · have u1 : ¬ (97 : Int) ≤ (d : Int) := by omega
    by_cases h3 : 65 ≤ d
    · have u3 : (65 : Int) ≤ (d : Int) := by omega
      by_cases h4 : d ≤ 90
      · have u4 : (d : Int) ≤ 90 := by omega
        go_enter Tryz.func91, Tryz.ntmps91
        go_wp2_with fail
        go_ret
        exact ⟨by rw [HL.out]; simp [h1, h3, h4], rfl⟩
      · have u4 : ¬ (d : Int) ≤ 90 := by omega
        go_enter Tryz.func91, Tryz.ntmps91
        go_wp2_with fail
        go_ret
        exact ⟨by rw [HL.out]; simp [h1, h3, h4], rfl⟩
    · have u3 : ¬ (65 : Int) ≤ (d : Int) := by omega
      go_enter Tryz.func91, Tryz.ntmps91
      go_wp2_with fail
      go_ret
      exact ⟨by rw [HL.out]; simp [h1, h3], rfl⟩
/-- How long the name is that stands first; 0: there is none. -/
def rnm (l : List UInt8) : Nat := (nmF l).getD 0
theorem rnm_stop {l : List UInt8} {n : Nat} (hn : n ≤ l.length) (hi : ∀ c ∈ l.take n, inN c = true) (h0 : 0 < n → ltr (l.headD 0) = true) (hs : n = l.length ∨ ∃ h : n < l.length, ltr l[n] = false ∧ (0 < n → inN l[n] = false)) : rnm l = if n > 20 then 0 else n := by
  unfold rnm nmF
  by_cases hz : n = 0
  · subst hz
    rw [ite_self]
    rcases hs with hs | ⟨h, h1, -⟩
    · have : l = [] := List.length_eq_zero_iff.1 hs.symm
      subst this; rfl
    · have : ltr (l.headD 0) = false := by
        cases l with
        | nil => simp at h
        | cons c r => exact h1
      rw [if_pos (.inr (.inr this))]; rfl
  · have hm : nmLen l = n := nmLen_drop hi hn (hs.imp id fun ⟨h, _, h2⟩ => ⟨h, h2 (by omega)⟩)
    rw [hm]
    by_cases h20 : n > 20
    · rw [if_pos (.inr (.inl h20)), if_pos h20]; rfl
    · rw [if_neg, if_neg h20]; · rfl
      rintro (h | h | h)
      · exact hz h
      · exact h20 h
      · rw [h0 (by omega)] at h; cases h
theorem take_sn {l : List UInt8} {n : Nat} (h : n < l.length) : l.take (n + 1) = l.take n ++ [l[n]] := by
  rw [List.take_succ_eq_append_getElem h]
theorem headD_take {l : List UInt8} {n : Nat} (h : n < l.length) (hn : n = 0) : l.headD 0 = l[n] := by
  subst hn
  cases l with
  | nil => simp at h
  | cons c r => rfl
set_option maxRecDepth 100000 in
set_option maxHeartbeats 4000000 in
theorem rnameAt_calls (s : ByteArray) (w : World) (hs : s.size ≤ 9223372036854775806) : Calls Tryz.prog 54 #[.string s, .int .i64 0] w fun e w' => e = .returned (.int .i64 (rnm s.data.toList : Int)) ∧ w = w' := by
  have hl : s.data.toList.length = s.size := by simp
  have HLN := Lib.hid hl
  clear hl
  go_enter Tryz.func54, Tryz.ntmps54
  go_wp2_with fail
  go_loop [5] (fun t => ∃ n : Nat, n ≤ s.size ∧ t = .int .i64 n ∧ Hid (∀ c ∈ s.data.toList.take n, inN c = true) ∧ Hid (0 < n → ltr (s.data.toList.headD 0) = true)) (fun t => s.size - (intOf t).toNat)
  case atStart => exact ⟨0, Nat.zero_le _, rfl, Lib.hid (fun c hc => by simp at hc), Lib.hid (fun h => absurd h (by omega))⟩
  case round =>
    obtain ⟨n, hn, rfl, HI, H0⟩ := hrel
    have stop : (n = s.size ∨ ∃ h : n < s.data.toList.length, ltr s.data.toList[n] = false ∧ (0 < n → inN s.data.toList[n] = false)) → rnm s.data.toList = if n > 20 then 0 else n := fun h => rnm_stop (by rw [HLN.out]; exact hn) HI.out H0.out (h.imp (fun e => by rw [HLN.out]; exact e) id)
    have HST := Lib.hid stop
    clear stop
    by_cases hlt : n < s.size
    · have HC := Lib.hid (show s[n] = s.data.toList[n]'(by rw [HLN.out]; exact hlt) from rfl)
      have nxt : inN s[n] = true → ltr (s.data.toList.headD 0) = true → (∀ c ∈ s.data.toList.take (n + 1), inN c = true) := fun h1 h2 c hc => by
        rw [take_sn (by rw [HLN.out]; exact hlt)] at hc
        rcases List.mem_append.1 hc with hc | hc
        · exact HI.out c hc
        · rw [List.mem_singleton.1 hc]; exact h1
      have HNX := Lib.hid nxt
      have HIN := Lib.hid (show inN s[n] = (ltr s[n] || (decide (48 ≤ s[n].toNat) && decide (s[n].toNat ≤ 57)) || decide (s[n].toNat = 45)) from rfl)
      clear nxt
      rcases (show ltr s[n] = false ∨ ltr s[n] = true by cases ltr s[n] <;> simp) with hb | hb
      · have HB := Lib.hid hb
        clear hb
        by_cases hz : 0 < n
        · have u0 : (0 : Int) < (n : Int) := by omega
          have HG := Lib.hid (H0.out hz)
          have HZ := Lib.hid hz
          by_cases h1 : 48 ≤ s[n].toNat ∧ s[n].toNat ≤ 57
          · have u1 : (48 : Int) ≤ (s[n].toNat : Int) := by omega
            have u2 : (s[n].toNat : Int) ≤ 57 := by omega
            have HQ := Lib.hid (HNX.out (by rw [HIN.out]; simp [h1.1, h1.2]) HG.out)
            clear h1
            go_wp2_with (go_at_call 91; refine (rletter_calls s[n] _).mono ?_; rintro e w' ⟨rfl, rfl⟩; rw [HB.out])
            go_round
            case rel => exact ⟨n + 1, by omega, by go_num, HQ, Lib.hid (fun _ => HG.out)⟩
            case measure => simp [intOf]; omega
          · by_cases h2 : s[n].toNat = 45
            · have u3 : ((s[n].toNat : Int) == 45) = true := by simp; omega
              have HQ := Lib.hid (HNX.out (by rw [HIN.out]; simp [h2]) HG.out)
              by_cases h3 : 48 ≤ s[n].toNat
              · exfalso; omega
              · have u1 : ¬ (48 : Int) ≤ (s[n].toNat : Int) := by omega
                clear h1 h2 h3
                go_wp2_with (go_at_call 91; refine (rletter_calls s[n] _).mono ?_; rintro e w' ⟨rfl, rfl⟩; rw [HB.out])
                go_round
                case rel => exact ⟨n + 1, by omega, by go_num, HQ, Lib.hid (fun _ => HG.out)⟩
                case measure => simp [intOf]; omega
            · have u3 : ((s[n].toNat : Int) == 45) = false := by simp; omega
              have HR := Lib.hid (HST.out (.inr ⟨by rw [HLN.out]; exact hlt, HB.out, fun _ => by
                show inN s[n] = false
                rw [HIN.out, HB.out]; simp; omega⟩))
              by_cases h3 : 48 ≤ s[n].toNat
              · have u1 : (48 : Int) ≤ (s[n].toNat : Int) := by omega
                have u2 : ¬ (s[n].toNat : Int) ≤ 57 := by omega
                clear h1 h2 h3
                by_cases h20 : (n : Int) > 20
                all_goals
                  go_wp2_with (go_at_call 91; refine (rletter_calls s[n] _).mono ?_; rintro e w' ⟨rfl, rfl⟩; rw [HB.out])
                  go_ret
                  exact ⟨by rw [HR.out]; (first | rw [if_pos (by omega)] | rw [if_neg (by omega)]) <;> rfl, rfl⟩
              · have u1 : ¬ (48 : Int) ≤ (s[n].toNat : Int) := by omega
                clear h1 h2 h3
                by_cases h20 : (n : Int) > 20
                all_goals
                  go_wp2_with (go_at_call 91; refine (rletter_calls s[n] _).mono ?_; rintro e w' ⟨rfl, rfl⟩; rw [HB.out])
                  go_ret
                  exact ⟨by rw [HR.out]; (first | rw [if_pos (by omega)] | rw [if_neg (by omega)]) <;> rfl, rfl⟩
        · have u0 : ¬ (0 : Int) < (n : Int) := by omega
          have h20 : ¬ (n : Int) > 20 := by omega
          have HR := Lib.hid (HST.out (.inr ⟨by rw [HLN.out]; exact hlt, HB.out, fun h => absurd h hz⟩))
          go_wp2_with (go_at_call 91; refine (rletter_calls s[n] _).mono ?_; rintro e w' ⟨rfl, rfl⟩; rw [HB.out])
          go_ret
          exact ⟨by rw [HR.out, if_neg (by omega)]; rfl, rfl⟩
      · have HB := Lib.hid hb
        clear hb
        have HG := Lib.hid (show ltr (s.data.toList.headD 0) = true by
          by_cases hz : 0 < n
          · exact H0.out hz
          · rw [headD_take (n := n) (by rw [HLN.out]; exact hlt) (by omega)]; exact HB.out)
        have HQ := Lib.hid (HNX.out (by rw [HIN.out, HB.out]; rfl) HG.out)
        go_wp2_with (go_at_call 91; refine (rletter_calls s[n] _).mono ?_; rintro e w' ⟨rfl, rfl⟩; rw [HB.out])
        go_round
        case rel => exact ⟨n + 1, by omega, by go_num, HQ, Lib.hid (fun _ => HG.out)⟩
        case measure => simp [intOf]; omega
    · have HR := Lib.hid (HST.out (.inl (by omega)))
      by_cases h20 : (n : Int) > 20
      all_goals
        go_wp2_with fail
        go_ret
        exact ⟨by rw [HR.out]; (first | rw [if_pos (by omega)] | rw [if_neg (by omega)]) <;> rfl, rfl⟩
def nmsR (l : List UInt8) : List Int := l.map fun c => (c.toNat : Int)
theorem str_nmsR (l : List UInt8) : strOfNums (nmsR l) = st l := by
  have : (strOfNums (nmsR l)).data.toList = l := by
    unfold strOfNums nmsR
    rw [List.map_map]
    show List.map _ l = l
    conv => rhs; rw [← List.map_id l]
    apply List.map_congr_left
    intro c _
    show UInt8.ofNat (Int.toNat (c.toNat : Int)) = c
    simp
  unfold st
  cases h : strOfNums (nmsR l) with
  | mk d => rw [h] at this; simp only at this; rw [← this]
set_option maxRecDepth 100000 in
set_option maxHeartbeats 4000000 in
theorem rlower_calls (s : ByteArray) (w : World) (hs : s.size ≤ 1000000) : Calls Tryz.prog 55 #[.string s] w fun e w' => e = .returned (.string (st (lows s.data.toList))) ∧ Below w.heap.size w w' := by
  have hl : s.data.toList.length = s.size := by simp
  have HLN := Lib.hid hl
  clear hl
  go_enter Tryz.func55, Tryz.ntmps55
  go_wp2_with ((with_reducible refine gate_dst (N := 6) rfl ?_); refine Kd.R_lit (Kd.int .u8) _ 5 ?hg (N := 6) ?hd (xs := ([] : List Int)) (inner := []) (ok := fun _ => True) (okp := fun _ => True) ?hr ?hp (fun _ hk => hk) trivial (Below.refl _ _) (Nat.le_refl _) (by simp) ?_; (case hd => rfl); (case hg => rfl); (case hr => first | (go_simp; done) | (go_simp; rfl)); (case hp => exact (Reps.none _ _)); intro v2 w2 ho3 hb hg_ hnew_; clear hg_ hnew_; have HO := Lib.hid (Kd.R_lower ho3 (Nat.le_refl w.heap.size)); have HB := Lib.hid hb; clear ho3 hb)
  go_loopw [3, 4] (fun v i wr => ∃ k : Nat, k ≤ s.size ∧ i = .int .i64 k ∧ Hid (Kd.R (Kd.int .u8) 5 wr w.heap.size (fun _ => True) v (nmsR (lows (s.data.toList.take k)))) ∧ Hid (Below w.heap.size w wr)) (fun _ i _ => s.size - (intOf i).toNat)
  case atStart => exact ⟨0, Nat.zero_le _, rfl, HO, HB⟩
  case round =>
    clear HO HB
    obtain ⟨k, hk, rfl, HO, HB⟩ := hrel
    by_cases hlt : k < s.size
    · obtain ⟨c, hc⟩ : ∃ c : Int, c = ((low s[k]).toNat : Int) := ⟨_, rfl⟩
      have HS := Lib.hid (show nmsR (lows (s.data.toList.take (k + 1))) = nmsR (lows (s.data.toList.take k)) ++ [c] by
        rw [take_sn (by rw [HLN.out]; exact hlt), hc]
        unfold nmsR lows
        rw [List.map_append, List.map_append]; rfl)
      have HL8 := Lib.hid (show (nmsR (lows (s.data.toList.take k))).length ≤ 1000000 by unfold nmsR lows; rw [List.length_map, List.length_map, List.length_take]; omega)
      have HLO := Lib.hid (low_nat s[k])
      by_cases h1 : 65 ≤ s[k].toNat ∧ s[k].toNat ≤ 90
      · have u1 : (65 : Int) ≤ (s[k].toNat : Int) := by omega
        have u2 : (s[k].toNat : Int) ≤ 90 := by omega
        have HE := Lib.hid (show c = (s[k].toNat : Int) + 32 by rw [hc, HLO.out, if_pos h1]; omega)
        clear h1 hc
        go_wp2_with ((with_reducible refine gate_builtin (b := .append) (xs := #[.tmp 24, .tmp 26]) rfl ?_); at_builtin; refine Kd.R_append (Kd.int .u8) (w0 := w) w.heap.size rfl (.tmp 24) (.tmp 26) 72 5 (.int .u8 0) 1 rfl Tryz.underlying72 info5 rfl (by decide) (by omega) u3 (nmsR (lows (s.data.toList.take k))) ((s[k].toNat : Int) + 32) [.int .u8 ((s[k].toNat : Int) + 32)] (fun _ => True) (fun _ => False) rfl rfl ?aP (fun _ hk => hk.elim) ?aF ?aO ?aB ?aS ?aL ?_; (case aP => exact rfl); (case aB => exact HB.out); (case aF => exact (fun _ _ => trivial)); (case aO => exact HO.out); (case aS => exact (below_size HB.out)); (case aL => have := HL8.out; omega); intro v3 w3 ho hb hg hat; rw [← HE.out, ← HS.out] at ho; have HO2 := Lib.hid ho; have HB2 := Lib.hid hb; clear ho hb hg hat)
        go_roundw
        case rel => exact ⟨k + 1, by omega, by go_num, HO2, HB2⟩
        case measure => simp [intOf]; omega
      · have HE := Lib.hid (show c = (s[k].toNat : Int) by rw [hc, HLO.out, if_neg h1])
        clear hc
        by_cases h2 : 65 ≤ s[k].toNat
        · have u1 : (65 : Int) ≤ (s[k].toNat : Int) := by omega
          have u2 : ¬ (s[k].toNat : Int) ≤ 90 := by omega
          clear h1 h2
          go_wp2_with ((with_reducible refine gate_builtin (b := .append) (xs := #[.tmp 24, .tmp 26]) rfl ?_); at_builtin; refine Kd.R_append (Kd.int .u8) (w0 := w) w.heap.size rfl (.tmp 24) (.tmp 26) 72 5 (.int .u8 0) 1 rfl Tryz.underlying72 info5 rfl (by decide) (by omega) u3 (nmsR (lows (s.data.toList.take k))) (s[k].toNat : Int) [.int .u8 (s[k].toNat : Int)] (fun _ => True) (fun _ => False) rfl rfl ?aP (fun _ hk => hk.elim) ?aF ?aO ?aB ?aS ?aL ?_; (case aP => exact rfl); (case aB => exact HB.out); (case aF => exact (fun _ _ => trivial)); (case aO => exact HO.out); (case aS => exact (below_size HB.out)); (case aL => have := HL8.out; omega); intro v3 w3 ho hb hg hat; rw [← HE.out, ← HS.out] at ho; have HO2 := Lib.hid ho; have HB2 := Lib.hid hb; clear ho hb hg hat)
          go_roundw
          case rel => exact ⟨k + 1, by omega, by go_num, HO2, HB2⟩
          case measure => simp [intOf]; omega
        · have u1 : ¬ (65 : Int) ≤ (s[k].toNat : Int) := by omega
          clear h1 h2
          go_wp2_with ((with_reducible refine gate_builtin (b := .append) (xs := #[.tmp 24, .tmp 26]) rfl ?_); at_builtin; refine Kd.R_append (Kd.int .u8) (w0 := w) w.heap.size rfl (.tmp 24) (.tmp 26) 72 5 (.int .u8 0) 1 rfl Tryz.underlying72 info5 rfl (by decide) (by omega) u3 (nmsR (lows (s.data.toList.take k))) (s[k].toNat : Int) [.int .u8 (s[k].toNat : Int)] (fun _ => True) (fun _ => False) rfl rfl ?aP (fun _ hk => hk.elim) ?aF ?aO ?aB ?aS ?aL ?_; (case aP => exact rfl); (case aB => exact HB.out); (case aF => exact (fun _ _ => trivial)); (case aO => exact HO.out); (case aS => exact (below_size HB.out)); (case aL => have := HL8.out; omega); intro v3 w3 ho hb hg hat; rw [← HE.out, ← HS.out] at ho; have HO2 := Lib.hid ho; have HB2 := Lib.hid hb; clear ho hb hg hat)
          go_roundw
          case rel => exact ⟨k + 1, by omega, by go_num, HO2, HB2⟩
          case measure => simp [intOf]; omega
    · have hO := HO.out
      rw [List.take_of_length_le (by rw [HLN.out]; omega)] at hO
      obtain ⟨A, c, rfl, hcl, hC⟩ := Kd.R_reads hO
      have hcv : ∀ W, W = wr → (convert 72 9 (.slice A (nmsR (lows s.data.toList)).length c)).run Tryz.prog W = .ok (.string (st (lows s.data.toList))) W := fun W hW => by
        subst hW
        rw [← str_nmsR]
        exact Kd.C_string Tryz.underlying72 Tryz.underlying5 Tryz.underlying9 hC
      have hcv := hcv wr rfl
      clear hO hC hcl
      go_wp2_with fail
      go_ret
      exact ⟨rfl, HB.out⟩
set_option maxRecDepth 100000 in
set_option maxHeartbeats 4000000 in
theorem rname_calls (s : ByteArray) (w : World) (hs : s.size ≤ 9223372036854775806) : Calls Tryz.prog 18 #[.string s] w fun e w' => e = .returned (.bool (nameB s.data.toList)) ∧ Below w.heap.size w w' := by
  have hl : s.data.toList.length = s.size := by simp
  have HLN := Lib.hid hl
  clear hl
  have hrn : rnm s.data.toList ≤ s.size ∧ rnm s.data.toList ≤ 20 := by
    unfold rnm nmF
    split
    · exact ⟨Nat.zero_le _, Nat.zero_le _⟩
    · rename_i h
      have := nmLen_le s.data.toList
      rw [HLN.out] at this
      simp only [Option.getD_some]
      omega
  obtain ⟨r, hr⟩ : ∃ r, r = rnm s.data.toList := ⟨_, rfl⟩
  have HN := Lib.hid (show nameB s.data.toList = (decide (0 < s.size) && decide (r = s.size) && decide (lows s.data.toList = s.data.toList)) by
    unfold nameB
    congr 1
    rw [hr]
    unfold rnm
    cases h : nmF s.data.toList with
    | none =>
      rw [decide_eq_false (by simp), Eq.comm, Bool.and_eq_false_iff, decide_eq_false_iff_not, decide_eq_false_iff_not]
      show _ ∨ ¬ (0 : Nat) = s.size
      omega
    | some k =>
      have hk : 0 < k := by
        unfold nmF at h
        split at h
        · cases h
        · injection h with h; omega
      have hsz : s.data.toList.length = s.size := HLN.out
      rw [Bool.eq_iff_iff, Bool.and_eq_true, decide_eq_true_iff, decide_eq_true_iff, decide_eq_true_iff, hsz]
      exact ⟨fun e => by injection e with e; exact ⟨by omega, e⟩, fun e => by rw [show k = s.size from e.2]⟩)
  have HR := Lib.hid (show Calls Tryz.prog 54 #[.string s, .int .i64 0] w fun e w' => e = .returned (.int .i64 (r : Int)) ∧ w = w' by rw [hr]; exact rnameAt_calls s w hs)
  rw [← hr] at hrn
  have hr1 : (r : Int) ≤ 20 := by omega
  have HRR := Lib.hid hrn
  clear hr hrn
  by_cases h0 : 0 < s.size
  · have u0 : (0 : Int) < (s.size : Int) := by omega
    by_cases h1 : r = s.size
    · have u1 : ((r : Int) == (s.size : Int)) = true := by simp; omega
      have HE := Lib.hid (show st (lows s.data.toList) = s ↔ lows s.data.toList = s.data.toList from ⟨fun h => by
        have := congrArg (fun x : ByteArray => x.data.toList) h
        exact this, fun h => by
        rw [h]; unfold st; cases s; rfl⟩)
      have HZ := Lib.hid h1
      obtain ⟨lw, hlw⟩ : ∃ lw, lw = st (lows s.data.toList) := ⟨_, rfl⟩
      have HLC := Lib.hid (show Calls Tryz.prog 55 #[.string s] w fun e w' => e = .returned (.string lw) ∧ Below w.heap.size w w' by rw [hlw]; exact rlower_calls s w (by omega))
      rw [← hlw] at HE
      clear hlw h1
      by_cases h2 : lw = s
      · have v2 : (lw.toList == s.toList) = true := by rw [h2]; simp
        have HH := Lib.hid (HE.out.1 h2)
        clear h2
        go_enter Tryz.func18, Tryz.ntmps18
        go_wp2_with (first | (go_at_call 54; refine HR.out.mono ?_; rintro e w' ⟨rfl, rfl⟩) | (go_at_call 55; refine HLC.out.mono ?_; rintro e w' ⟨rfl, hb⟩; have HB := Lib.hid hb; clear hb))
        go_ret
        exact ⟨by rw [HN.out, HH.out]; simp [h0]; exact HZ.out, HB.out⟩
      · have v2 : (lw.toList == s.toList) = false := by
          rw [beq_eq_false_iff_ne]
          intro h
          rw [ByteArray.toList_eq, ByteArray.toList_eq] at h
          apply h2
          cases lw; cases s
          simp at h
          rw [h]
        have HH := Lib.hid (fun h => h2 (HE.out.2 h))
        clear h2
        go_enter Tryz.func18, Tryz.ntmps18
        go_wp2_with (first | (go_at_call 54; refine HR.out.mono ?_; rintro e w' ⟨rfl, rfl⟩) | (go_at_call 55; refine HLC.out.mono ?_; rintro e w' ⟨rfl, hb⟩; have HB := Lib.hid hb; clear hb))
        go_ret
        exact ⟨by rw [HN.out, decide_eq_false HH.out, Bool.and_false]; rfl, HB.out⟩
    · have u1 : ((r : Int) == (s.size : Int)) = false := by simp; omega
      have HZ := Lib.hid h1
      clear h1
      go_enter Tryz.func18, Tryz.ntmps18
      go_wp2_with (go_at_call 54; refine HR.out.mono ?_; rintro e w' ⟨rfl, rfl⟩)
      go_ret
      exact ⟨by rw [HN.out, decide_eq_false HZ.out, Bool.and_false, Bool.false_and]; rfl, Below.refl _ _⟩
  · have u0 : ¬ (0 : Int) < (s.size : Int) := by omega
    go_enter Tryz.func18, Tryz.ntmps18
    go_wp2_with fail
    go_ret
    exact ⟨by rw [HN.out, decide_eq_false h0]; rfl, Below.refl _ _⟩
end Go.Proofs.YtkjgnkmnngaioaaGreat.Q
namespace Go.Proofs.YtkjgnkmnngaioaaGreat.Q
open Go.RowKit Go.Proofs.YtkjgnkmnngaioaaGreat.Mem Go.Proofs.YtkjgnkmnngaioaaGreatW.PrintWords Go.Proofs.YtkjgnkmnngaioaaGreatW.PrintLast Go.Proofs.YtkjgnkmnngaioaaGreatW.PrintMore
set_option linter.unusedVariables false
set_option linter.unusedSimpArgs false
/-- Are two texts the same? -/
def eqS (a b : ByteArray) : Bool := decide (a.toList = b.toList)
theorem ret_bool' {a b : Bool} (h : a = b) : Ending.returned (.bool a) = .returned (.bool b) := by rw [h]
theorem asks_calls (s x : ByteArray) (b : Nat) (src : ByteArray) (w : World) (hc : w.cell? ⟨b, 0, none⟩ = some (.string src)) (hb : b < w.heap.size) :
    Calls Tryz.prog 109 #[.agg #[.string s, .string x], .pointer (some ⟨b, 0, none⟩)] w fun e w' => e = .returned (.bool (eqS s src)) ∧ Below w.heap.size w w' := by
  have hn : b ≠ w.heap.size := by omega
  go_enter Tryz.func109, Tryz.ntmps109
  go_wp2
  go_ret
  exact ⟨ret_bool' (by unfold eqS; rw [Bool.eq_iff_iff]; simp), (Below.refl _ _).alloc (Nat.le_refl _) _⟩
/-- The first place whose attribute has that name, from a place on; -1: there is none. -/
def kidxFrom (src : ByteArray) : List S70 → Nat → Int
  | [], _ => -1
  | x :: l, k => if eqS x.f0 src = true then (k : Int) else kidxFrom src l (k + 1)
theorem kidxFrom_drop (src : ByteArray) (l : List S70) (k : Nat) (h : k < l.length) : kidxFrom src (l.drop k) k = if eqS l[k].f0 src = true then (k : Int) else kidxFrom src (l.drop (k + 1)) (k + 1) := by
  rw [List.drop_eq_getElem_cons h]; rfl
theorem kidxFrom_any (src : ByteArray) : ∀ (l : List S70) (k : Nat), decide (kidxFrom src l k ≥ 0) = l.any (fun x => eqS x.f0 src)
  | [], _ => rfl
  | x :: l, k => by
    unfold kidxFrom
    by_cases h : eqS x.f0 src = true
    · rw [if_pos h]; simp [h]
    · rw [if_neg h, kidxFrom_any src l (k + 1)]; simp [h]
set_option maxHeartbeats 1000000 in
theorem kindex_calls (A0 : Option Addr) (c0 : Nat) (l : List S70) (b : Nat) (src : ByteArray) (w : World) (hr0 : Kd.C k70 w A0 l.length l) (hl : l.length ≤ 9223372036854775806)
    (hc : w.cell? ⟨b, 0, none⟩ = some (.string src)) (hb : b < w.heap.size) :
    Calls Tryz.prog 80 #[.slice A0 l.length c0, .func (.func 109) #[] #[.pointer (some ⟨b, 0, none⟩)]] w fun e w' => e = .returned (.int .i64 (kidxFrom src l 0)) ∧ Below w.heap.size w w' := by
  have HR := Lib.hid hr0
  have HC := Lib.hid hc
  clear hr0 hc
  go_enter Tryz.func80, Tryz.ntmps80
  go_wp2_with fail
  go_loopw [8] (fun i wr => ∃ k : Nat, k ≤ l.length ∧ i = .int .i64 k ∧ Hid (kidxFrom src l 0 = kidxFrom src (l.drop k) k) ∧ Hid (Below w.heap.size w wr)) (fun i wr => l.length - (intOf i).toNat)
  case atStart => exact ⟨0, Nat.zero_le _, rfl, Lib.hid rfl, Lib.hid (Below.refl _ _)⟩
  case round =>
    obtain ⟨k, hk, rfl, HI, HB⟩ := hrel
    by_cases hlt : k < l.length
    · obtain ⟨ad, rfl, h0, h1⟩ := at_T70 (Kd.C_below HR.out HB.out) (k : Int) (by omega) (by omega)
      have hrd : Hid (rd_T70 l (k : Int) = l[k]) := Lib.hid (by simp [rd_T70, hlt])
      have HS := Lib.hid (kidxFrom_drop src l k hlt)
      simp only [Int.toNat_natCast] at h0 h1
      generalize hx : rd_T70 l (k : Int) = x at *
      have HX := Lib.hid hx
      clear hx
      have q0 : (wr.cell? ⟨b, 0, none⟩ = some (.string src)) := by rw [HB.out.cell (p := ⟨b, 0, none⟩) hb]; exact HC.out
      have q1 : b < wr.heap.size := Nat.lt_of_lt_of_le hb HB.out.size
      have Q0 := Lib.hid q0
      clear q0
      rcases (show eqS x.f0 src = false ∨ eqS x.f0 src = true by cases eqS x.f0 src <;> simp) with he | he
      · have HE := Lib.hid he
        clear he
        go_wp2_with fail
        refine (asks_calls x.f0 x.f1 b src _ Q0.out q1).mono ?_
        rintro e w' ⟨rfl, hb'⟩
        rw [HE.out]
        have HB' := Lib.hid (HB.out.trans (hb'.mono HB.out.size))
        clear hb'
        go_wp2_with fail
        go_roundw
        case rel => exact ⟨k + 1, by omega, by go_num, Lib.hid (by rw [HI.out, HS.out, ← hrd.out, if_neg (by rw [HE.out]; decide)]), HB'⟩
        case measure => simp [intOf]; omega
      · have HE := Lib.hid he
        clear he
        go_wp2_with fail
        refine (asks_calls x.f0 x.f1 b src _ Q0.out q1).mono ?_
        rintro e w' ⟨rfl, hb'⟩
        rw [HE.out]
        have HB' := Lib.hid (HB.out.trans (hb'.mono HB.out.size))
        clear hb'
        go_wp2_with fail
        go_ret
        exact ⟨by rw [HI.out, HS.out, ← hrd.out, if_pos HE.out]; rfl, HB'.out⟩
    · have hd : l.drop k = [] := by rw [List.drop_eq_nil_iff]; omega
      have HD := Lib.hid hd
      clear hd
      go_wp2_with fail
      go_ret
      exact ⟨by rw [HI.out, HD.out]; rfl, HB.out⟩
theorem hasKey_calls (A0 : Option Addr) (c0 : Nat) (l : List S70) (b : Nat) (src : ByteArray) (w : World) (hr0 : Kd.C k70 w A0 l.length l) (hl : l.length ≤ 9223372036854775806)
    (hc : w.cell? ⟨b, 0, none⟩ = some (.string src)) (hb : b < w.heap.size) :
    Calls Tryz.prog 108 #[.slice A0 l.length c0, .func (.func 109) #[] #[.pointer (some ⟨b, 0, none⟩)]] w fun e w' => e = .returned (.bool (l.any fun x => eqS x.f0 src)) ∧ Below w.heap.size w w' := by
  have HR := Lib.hid hr0
  have HC := Lib.hid hc
  clear hr0 hc
  go_enter Tryz.func108, Tryz.ntmps108
  go_wp2_with fail
  refine (kindex_calls A0 c0 l b src _ HR.out hl HC.out hb).mono ?_
  rintro e w' ⟨rfl, hb'⟩
  have HB' := Lib.hid hb'
  clear hb'
  go_wp2_with fail
  go_ret
  exact ⟨by rw [← kidxFrom_any src l 0]; rfl, HB'.out⟩
end Go.Proofs.YtkjgnkmnngaioaaGreat.Q
namespace Go.Proofs.YtkjgnkmnngaioaaGreat.Q
open Go.RowKit Go.IntWalk Go.Proofs.YtkjgnkmnngaioaaGreat.Mem
set_option linter.unusedVariables false
set_option linter.unusedSimpArgs false
/-- A closing: how long its name is, and how many bytes it takes. -/
def clF (l : List UInt8) : Option (Nat × Nat) :=
  if l.length < 2 then none else if l.getD 1 0 ≠ 47 then none else
    match nmF (l.drop 2) with
    | none => none
    | some k => if (l.drop (2 + k + spLen (l.drop (2 + k)))).head? = some 62 then some (k, 2 + k + spLen (l.drop (2 + k)) + 1) else none
/-- The cells of a token. -/
def TK (k : Int) (n t a : Value) : Array Value := #[.int .i64 k, n, t, a]
def nil8 : Value := .slice none 0 0
def emv : Value := .string ⟨#[]⟩
/-- What is taken. -/
def TakePost (g a n : Nat) (w : World) (tok : Array Value) (u : Nat) (e : Ending) : Prop :=
  ∃ a', (u < n → a' = a + u) ∧ e = .returned (.tuple #[.agg tok, .slice (some ⟨g, a', none⟩) (n - u) (n - u), .bool true])
theorem tk_all (k : Int) (n t : ByteArray) (p : Option Addr) (x y : Nat) : (TK k (.string n) (.string t) (.slice p x y)).all (·.oneCell') = true := by unfold TK; simp; exact ⟨rfl, rfl, rfl, rfl⟩
theorem info_tok (k : Int) (n t a : Value) : (Tryz.prog.info? 46).map (·.size) = some (TK k n t a).size := by
  have h : (Tryz.prog.info? 46).map (·.size) = some 4 := by kernel_rfl
  exact h
def NonePost (e : Ending) : Prop := e = .returned (.tuple #[.agg (TK 0 emv emv nil8), nil8, .bool false])
def ClPost (g a n : Nat) (l : List UInt8) (w : World) (e : Ending) (w' : World) : Prop :=
  (match clF l with
    | none => NonePost e
    | some (k, u) => TakePost g a n w (TK 2 (.string (st (lows ((l.drop 2).take k)))) emv nil8) u e) ∧ Below w.heap.size w w'
/-- Ahead of the store, and behind it. -/
def ClC (h : Nat) (cs : Array Value) (w w1 : World) : Nat → World → Prop
  | 0, y => y = w1
  | _, y => Blk y h cs 46 ∧ Below w.heap.size w y
set_option maxRecDepth 100000 in
set_option maxHeartbeats 4000000 in
theorem closing_calls (g a n c : Nat) (l : List UInt8) (w : World) (hB : Bt w g a n c l) (hn : n ≤ 600000) :
    Calls Tryz.prog 85 #[.slice (some ⟨g, a, none⟩) n c] w (ClPost g a n l w) := by
  have HB := Lib.hid hB
  have HLN := Lib.hid hB.len
  have HCP := Lib.hid hB.cap
  clear hB
  by_cases h2 : n < 2
  · have HN := Lib.hid (show clF l = none from by unfold clF; rw [if_pos (by rw [HLN.out]; exact h2)])
    have v1 : (n : Int) < 2 := by omega
    go_enter Tryz.func85, Tryz.ntmps85
    go_wp2_with fail
    refine bodyPost_ret (v := .tuple #[.agg (TK 0 emv emv nil8), nil8, .bool false]) (by simp [results, Tryz.results85, go_sem, TK, emv, nil8]) rfl ⟨by rw [HN.out]; exact rfl, (Below.refl _ _).alloc (Nat.le_refl _) _⟩
  · have v1 : ¬ (n : Int) < 2 := by omega
    have hl1 : 1 < l.length := by have := HLN.out; omega
    obtain ⟨d, hd⟩ : ∃ d, d = l[1]'hl1 := ⟨_, rfl⟩
    have d0 : w.cell? ⟨g, a + 1, none⟩ = some (.int .u8 (d.toNat : Int)) := by rw [hd]; exact HB.out.cell 1 hl1
    have HD := Lib.hid (show l.getD 1 0 = d from by rw [hd, List.getD_eq_getElem?_getD, List.getElem?_eq_getElem hl1]; rfl)
    have hga : g < w.heap.size := lt_of_cell d0
    have d0' : ∀ o, (w.alloc o).cell? ⟨g, a + 1, none⟩ = some (.int .u8 (d.toNat : Int)) := fun o => (World.cell?_of_block (Below.heap_alloc _ _ _ hga)).trans d0
    clear hd
    by_cases h47 : d = 47
    · subst h47
      have hc2 : 2 ≤ c := by have := HCP.out; omega
      obtain ⟨a1, ha1⟩ : ∃ a1, a1 = bof a c 2 := ⟨_, rfl⟩
      have hsl : ∀ W : World, (Instr.slice 72 (.slice (some ⟨g, a, none⟩) n c) (some (.int .i64 2)) none none).run Tryz.prog W = .ok (.slice (some ⟨g, a1, none⟩) (n - 2) (c - 2)) W := fun W => by
        have h := slice_l W g a n c 2 (by omega) HCP.out
        rw [← ha1] at h
        exact h
      obtain ⟨W, hW⟩ : ∃ W, W = w.alloc (.cells (TK 0 emv emv nil8) 46) := ⟨_, rfl⟩
      have HBW := Lib.hid (show Below w.heap.size w W from by rw [hW]; exact (Below.refl _ _).alloc (Nat.le_refl _) _)
      have HB1 := Lib.hid (show Bt W g a1 (n - 2) (c - 2) (l.drop 2) from (HB.out.below HBW.out).drop (by omega) (fun h => by rw [ha1]; exact bof_lt (by have := HCP.out; omega)) (by have := HCP.out; omega))
      have HBK := Lib.hid (show Blk W w.heap.size (TK 0 emv emv nil8) 46 from by rw [hW]; exact Blk.alloc _ _ _)
      have HNM := Lib.hid (name_calls g a1 (n - 2) (c - 2) (l.drop 2) W HB1.out (by omega))
      rw [hW] at HNM
      unfold NmPost at HNM
      have HA1 := Lib.hid (show 2 < c → a1 = a + 2 from fun h => by rw [ha1]; exact bof_lt h)
      clear ha1
      cases hnm : nmF (l.drop 2) with
      | none =>
        have HN := Lib.hid (show clF l = none from by
          unfold clF
          rw [if_neg (by rw [HLN.out]; exact h2), if_neg (by rw [HD.out]; exact fun h => h rfl), hnm])
        rw [hnm] at HNM
        dsimp only at HNM
        clear hnm
        go_enter Tryz.func85, Tryz.ntmps85
        go_wp2_with (first | (go_at_call 53; refine HNM.out.mono ?_; rintro e w1 ⟨rfl, hb⟩; have HB2 := Lib.hid (show Below w.heap.size w w1 from by have h1 := HBW.out; rw [hW] at h1; exact h1.trans (hb.mono h1.size)); have HK := Lib.hid (show Blk w1 w.heap.size (TK 0 emv emv nil8) 46 from HBK.out.below (by rw [hW]; exact hb) HBK.out.lt); clear hb) | (refine Mix.wpList_store_blk (o := ⟨none, .store 46 _ _, _, _, _, _⟩) rfl 46 _ _ rfl w.heap.size (TK 0 emv emv nil8) rfl rfl 46 (TK 0 emv emv nil8) HK.out (info_tok _ _ _ _) rfl (tk_all _ _ _ _ _ _) ?_; intro W3 hb3 hbu hsz3; have e1 : W3.cell? ⟨w.heap.size, 0, none⟩ = some (.int .i64 0) := hb3.cell 0; have e2 : W3.cell? ⟨w.heap.size, 1, none⟩ = some emv := hb3.cell 1; have e3 : W3.cell? ⟨w.heap.size, 2, none⟩ = some emv := hb3.cell 2; have e4 : W3.cell? ⟨w.heap.size, 3, none⟩ = some nil8 := hb3.cell 3; have HB3 := Lib.hid hb3; have HBU := Lib.hid hbu; have HSZ := Lib.hid hsz3; clear hb3 hbu hsz3))
        refine bodyPost_ret (v := .tuple #[.agg (TK 0 emv emv nil8), nil8, .bool false]) (by simp [results, Tryz.results85, go_sem, e1, e2, e3, e4]; first | done | exact ⟨rfl, rfl⟩) rfl ⟨by rw [HN.out]; exact rfl, HB2.out.trans (HBU.out.below (Nat.le_refl _) HB2.out.size)⟩
      | some k =>
        rw [hnm] at HNM
        dsimp only at HNM
        have hk := nmF_some hnm
        have hkl : k ≤ n - 2 := by have := hk.2.2.2.1; rw [List.length_drop, HLN.out] at this; exact this
        have HNK := Lib.hid hnm
        clear hnm hk
        obtain ⟨a2, ha2⟩ : ∃ a2, a2 = bof a1 (n - 2) k := ⟨_, rfl⟩
        rw [← ha2] at HNM
        have HBT2 := Lib.hid (show ∀ w1, Below w.heap.size w w1 → Bt w1 g a2 (n - 2 - k) (n - 2 - k) (l.drop (2 + k)) from fun w1 hb => by
          have h := HB.out.below hb
          have h2 := (h.drop (k := 2) (a' := a1) (c' := n - 2) (by omega) (fun h => HA1.out (by have := HCP.out; omega)) (Nat.le_refl _)).drop (k := k) (a' := a2) (c' := n - 2 - k) (by omega) (fun h => by rw [ha2]; exact bof_lt h) (Nat.le_refl _)
          rw [List.drop_drop] at h2
          exact h2)
        have HA2 := Lib.hid (show k < n - 2 → a2 = a + (2 + k) from fun h => by rw [ha2, bof_lt h, HA1.out (by have := HCP.out; omega)]; omega)
        clear ha2
        obtain ⟨sp, hsp⟩ : ∃ sp, spLen (l.drop (2 + k)) = sp := ⟨_, rfl⟩
        have hspl : sp ≤ n - 2 - k := by have h := spLen_le (l.drop (2 + k)); rw [hsp, List.length_drop, HLN.out] at h; omega
        have HSP := Lib.hid hsp
        obtain ⟨a3, ha3⟩ : ∃ a3, a3 = bof a2 (n - 2 - k) sp := ⟨_, rfl⟩
        obtain ⟨m, hm⟩ : ∃ m, m = n - 2 - k - sp := ⟨_, rfl⟩
        have HBT3 := Lib.hid (show ∀ w1, Below w.heap.size w w1 → Bt w1 g a3 m m (l.drop (2 + k + sp)) from fun w1 hb => by
          have h2 := (HBT2.out w1 hb).drop (k := sp) (a' := a3) (c' := m) (by omega) (fun h => by rw [ha3]; exact bof_lt h) (by omega)
          rw [List.drop_drop, ← hm] at h2
          exact h2)
        have HSC := Lib.hid (show ∀ w1, Below w.heap.size w w1 → Calls Tryz.prog 106 #[.slice (some ⟨g, a2, none⟩) (n - 2 - k) (n - 2 - k)] w1 fun e w' => e = .returned (.tuple #[.slice (some ⟨g, a3, none⟩) m m, .bool (decide (0 < sp))]) ∧ w1 = w' from fun w1 hb => by
          have h := space_calls g a2 (n - 2 - k) (n - 2 - k) (l.drop (2 + k)) w1 (HBT2.out w1 hb) (by omega)
          unfold SpPost at h
          rw [hsp, ← ha3, ← hm] at h
          exact h)
        have HM := Lib.hid hm
        have HA3 := Lib.hid (show sp < n - 2 - k → a3 = a + (2 + k + sp) from fun h => by rw [ha3, bof_lt h, HA2.out (by omega)]; omega)
        clear hsp ha3 hm
        by_cases hm0 : m = 0
        · subst hm0
          have HN := Lib.hid (show clF l = none from by
            unfold clF
            rw [if_neg (by rw [HLN.out]; exact h2), if_neg (by rw [HD.out]; exact fun h => h rfl), HNK.out]
            dsimp only
            rw [HSP.out, if_neg (by
              rw [List.drop_of_length_le (by rw [HLN.out]; have := HM.out; omega)]
              simp)])
          go_enter Tryz.func85, Tryz.ntmps85
          go_wp2_with (first | (go_at_call 53; refine HNM.out.mono ?_; rintro e w1 ⟨rfl, hb⟩; have HB2 := Lib.hid (show Below w.heap.size w w1 from by have h1 := HBW.out; rw [hW] at h1; exact h1.trans (hb.mono h1.size)); have HK := Lib.hid (show Blk w1 w.heap.size (TK 0 emv emv nil8) 46 from HBK.out.below (by rw [hW]; exact hb) HBK.out.lt); clear hb) | (go_at_call 106; refine (HSC.out _ HB2.out).mono ?_; rintro e w2 ⟨rfl, rfl⟩) | (refine Mix.wpList_store_blk (o := ⟨none, .store 46 _ _, _, _, _, _⟩) rfl 46 _ _ rfl w.heap.size (TK 0 emv emv nil8) rfl rfl 46 (TK 0 emv emv nil8) HK.out (info_tok _ _ _ _) rfl (tk_all _ _ _ _ _ _) ?_; intro W3 hb3 hbu hsz3; have e1 : W3.cell? ⟨w.heap.size, 0, none⟩ = some (.int .i64 0) := hb3.cell 0; have e2 : W3.cell? ⟨w.heap.size, 1, none⟩ = some emv := hb3.cell 1; have e3 : W3.cell? ⟨w.heap.size, 2, none⟩ = some emv := hb3.cell 2; have e4 : W3.cell? ⟨w.heap.size, 3, none⟩ = some nil8 := hb3.cell 3; have HB3 := Lib.hid hb3; have HBU := Lib.hid hbu; have HSZ := Lib.hid hsz3; clear hb3 hbu hsz3))
          refine bodyPost_ret (v := .tuple #[.agg (TK 0 emv emv nil8), nil8, .bool false]) (by simp [results, Tryz.results85, go_sem, e1, e2, e3, e4]; first | done | exact ⟨rfl, rfl⟩) rfl ⟨by rw [HN.out]; exact rfl, HB2.out.trans (HBU.out.below (Nat.le_refl _) HB2.out.size)⟩
        · have hm1 : 0 < m := by omega
          have hll : 0 < (l.drop (2 + k + sp)).length := by rw [List.length_drop, HLN.out]; have := HM.out; omega
          obtain ⟨d5, hd5⟩ : ∃ d5, d5 = (l.drop (2 + k + sp))[0]'hll := ⟨_, rfl⟩
          have HD5 := Lib.hid (show (l.drop (2 + k + sp)).head? = some d5 from by rw [hd5, List.head?_eq_getElem?, List.getElem?_eq_getElem hll])
          have HC5 := Lib.hid (show ∀ w1, Below w.heap.size w w1 → w1.cell? ⟨g, a3, none⟩ = some (.int .u8 (d5.toNat : Int)) from fun w1 hb => by
            rw [hd5]
            exact (HBT3.out w1 hb).cell 0 hll)
          have v3 : ((m : Int) == 0) = false := by simp; omega
          clear hd5 hll
          by_cases h62 : d5 = 62
          · subst h62
            have HN := Lib.hid (show clF l = some (k, 2 + k + sp + 1) from by
              unfold clF
              rw [if_neg (by rw [HLN.out]; exact h2), if_neg (by rw [HD.out]; exact fun h => h rfl), HNK.out]
              dsimp only
              rw [HSP.out, if_pos HD5.out])
            obtain ⟨a4, ha4⟩ : ∃ a4, a4 = bof a3 m 1 := ⟨_, rfl⟩
            have hsl2 : ∀ W : World, (Instr.slice 72 (.slice (some ⟨g, a3, none⟩) m m) (some (.int .i64 1)) (some (.int .i64 (m : Int))) (some (.int .i64 (m : Int)))).run Tryz.prog W = .ok (.slice (some ⟨g, a4, none⟩) (m - 1) (m - 1)) W := fun W => by
              have h := slice_lhm W g a3 m m 1 (by omega) (Nat.le_refl _)
              rw [← ha4] at h
              exact h
            have HA4 := Lib.hid (show 2 + k + sp + 1 < n → a4 = a + (2 + k + sp + 1) from fun h => by
              have hm := HM.out
              rw [ha4, bof_lt (by omega), HA3.out (by omega)]
              omega)
            clear ha4
            go_enter Tryz.func85, Tryz.ntmps85
            go_upto_region 9 with (first | (go_at_call 53; refine HNM.out.mono ?_; rintro e w1 ⟨rfl, hb⟩; have HB2 := Lib.hid (show Below w.heap.size w w1 from by have h1 := HBW.out; rw [hW] at h1; exact h1.trans (hb.mono h1.size)); have HK := Lib.hid (show Blk w1 w.heap.size (TK 0 emv emv nil8) 46 from HBK.out.below (by rw [hW]; exact hb) HBK.out.lt); clear hb; have c5 := HC5.out w1 HB2.out) | (go_at_call 106; refine (HSC.out _ HB2.out).mono ?_; rintro e w2 ⟨rfl, rfl⟩))
            have hC0 : ClC w.heap.size (TK 2 (.string (st (lows ((l.drop 2).take k)))) emv nil8) w w1.drew 0 w1.drew := rfl
            have ne : Nonempty (Mix.Wd (ClC w.heap.size (TK 2 (.string (st (lows ((l.drop 2).take k)))) emv nil8) w w1.drew) 0) := ⟨⟨w1.drew, 0, Nat.le_refl _, hC0⟩⟩
            refine Mix.wp_region_mix (C := ClC w.heap.size (TK 2 (.string (st (lows ((l.drop 2).take k)))) emv nil8) w w1.drew) [8] (by kernel_rfl) (by kernel_rfl) hC0 ?_
            iterate 8 (refine Mix.mix_still (by decide) (fun K hK => ?_); go_simp; refine hK _ ?_; clear hK K)
            refine Mix.mix_store (by decide) rfl 46 _ _ rfl w.heap.size (TK 2 (.string (st (lows ((l.drop 2).take k)))) emv nil8) rfl rfl (info_tok _ _ _ _) (tk_all _ _ _ _ _ _) (fun y hy => ⟨46, TK 0 emv emv nil8, (by have hy' : y = w1.drew := hy; rw [hy']; exact HK.out.drew), rfl, (by have hy' : y = w1.drew := hy; rw [hy']; exact ⟨Mix.blk_setRow HK.out.drew, (below_drewN HB2.out 1).trans ((Mix.but_setRow _ _ _).below (Nat.le_refl _) HB2.out.size)⟩)⟩) ?_
            iterate 2 (refine Mix.mix_still (by decide) (fun K hK => ?_); go_simp; refine hK _ ?_; clear hK K)
            refine Mix.mix_nil ?_
            intro w6 hw6
            have hw6' : Blk w6 w.heap.size (TK 2 (.string (st (lows ((l.drop 2).take k)))) emv nil8) 46 ∧ Below w.heap.size w w6 := hw6
            have HW6 := Lib.hid hw6'.2
            have e1 : w6.cell? ⟨w.heap.size, 0, none⟩ = some (.int .i64 2) := hw6'.1.cell 0
            have e2 : w6.cell? ⟨w.heap.size, 1, none⟩ = some (.string (st (lows ((l.drop 2).take k)))) := hw6'.1.cell 1
            have e3 : w6.cell? ⟨w.heap.size, 2, none⟩ = some emv := hw6'.1.cell 2
            have e4 : w6.cell? ⟨w.heap.size, 3, none⟩ = some nil8 := hw6'.1.cell 3
            clear hw6 hw6' ne hC0 hsl hsl2
            show Exit.then _ _ _ _ w6
            go_wp2_with fail
            refine bodyPost_ret (v := .tuple #[.agg (TK 2 (.string (st (lows ((l.drop 2).take k)))) emv nil8), .slice (some ⟨g, a4, none⟩) (m - 1) (m - 1), .bool true]) (by simp [results, Tryz.results85, go_sem, e1, e2, e3, e4]; first | done | rfl) rfl ⟨by rw [HN.out]; exact ⟨a4, HA4.out, by have := HM.out; rw [show m - 1 = n - (2 + k + sp + 1) by omega]⟩, HW6.out⟩
          · have HN := Lib.hid (show clF l = none from by
              unfold clF
              rw [if_neg (by rw [HLN.out]; exact h2), if_neg (by rw [HD.out]; exact fun h => h rfl), HNK.out]
              dsimp only
              rw [HSP.out, if_neg (by rw [HD5.out]; intro h; injection h with h; exact h62 h)])
            have v4 : ((d5.toNat : Int) != 62) = true := by
              have : d5.toNat ≠ 62 := fun h => h62 (by apply UInt8.toNat_inj.1; exact h)
              simp; omega
            go_enter Tryz.func85, Tryz.ntmps85
            go_wp2_with (first | (go_at_call 53; refine HNM.out.mono ?_; rintro e w1 ⟨rfl, hb⟩; have HB2 := Lib.hid (show Below w.heap.size w w1 from by have h1 := HBW.out; rw [hW] at h1; exact h1.trans (hb.mono h1.size)); have HK := Lib.hid (show Blk w1 w.heap.size (TK 0 emv emv nil8) 46 from HBK.out.below (by rw [hW]; exact hb) HBK.out.lt); clear hb; have c5 := HC5.out w1 HB2.out) | (go_at_call 106; refine (HSC.out _ HB2.out).mono ?_; rintro e w2 ⟨rfl, rfl⟩) | (refine Mix.wpList_store_blk (o := ⟨none, .store 46 _ _, _, _, _, _⟩) rfl 46 _ _ rfl w.heap.size (TK 0 emv emv nil8) rfl rfl 46 (TK 0 emv emv nil8) HK.out (info_tok _ _ _ _) rfl (tk_all _ _ _ _ _ _) ?_; intro W3 hb3 hbu hsz3; have e1 : W3.cell? ⟨w.heap.size, 0, none⟩ = some (.int .i64 0) := hb3.cell 0; have e2 : W3.cell? ⟨w.heap.size, 1, none⟩ = some emv := hb3.cell 1; have e3 : W3.cell? ⟨w.heap.size, 2, none⟩ = some emv := hb3.cell 2; have e4 : W3.cell? ⟨w.heap.size, 3, none⟩ = some nil8 := hb3.cell 3; have HB3 := Lib.hid hb3; have HBU := Lib.hid hbu; have HSZ := Lib.hid hsz3; clear hb3 hbu hsz3))
            refine bodyPost_ret (v := .tuple #[.agg (TK 0 emv emv nil8), nil8, .bool false]) (by simp [results, Tryz.results85, go_sem, e1, e2, e3, e4]; first | done | exact ⟨rfl, rfl⟩) rfl ⟨by rw [HN.out]; exact rfl, HB2.out.trans (HBU.out.below (Nat.le_refl _) HB2.out.size)⟩
    · have HN := Lib.hid (show clF l = none from by unfold clF; rw [if_neg (by rw [HLN.out]; exact h2), if_pos (by rw [HD.out]; exact h47)])
      have v2 : ((d.toNat : Int) != 47) = true := by
        have : d.toNat ≠ 47 := fun h => h47 (by apply UInt8.toNat_inj.1; exact h)
        simp; omega
      go_enter Tryz.func85, Tryz.ntmps85
      go_wp2_with fail
      refine bodyPost_ret (v := .tuple #[.agg (TK 0 emv emv nil8), nil8, .bool false]) (by simp [results, Tryz.results85, go_sem, TK, emv, nil8]) rfl ⟨by rw [HN.out]; exact rfl, (Below.refl _ _).alloc (Nat.le_refl _) _⟩
end Go.Proofs.YtkjgnkmnngaioaaGreat.Q
