/- What the proof of treeMay_holds needs, of the texts that this work has written and of the words that the kit's print lends. -/
import Derived.Test.YtkjgnkmnngaioaaGreatZdh
import Derived.Test.YtkjgnkmnngaioaaGreatZda
import Derived.Test.YtkjgnkmnngaioaaGreatZde
import Derived.Deep.Slices
import Derived.OpenShut
import Derived.ChangeSame
import Derived.Lib.SmallJoins
import Derived.SizedLaws
namespace Go.Proofs.YtkjgnkmnngaioaaGreat.Q
open Go.RowKit Go.IntWalk Go.Proofs.YtkjgnkmnngaioaaGreat.Mem Go.Proofs.YtkjgnkmnngaioaaGreatW.PrintWords Go.Proofs.YtkjgnkmnngaioaaGreatW.PrintLast Go.Proofs.YtkjgnkmnngaioaaGreatW.PrintMore
set_option linter.unusedVariables false
set_option linter.unusedSimpArgs false
/-- All that the nodes' texts tell, in order. -/
def allT (l : List Nd) : List UInt8 := (l.map fun x => x.f2.data.toList).flatten
/-- How many elements. -/
def allE (l : List Nd) : Nat := (l.map fun x => x.f1.data.toList).countP fun s => !s.isEmpty
def tkT (ts : List Tk) : List UInt8 := (ts.map fun t => if t.f0 = 3 then t.f2.data.toList else []).flatten
def tkE (ts : List Tk) : Nat := ts.countP fun t => decide (t.f0 = 1) && decide (t.f1.toList ≠ rootL)
theorem map_set_same {β : Type} {l : List Nd} {a : Nat} {y : Nd} (f : Nd → β) (h : f y = f (ndAt l a)) : (l.set a y).map f = l.map f := by
  rw [List.map_set]
  by_cases ha : a < l.length
  · have : f y = (l.map f)[a]'(by simpa using ha) := by
      rw [h, List.getElem_map]
      unfold ndAt
      rw [List.getD_eq_getElem?_getD, List.getElem?_eq_getElem ha]
      rfl
    rw [this, List.set_getElem_self]
  · exact List.set_eq_of_length_le (by rw [List.length_map]; omega)
theorem lay_allT {l : List Nd} {a : Nat} {nd : Nd} (he : layE l a = 0) : allT (layL l a nd) = allT l ++ nd.f2.data.toList := by
  unfold allT layL addKid
  rw [if_pos he, List.map_append, map_set_same (l := l) (a := a) (y := ⟨(ndAt l a).f0, (ndAt l a).f1, (ndAt l a).f2, (ndAt l a).f3, (ndAt l a).f4 ++ [(l.length : Int)]⟩) (fun x : Nd => x.f2.data.toList) rfl]
  simp
theorem lay_allE {l : List Nd} {a : Nat} {nd : Nd} (he : layE l a = 0) : allE (layL l a nd) = allE l + (if nd.f1.data.toList = [] then 0 else 1) := by
  unfold allE layL addKid
  rw [if_pos he, List.map_append, map_set_same (l := l) (a := a) (y := ⟨(ndAt l a).f0, (ndAt l a).f1, (ndAt l a).f2, (ndAt l a).f3, (ndAt l a).f4 ++ [(l.length : Int)]⟩) (fun x : Nd => x.f1.data.toList) rfl, List.countP_append]
  by_cases h : nd.f1.data.toList = []
  · rw [if_pos h]; simp [h]
  · rw [if_neg h]
    simp
    exact fun h2 => h (by simp [h2])
theorem addTx_allE {l : List Nd} {k : Nat} {s : ByteArray} : allE (addTx l k s) = allE l := by
  unfold allE addTx
  rw [map_set_same (l := l) (a := k) (y := ⟨(ndAt l k).f0, (ndAt l k).f1, (ndAt l k).f2 ++ s, (ndAt l k).f3, (ndAt l k).f4⟩) (fun x : Nd => x.f1.data.toList) rfl]
theorem addTx_allT {l : List Nd} {k : Nat} {s : ByteArray} (hk : k + 1 = l.length) : allT (addTx l k s) = allT l ++ s.data.toList := by
  obtain ⟨l0, x, rfl⟩ : ∃ l0 x, l = l0 ++ [x] := by
    have hne : l ≠ [] := by intro h; subst h; simp at hk
    exact ⟨l.dropLast, l.getLast hne, (List.dropLast_concat_getLast hne).symm⟩
  have hk0 : k = l0.length := by simp at hk; omega
  subst hk0
  unfold allT addTx
  rw [List.set_append_right _ _ (Nat.le_refl _), Nat.sub_self, ndAt_last]
  simp
/-- A node, and those above it. -/
inductive Up (l : List Nd) (a : Nat) : Nat → Prop
  | here : Up l a a
  | up {i : Nat} : Up l a i → 0 < i → Up l a (ndAt l i).f0.toNat
theorem Up.trans {l : List Nd} {a b c : Nat} (h : Up l a b) (h2 : Up l b c) : Up l a c := by
  induction h2 with
  | here => exact h
  | up _ h0 ih => exact ih.up h0
theorem Up.le {k : Nat} {l : List Nd} {a a' i : Nat} (h : BOk k l a') (ha : a < l.length) (hu : Up l a i) : i ≤ a := by
  induction hu with
  | here => exact Nat.le_refl _
  | up _ h0 ih =>
    have := h.up _ (Nat.lt_of_le_of_lt ih ha)
    have := h.par _ h0 (Nat.lt_of_le_of_lt ih ha)
    omega
/-- Every node above the place is its parent's last kid, and no text; a text that is the place's last kid is the last node. -/
structure JOk (l : List Nd) (a : Nat) : Prop where
  path : ∀ i, Up l a i → 0 < i → 0 < (ndAt l (ndAt l i).f0.toNat).f4.length ∧ lastIx l (ndAt l i).f0.toNat = i ∧ (ndAt l i).f1.data.toList ≠ []
  txt : isTx l a = true → lastIx l a + 1 = l.length
theorem isTx_not {l : List Nd} {p : Nat} (h : (ndAt l (lastIx l p)).f1.data.toList ≠ []) : ¬ isTx l p = true := by
  unfold isTx
  rw [Bool.and_eq_true, not_and]
  intro _ h2
  exact h (by rw [← ByteArray.toList_eq]; exact of_decide_eq_true h2)
theorem JOk.end_ {k : Nat} {l : List Nd} {a : Nat} (hb : BOk k l a) (h : JOk l a) (s : ByteArray) : JOk l (endA l (a : Int) s).toNat := by
  have hup : ∀ f (b : Int), 0 ≤ b → b.toNat < l.length → ∀ x ∈ upL l f b, Up l b.toNat x.1 := by
    intro f
    induction f with
    | zero => intro b _ _ x hx; cases hx
    | succ f ih =>
      intro b h0 h1 x hx
      rw [upL, dif_pos ⟨h0, h1⟩] at hx
      rcases List.mem_cons.1 hx with rfl | hx
      · exact .here
      · by_cases hz : 0 < b.toNat
        · have hu := hb.up _ h1
          have hp := hb.par _ hz h1
          exact Up.trans (Up.up .here hz) (ih _ hp (by omega) x hx)
        · have hz : b.toNat = 0 := by omega
          rw [hz] at hx
          have hu := hb.up 0 (by omega)
          rw [upL_stop (by omega)] at hx
          cases hx
  unfold endA
  split
  · rename_i x hx
    have h1 := List.find?_some hx
    unfold hit at h1
    rw [Bool.and_eq_true] at h1
    have h2 := of_decide_eq_true h1.1
    have hm := hup _ _ (by omega) (by rw [Int.toNat_natCast]; exact hb.at_) x (List.mem_of_find?_eq_some hx)
    rw [Int.toNat_natCast] at hm
    obtain ⟨p1, p2, p3⟩ := h.path x.1 hm h2
    refine ⟨fun i hi h0 => h.path i (Up.trans (hm.up h2) hi) h0, fun ht => absurd ht (isTx_not ?_)⟩
    rw [p2]
    exact p3
  · rw [Int.toNat_natCast]
    exact h
theorem lay_lastIx {k : Nat} {l : List Nd} {a : Nat} {nd : Nd} (hb : BOk k l a) (he : layE l a = 0) {p : Nat} (hp : p < l.length) (hne : p ≠ a) : (ndAt (layL l a nd) p).f4 = (ndAt l p).f4 ∧ lastIx (layL l a nd) p = lastIx l p := by
  have : ndAt (layL l a nd) p = ndAt l p := by rw [lay_nd hb.at_ he p (by omega), if_neg (by omega), if_neg hne]
  refine ⟨by rw [this], ?_⟩
  unfold lastIx
  rw [this]
theorem lay_lastA {k : Nat} {l : List Nd} {a : Nat} {nd : Nd} (hb : BOk k l a) (he : layE l a = 0) : 0 < (ndAt (layL l a nd) a).f4.length ∧ lastIx (layL l a nd) a = l.length := by
  have ha := hb.at_
  have : (ndAt (layL l a nd) a).f4 = (ndAt l a).f4 ++ [(l.length : Int)] := by rw [lay_nd hb.at_ he a (by omega), if_neg (by omega), if_pos rfl]
  refine ⟨by rw [this]; simp, ?_⟩
  unfold lastIx
  rw [this]
  simp
/-- The nodes above the place stay what they were. -/
theorem JOk.path_lay {k : Nat} {l : List Nd} {a : Nat} {nd : Nd} (hb : BOk k l a) (h : JOk l a) (he : layE l a = 0) {i : Nat} (hu : Up (layL l a nd) a i) : Up l a i ∧ (0 < i → 0 < (ndAt (layL l a nd) (ndAt (layL l a nd) i).f0.toNat).f4.length ∧ lastIx (layL l a nd) (ndAt (layL l a nd) i).f0.toNat = i ∧ (ndAt (layL l a nd) i).f1.data.toList ≠ []) := by
  have ha := hb.at_
  have key : ∀ i, Up l a i → (ndAt (layL l a nd) i).f0 = (ndAt l i).f0 ∧ (ndAt (layL l a nd) i).f1 = (ndAt l i).f1 := fun i hi => by
    have hle := Up.le hb hb.at_ hi
    rw [lay_nd hb.at_ he i (by omega), if_neg (by omega)]
    by_cases e : i = a
    · rw [if_pos e, e]; exact ⟨rfl, rfl⟩
    · rw [if_neg e]; exact ⟨rfl, rfl⟩
  have hu' : Up l a i := by
    induction hu with
    | here => exact .here
    | up _ h0 ih => rw [(key _ ih).1]; exact ih.up h0
  refine ⟨hu', fun h0 => ?_⟩
  have hle := Up.le hb hb.at_ hu'
  rw [(key i hu').1, (key i hu').2]
  obtain ⟨p1, p2, p3⟩ := h.path i hu' h0
  have hup := hb.up i (by omega)
  have hpar := hb.par i h0 (by omega)
  obtain ⟨q1, q2⟩ := lay_lastIx (nd := nd) hb he (p := (ndAt l i).f0.toNat) (by omega) (by omega)
  rw [q1, q2]
  exact ⟨p1, p2, p3⟩
theorem JOk.lay {k : Nat} {l : List Nd} {a : Nat} {nd : Nd} (hb : BOk k l a) (h : JOk l a) (he : layE l a = 0) (hl : (layL l a nd).length = l.length + 1) : JOk (layL l a nd) a := by
  refine ⟨fun i hi h0 => (h.path_lay hb he hi).2 h0, fun _ => ?_⟩
  rw [(lay_lastA hb he).2, hl]
theorem JOk.enter {k : Nat} {l : List Nd} {a : Nat} {nd : Nd} (hb : BOk k l a) (h : JOk l a) (he : layE l a = 0) (h1 : nd.f1.data.toList ≠ []) (h4 : nd.f4 = []) : JOk (layL l a nd) l.length := by
  have hn := lay_nd (nd := nd) hb.at_ he l.length (by omega)
  rw [if_pos rfl] at hn
  have hz : 0 < l.length := Nat.lt_of_le_of_lt (Nat.zero_le _) hb.at_
  have h0 : (ndAt (layL l a nd) l.length).f0.toNat = a := by rw [hn]; exact Int.toNat_natCast a
  have key : ∀ i, Up (layL l a nd) l.length i → i = l.length ∨ Up (layL l a nd) a i := fun i hi => by
    induction hi with
    | here => exact .inl rfl
    | up hi hj ih =>
      rcases ih with rfl | ih
      · rw [h0]; exact .inr .here
      · exact .inr (ih.up hj)
  refine ⟨fun i hi hi0 => ?_, fun ht => ?_⟩
  · rcases key i hi with rfl | hi
    · rw [h0]
      obtain ⟨q1, q2⟩ := lay_lastA (nd := nd) hb he
      exact ⟨q1, q2, by rw [hn]; exact h1⟩
    · exact (h.path_lay hb he hi).2 hi0
  · unfold isTx at ht
    rw [hn] at ht
    simp [h4] at ht
theorem JOk.tx {l : List Nd} {a j : Nat} {s : ByteArray} (h : JOk l a) (hj : j < l.length) : JOk (addTx l j s) a := by
  have hn := fun i => addTx_nd (l := l) (k := j) (i := i) (s := s) hj
  have e0 : ∀ i, (ndAt (addTx l j s) i).f0 = (ndAt l i).f0 ∧ (ndAt (addTx l j s) i).f1 = (ndAt l i).f1 ∧ (ndAt (addTx l j s) i).f4 = (ndAt l i).f4 := fun i => by
    rw [hn i]
    by_cases e : i = j
    · rw [if_pos e, e]; exact ⟨rfl, rfl, rfl⟩
    · rw [if_neg e]; exact ⟨rfl, rfl, rfl⟩
  have e1 : ∀ p, lastIx (addTx l j s) p = lastIx l p := fun p => by unfold lastIx; rw [(e0 p).2.2]
  have hu : ∀ i, Up (addTx l j s) a i → Up l a i := fun i hi => by
    induction hi with
    | here => exact .here
    | up _ h0 ih => rw [(e0 _).1]; exact ih.up h0
  refine ⟨fun i hi h0 => ?_, fun ht => ?_⟩
  · rw [(e0 i).1, (e0 i).2.1, (e0 _).2.2, e1]
    exact h.path i (hu i hi) h0
  · rw [e1, addTx_len]
    refine h.txt ?_
    unfold isTx at ht ⊢
    rw [e1, (e0 _).2.1, (e0 _).2.2] at ht
    exact ht
theorem nameB_ne {s : List UInt8} (h : nameB s = true) : s ≠ [] := by
  intro h0
  subst h0
  revert h
  decide +kernel
theorem JOk.start : JOk [rootN] 0 := by
  refine ⟨fun i hi h0 => ?_, fun h => ?_⟩
  · have : i ≤ 0 := Up.le BOk.start (by decide) hi
    omega
  · exact absurd h (by decide +kernel)
/-- A token more. -/
theorem JOk.step {k : Nat} {l : List Nd} {a : Nat} {t : Tk} (hb : BOk k l a) (h : JOk l a) (he : bdE l a t = 0) :
    JOk (bdL l a t) (bdA l a t) ∧ allT (bdL l a t) = allT l ++ tkT [t] ∧ allE (bdL l a t) = allE l + tkE [t] := by
  unfold bdE at he
  split at he
  · rename_i hr
    unfold bdL bdA tkT tkE
    by_cases h1 : t.f0 = 1
    · rw [if_pos h1] at he
      rw [if_pos h1, if_pos h1]
      unfold rightF at hr
      rw [if_pos h1, Bool.and_eq_true] at hr
      have hne := nameB_ne hr.1
      unfold opE at he
      unfold opLs opA
      by_cases hrt : t.f1.toList = rootL
      · rw [if_pos hrt, if_pos hrt]
        exact ⟨h, by simp [h1], by simp [h1, hrt]⟩
      · rw [if_neg hrt] at he
        rw [if_neg hrt, if_neg hrt]
        refine ⟨?_, by rw [lay_allT he]; simp [h1, opN], by rw [lay_allE he, if_neg (show ¬ (opN t).f1.data.toList = [] from hne)]; simp [h1, hrt]⟩
        split
        · exact h.enter hb he hne rfl
        · exact h.lay hb he (lay_len he)
    · rw [if_neg h1] at he
      rw [if_neg h1, if_neg h1]
      by_cases h2 : t.f0 = 2
      · rw [if_pos h2, if_pos h2]
        exact ⟨h.end_ hb t.f1, by simp [h2], by simp [h2]⟩
      · rw [if_neg h2] at he
        rw [if_neg h2, if_neg h2]
        unfold rightF at hr
        rw [if_neg h1, if_neg h2] at hr
        have h3 := of_decide_eq_true hr
        unfold txE at he
        unfold txL
        by_cases h0 : t.f2.toList = []
        · rw [if_pos h0]
          rw [ByteArray.toList_eq] at h0
          exact ⟨h, by simp [h3, h0], by simp [h1]⟩
        · rw [if_neg h0] at he
          rw [if_neg h0]
          by_cases ht : isTx l a = true
          · rw [if_pos ht]
            exact ⟨h.tx (lastIx_lt hb ht), by rw [addTx_allT (h.txt ht)]; simp [h3], by rw [addTx_allE]; simp [h1]⟩
          · rw [if_neg ht] at he
            rw [if_neg ht]
            exact ⟨h.lay hb he (lay_len he), by rw [lay_allT he]; simp [h3, txN], by rw [lay_allE he, if_pos (by rfl)]; simp [h1]⟩
  · cases he
theorem bdF_err : ∀ (ts : List Tk) (l : List Nd) (a : Nat), (bdF ts l a).2 ≠ 0 → (bdF ts l a).1 = []
  | [], l, a, h => absurd rfl h
  | t :: ts, l, a, h => by
    rw [bdF] at h ⊢
    split at h
    · rename_i he; rw [if_pos he]; exact bdF_err ts _ _ h
    · rename_i he; rw [if_neg he]
end Go.Proofs.YtkjgnkmnngaioaaGreat.Q
namespace Go.Proofs.YtkjgnkmnngaioaaGreat.Q
open Go.RowKit Go.IntWalk Go.Proofs.YtkjgnkmnngaioaaGreat.Mem Go.Proofs.YtkjgnkmnngaioaaGreatW.PrintWords Go.Proofs.YtkjgnkmnngaioaaGreatW.PrintLast Go.Proofs.YtkjgnkmnngaioaaGreatW.PrintMore
set_option linter.unusedVariables false
set_option linter.unusedSimpArgs false
def kN (l : List Nd) (i m : Nat) : Nat := ((ndAt l i).f4.getD m 0).toNat
def nK (l : List Nd) (i : Nat) : Nat := (ndAt l i).f4.length
/-- Where the m-th kid of i stands, if nx tells each node's end. -/
def nxt (l : List Nd) (nx : Nat → Nat) (i m : Nat) : Nat := if m = 0 then i + 1 else nx (kN l i (m - 1))
def noTx (l : List Nd) (i : Nat) : Prop := ¬ (ndAt l i).f1.toList = []
structure Doc (l : List Nd) (nx : Nat → Nat) : Prop where
  pos : 1 ≤ l.length
  len : l.length ≤ 60
  root : (ndAt l 0).f0 = -1 ∧ (ndAt l 0).f1.toList = rootL ∧ (ndAt l 0).f2.toList = [] ∧ (ndAt l 0).f3.length = 0
  one : ∀ i, 0 < i → i < l.length → oneF (ndAt l i) = true
  par : ∀ i, 0 < i → i < l.length → 0 ≤ (ndAt l i).f0 ∧ (ndAt l i).f0 < (i : Int)
  dep : ∀ i, i < l.length → depthF l (i : Int) ≤ 12
  ch : ∀ i, 0 < i → i < l.length → Up l (i - 1) (ndAt l i).f0.toNat
  kf : ∀ i, i < l.length → kidsF l i = (ndAt l i).f4
  kid : ∀ i, i < l.length → ∀ m, m < nK l i → kN l i m = nxt l nx i m ∧ nxt l nx i m < l.length
  fin : ∀ i, i < l.length → nx i = nxt l nx i (nK l i)
  adj : ∀ i, i < l.length → ∀ m, m + 1 < nK l i → noTx l (kN l i m) ∨ noTx l (kN l i (m + 1))
  last : ∀ i, Up l (l.length - 1) i → nx i = l.length
section
variable {l l' : List Nd} {nx : Nat → Nat}
theorem up_le (hp : ∀ i, 0 < i → i < l.length → 0 ≤ (ndAt l i).f0 ∧ (ndAt l i).f0 < (i : Int)) {a i : Nat} (ha : a < l.length) (hu : Up l a i) : i ≤ a := by
  induction hu with
  | here => exact Nat.le_refl _
  | up _ h0 ih =>
    have := hp _ h0 (by omega)
    omega
theorem up_congr (hp : ∀ i, 0 < i → i < l.length → 0 ≤ (ndAt l i).f0 ∧ (ndAt l i).f0 < (i : Int)) {a i : Nat} (ha : a < l.length) (he : ∀ j, j ≤ a → (ndAt l' j).f0 = (ndAt l j).f0) (hu : Up l a i) : Up l' a i := by
  induction hu with
  | here => exact .here
  | up h1 h0 ih =>
    have := up_le hp ha h1
    rw [← he _ this]
    exact ih.up h0
theorem depth_congr (h0 : (ndAt l 0).f0 = -1) (hp : ∀ i, 0 < i → i < l.length → 0 ≤ (ndAt l i).f0 ∧ (ndAt l i).f0 < (i : Int)) : ∀ (n a : Nat), a ≤ n → a < l.length → a < l'.length → (∀ j, j ≤ a → (ndAt l' j).f0 = (ndAt l j).f0) → depthF l' (a : Int) = depthF l (a : Int)
  | n, a, hn, ha, ha', he => by
    by_cases hz : a = 0
    · subst hz
      rw [depth_zero ha (by omega), depth_zero ha' (by rw [he 0 (Nat.le_refl _)]; omega)]
    · have hpa := hp a (by omega) ha
      have hlt : ∀ j : Nat, j ≤ a → (ndAt l j).f0 < (j : Int) := fun j hj => by
        by_cases hj0 : j = 0
        · subst hj0; omega
        · exact (hp j (by omega) (by omega)).2
      rw [depth_up ha hlt, depth_up ha' (fun j hj => by rw [he j hj]; exact hlt j hj), he a (Nat.le_refl _)]
      obtain ⟨m, hm⟩ := Int.eq_ofNat_of_zero_le hpa.1
      cases n with
      | zero => omega
      | succ n =>
        rw [hm, depth_congr h0 hp n m (by omega) (by omega) (by omega) (fun j hj => he j (by omega))]
theorem isKid_of {i k : Nat} (h : isKid l i k = true) : i < k ∧ (ndAt l k).f0 = (i : Int) := by
  unfold isKid at h
  rw [Bool.and_eq_true, decide_eq_true_iff, decide_eq_true_iff] at h
  exact h
theorem Doc.mem (h : Doc l nx) {i : Nat} (hi : i < l.length) {m : Nat} (hm : m < nK l i) : i < kN l i m ∧ kN l i m < l.length ∧ (ndAt l (kN l i m)).f0 = (i : Int) ∧ (ndAt l i).f4.getD m 0 = (kN l i m : Int) := by
  have hx : (ndAt l i).f4.getD m 0 ∈ (ndAt l i).f4 := by
    rw [List.getD_eq_getElem?_getD, List.getElem?_eq_getElem hm]
    exact List.getElem_mem _
  rw [← h.kf i hi] at hx
  obtain ⟨k, hk, hkl, hik⟩ := kidsTo_mem hx
  rw [h.kf i hi] at hk
  have e : kN l i m = k := by unfold kN; rw [hk]; rfl
  have := isKid_of hik
  rw [e]
  exact ⟨this.1, hkl, this.2, hk⟩
/-- A kid stands somewhere among its parent's. -/
theorem Doc.at (h : Doc l nx) {k : Nat} (h0 : 0 < k) (hk : k < l.length) : ∃ m, m < nK l (ndAt l k).f0.toNat ∧ kN l (ndAt l k).f0.toNat m = k := by
  have hp := h.par k h0 hk
  have hi : (ndAt l k).f0.toNat < l.length := by omega
  have hx : (k : Int) ∈ kidsF l (ndAt l k).f0.toNat := by
    unfold kidsF kidsTo
    refine List.mem_map.2 ⟨k, List.mem_filter.2 ⟨List.mem_range.2 hk, ?_⟩, rfl⟩
    unfold isKid
    rw [decide_eq_true (by omega), decide_eq_true (by omega)]; rfl
  rw [h.kf _ hi] at hx
  obtain ⟨m, hm, he⟩ := List.getElem_of_mem hx
  refine ⟨m, hm, ?_⟩
  unfold kN
  rw [List.getD_eq_getElem?_getD, List.getElem?_eq_getElem hm]
  show (_ : Int).toNat = k
  rw [Option.getD_some, he, Int.toNat_natCast]
theorem Doc.up_lt (h : Doc l nx) {a i : Nat} (ha : a < l.length) (hu : Up l a i) : i ≤ a := up_le h.par ha hu
end
open Classical in
noncomputable def nxAdd (l : List Nd) (nx : Nat → Nat) (p : Nat) : Nat → Nat := fun i => if i = l.length ∨ Up l p i then l.length + 1 else nx i
theorem nxAdd_t {l : List Nd} {nx : Nat → Nat} {p i : Nat} (h : i = l.length ∨ Up l p i) : nxAdd l nx p i = l.length + 1 := by unfold nxAdd; exact if_pos h
theorem nxAdd_f {l : List Nd} {nx : Nat → Nat} {p i : Nat} (h1 : i < l.length) (h : ¬ Up l p i) : nxAdd l nx p i = nx i := by
  unfold nxAdd
  refine if_neg ?_
  rintro (h2 | h2)
  · omega
  · exact h h2
theorem layE_of {l : List Nd} {a : Nat} (h : layE l a = 0) : depthF l (a : Int) + 1 ≤ 12 ∧ l.length ≠ 60 := by
  unfold layE at h
  by_cases h1 : depthF l (a : Int) + 1 > 12
  · rw [if_pos h1] at h; cases h
  · rw [if_neg h1] at h
    by_cases h2 : l.length = 60
    · rw [if_pos h2] at h; cases h
    · exact ⟨by omega, h2⟩
theorem one_more {x : Nd} {ks : List Int} (h : oneF x = true) (h1 : ¬ x.f1.toList = []) (h2 : ¬ x.f1.toList = imgL) : oneF ⟨x.f0, x.f1, x.f2, x.f3, ks⟩ = true := by
  unfold oneF at h ⊢
  rw [if_neg h1] at h
  rw [if_neg h1]
  rw [decide_eq_true h2, Bool.true_or] at h
  rw [decide_eq_true h2, Bool.true_or]
  exact h
theorem Doc.add {l : List Nd} {nx : Nat → Nat} (h : Doc l nx) {p : Nat} {nd : Nd} (hu : Up l (l.length - 1) p) (he : layE l p = 0) (h1 : oneF nd = true) (h4 : nd.f4 = [])
    (hp : 0 < p → ¬ (ndAt l p).f1.toList = [] ∧ ¬ (ndAt l p).f1.toList = imgL) (ht : nd.f1.toList = [] → isTx l p = false) : Doc (layL l p nd) (nxAdd l nx p) := by
  have hpos := h.pos
  have hpl : p < l.length := by have := h.up_lt (by omega) hu; omega
  obtain ⟨hd, h60⟩ := layE_of he
  have hlen : (layL l p nd).length = l.length + 1 := lay_len he
  have hnd := fun i hi => lay_nd (nd := nd) hpl he i hi
  have eL : ndAt (layL l p nd) l.length = ⟨(p : Int), nd.f1, nd.f2, nd.f3, nd.f4⟩ := by rw [hnd _ (by omega), if_pos rfl]
  have eP : ndAt (layL l p nd) p = ⟨(ndAt l p).f0, (ndAt l p).f1, (ndAt l p).f2, (ndAt l p).f3, (ndAt l p).f4 ++ [(l.length : Int)]⟩ := by rw [hnd _ (by omega), if_neg (by omega), if_pos rfl]
  have eO : ∀ i, i < l.length → i ≠ p → ndAt (layL l p nd) i = ndAt l i := fun i hi hne => by rw [hnd _ (by omega), if_neg (by omega), if_neg hne]
  have e0 : ∀ i, i < l.length → (ndAt (layL l p nd) i).f0 = (ndAt l i).f0 ∧ (ndAt (layL l p nd) i).f1 = (ndAt l i).f1 ∧ (ndAt (layL l p nd) i).f2 = (ndAt l i).f2 ∧ (ndAt (layL l p nd) i).f3 = (ndAt l i).f3 := fun i hi => by
    by_cases hip : i = p
    · subst hip; rw [eP]; exact ⟨rfl, rfl, rfl, rfl⟩
    · rw [eO i hi hip]; exact ⟨rfl, rfl, rfl, rfl⟩
  have hpar : ∀ i, 0 < i → i < (layL l p nd).length → 0 ≤ (ndAt (layL l p nd) i).f0 ∧ (ndAt (layL l p nd) i).f0 < (i : Int) := fun i hi0 hi => by
    by_cases hil : i = l.length
    · subst hil; rw [eL]; show (0 : Int) ≤ (p : Int) ∧ (p : Int) < _; omega
    · rw [(e0 i (by omega)).1]; exact h.par i hi0 (by omega)
  have kL : nK (layL l p nd) l.length = 0 := by unfold nK; rw [eL]; show nd.f4.length = 0; rw [h4]; rfl
  have kP : nK (layL l p nd) p = nK l p + 1 := by unfold nK; rw [eP]; simp
  have kO : ∀ i, i < l.length → i ≠ p → nK (layL l p nd) i = nK l i := fun i hi hne => by unfold nK; rw [eO i hi hne]
  have nOld : ∀ i, i < l.length → ∀ m, m < nK l i → kN (layL l p nd) i m = kN l i m := fun i hi m hm => by
    by_cases hip : i = p
    · subst hip
      unfold kN
      rw [eP]
      show (((ndAt l i).f4 ++ [(l.length : Int)]).getD m 0).toNat = _
      rw [List.getD_eq_getElem?_getD, List.getD_eq_getElem?_getD, List.getElem?_append_left hm]
    · unfold kN; rw [eO i hi hip]
  have nNew : kN (layL l p nd) p (nK l p) = l.length := by
    unfold kN
    rw [eP]
    show (((ndAt l p).f4 ++ [(l.length : Int)]).getD (nK l p) 0).toNat = _
    unfold nK
    rw [List.getD_eq_getElem?_getD, List.getElem?_append_right (Nat.le_refl _), Nat.sub_self]
    rfl
  -- what lies on the way up from p ends where the list does
  have hup : ∀ i, Up l p i → nx i = l.length := fun i hi => h.last i (Up.trans hu hi)
  -- a kid with one behind it isn't on that way
  have notUp : ∀ i, i < l.length → ∀ m, m + 1 < nK l i → ¬ Up l p (kN l i m) := fun i hi m hm hU => by
    have a1 := hup _ hU
    obtain ⟨a2, a3⟩ := h.kid i hi (m + 1) hm
    unfold nxt at a2 a3
    rw [if_neg (by omega)] at a2 a3
    simp only [Nat.add_sub_cancel] at a2 a3
    omega
  have nxEq : ∀ i, i < l.length → ∀ m, m < nK l i → nxt (layL l p nd) (nxAdd l nx p) i m = nxt l nx i m := fun i hi m hm => by
    unfold nxt
    by_cases hm0 : m = 0
    · rw [if_pos hm0, if_pos hm0]
    · rw [if_neg hm0, if_neg hm0, nOld i hi (m - 1) (by omega), nxAdd_f (h.mem hi (by omega)).2.1 (notUp i hi (m - 1) (by omega))]
  have finP : nxt (layL l p nd) (nxAdd l nx p) p (nK l p) = l.length := by
    have hf := h.fin p hpl
    rw [hup p .here] at hf
    unfold nxt at hf ⊢
    by_cases hm0 : nK l p = 0
    · rw [if_pos hm0] at hf ⊢; omega
    · rw [if_neg hm0] at hf ⊢
      have hm := h.mem hpl (m := nK l p - 1) (by omega)
      rw [nOld p hpl _ (by omega), nxAdd_f hm.2.1 (fun hU => by have := h.up_lt hpl hU; omega)]
      exact hf.symm
  refine ⟨by omega, by have := h.len; omega, ?_, fun i hi0 hi => ?_, hpar, fun i hi => ?_, fun i hi0 hi => ?_, fun i hi => ?_, fun i hi m hm => ?_, fun i hi => ?_, fun i hi m hm => ?_, fun i hi => ?_⟩
  · obtain ⟨a, b, c, d⟩ := e0 0 (by omega)
    rw [a, b, c, d]; exact h.root
  · by_cases hil : i = l.length
    · subst hil; rw [eL]; exact h1
    · by_cases hip : i = p
      · subst hip
        rw [eP]
        exact one_more (h.one i hi0 hpl) (hp hi0).1 (hp hi0).2
      · rw [eO i (by omega) hip]; exact h.one i hi0 (by omega)
  · have hc : ∀ a, a < l.length → depthF (layL l p nd) (a : Int) = depthF l (a : Int) := fun a ha => depth_congr h.root.1 h.par a a (Nat.le_refl _) ha (by omega) (fun j hj => (e0 j (by omega)).1)
    by_cases hil : i = l.length
    · subst hil
      rw [depth_up hi (fun j hj => by
        by_cases hj0 : j = 0
        · subst hj0; rw [(e0 0 (by omega)).1, h.root.1]; omega
        · exact (hpar j (by omega) (by omega)).2), eL]
      show depthF (layL l p nd) (p : Int) + 1 ≤ 12
      rw [hc p hpl]; exact hd
    · rw [hc i (by omega)]; exact h.dep i (by omega)
  · by_cases hil : i = l.length
    · subst hil
      rw [eL]
      show Up _ _ (p : Int).toNat
      rw [Int.toNat_natCast]
      exact up_congr h.par (by omega) (fun j hj => (e0 j (by omega)).1) hu
    · rw [(e0 i (by omega)).1]
      exact up_congr h.par (by omega) (fun j hj => (e0 j (by omega)).1) (h.ch i hi0 (by omega))
  · have hk : ∀ (i n : Nat), n ≤ l.length → kidsTo (layL l p nd) i n = kidsTo l i n := fun i n hn => by
      unfold kidsTo
      congr 1
      apply List.filter_congr
      intro k hk
      rw [List.mem_range] at hk
      unfold isKid
      rw [(e0 k (by omega)).1]
    unfold kidsF
    rw [hlen, kidsTo_succ, hk i _ (Nat.le_refl _)]
    have hK : isKid (layL l p nd) i l.length = (decide (i < l.length) && decide ((p : Int) = (i : Int))) := by unfold isKid; rw [eL]
    rw [hK]
    by_cases hil : i = l.length
    · subst hil
      rw [decide_eq_false (by omega), eL]
      show kidsTo l l.length l.length ++ _ = nd.f4
      rw [h4, if_neg (by simp), List.append_nil]
      unfold kidsTo
      rw [List.map_eq_nil_iff, List.filter_eq_nil_iff]
      intro k hk
      rw [List.mem_range] at hk
      unfold isKid
      rw [decide_eq_false (by omega), Bool.false_and]
      decide
    · have hkf := h.kf i (by omega)
      unfold kidsF at hkf
      rw [hkf]
      by_cases hip : i = p
      · subst hip
        rw [eP, if_pos (by simp; omega)]
      · rw [eO i (by omega) hip, if_neg (by simp; intro _; omega), List.append_nil]
  · by_cases hil : i = l.length
    · subst hil; rw [kL] at hm; omega
    · have hi' : i < l.length := by omega
      by_cases hmn : m < nK l i
      · rw [nOld i hi' m hmn, nxEq i hi' m hmn]
        have := h.kid i hi' m hmn
        omega
      · by_cases hip : i = p
        · subst hip
          rw [kP] at hm
          have hme : m = nK l i := by omega
          subst hme
          rw [nNew, finP]; omega
        · rw [kO i hi' hip] at hm; omega
  · by_cases hil : i = l.length
    · subst hil
      rw [nxAdd_t (.inl rfl), kL]
      unfold nxt
      rw [if_pos rfl]
    · have hi' : i < l.length := by omega
      by_cases hip : i = p
      · subst hip
        rw [nxAdd_t (.inr .here), kP]
        unfold nxt
        rw [if_neg (by omega), Nat.add_sub_cancel, nNew, nxAdd_t (.inl rfl)]
      · rw [kO i hi' hip]
        by_cases hU : Up l p i
        · -- the last kid is on the way, too
          rw [nxAdd_t (.inr hU)]
          obtain ⟨u, hu0, huU, hup'⟩ : ∃ u, 0 < u ∧ Up l p u ∧ (ndAt l u).f0.toNat = i := by
            cases hU with
            | here => exact absurd rfl hip
            | up h2 h3 => exact ⟨_, h3, h2, rfl⟩
          have hul : u < l.length := by have := h.up_lt hpl huU; omega
          obtain ⟨m, hm, hmu⟩ := h.at hu0 hul
          rw [hup'] at hm hmu
          have hlast : m + 1 = nK l i := by
            by_cases hlt : m + 1 < nK l i
            · exact absurd (hmu ▸ huU) (notUp i hi' m hlt)
            · omega
          unfold nxt
          rw [if_neg (by omega), ← hlast, Nat.add_sub_cancel, nOld i hi' m hm, hmu, nxAdd_t (.inr huU)]
        · rw [nxAdd_f hi' hU, h.fin i hi']
          unfold nxt
          by_cases hm0 : nK l i = 0
          · rw [if_pos hm0, if_pos hm0]
          · rw [if_neg hm0, if_neg hm0, nOld i hi' _ (by omega)]
            have hm := h.mem hi' (m := nK l i - 1) (by omega)
            rw [nxAdd_f hm.2.1 (fun hU2 => hU (by
              have := hU2.up (by omega)
              rw [hm.2.2.1, Int.toNat_natCast] at this
              exact this))]
  · have tg : ∀ i, i < l.length → ∀ m, m < nK l i → (noTx l (kN l i m) → noTx (layL l p nd) (kN l i m)) := fun i hi m hm hn => by
      unfold noTx at hn ⊢
      rw [(e0 _ (h.mem hi hm).2.1).2.1]; exact hn
    by_cases hil : i = l.length
    · subst hil; rw [kL] at hm; omega
    · have hi' : i < l.length := by omega
      by_cases hmn : m + 1 < nK l i
      · rw [nOld i hi' m (by omega), nOld i hi' (m + 1) hmn]
        exact (h.adj i hi' m hmn).imp (tg i hi' m (by omega)) (tg i hi' (m + 1) hmn)
      · by_cases hip : i = p
        · subst hip
          rw [kP] at hm
          have hme : m + 1 = nK l i := by omega
          rw [hme, nNew, nOld i hi' m (by omega)]
          by_cases hte : nd.f1.toList = []
          · left
            refine tg i hi' m (by omega) ?_
            have hx := ht hte
            unfold isTx at hx
            rw [Bool.and_eq_false_iff, decide_eq_false_iff_not, decide_eq_false_iff_not] at hx
            unfold noTx
            have hpos2 : 0 < (ndAt l i).f4.length := by unfold nK at hme; omega
            have e : lastIx l i = kN l i m := by
              unfold lastIx kN
              unfold nK at hme
              rw [← hme, Nat.add_sub_cancel]
            rw [e] at hx
            exact hx.resolve_left (fun h => h hpos2)
          · right
            unfold noTx
            rw [eL]; exact hte
        · rw [kO i hi' hip] at hm; omega
  · rw [hlen, Nat.add_sub_cancel] at hi
    rw [hlen]
    refine nxAdd_t ?_
    have key : ∀ i, Up (layL l p nd) l.length i → i = l.length ∨ Up l p i := fun i hi => by
      induction hi with
      | here => exact .inl rfl
      | up h2 h3 ih =>
        rcases ih with rfl | ih
        · rw [eL]; right; show Up l p (p : Int).toNat; rw [Int.toNat_natCast]; exact .here
        · have := h.up_lt hpl ih
          rw [(e0 _ (by omega)).1]; exact .inr (ih.up h3)
    exact key i hi
/-- Other texts in the same places. -/
theorem Doc.same {l l' : List Nd} {nx : Nat → Nat} (h : Doc l nx) (hl : l'.length = l.length) (e : ∀ i, i < l.length → (ndAt l' i).f0 = (ndAt l i).f0 ∧ (ndAt l' i).f1 = (ndAt l i).f1 ∧ (ndAt l' i).f4 = (ndAt l i).f4)
    (hr : (ndAt l' 0).f2.toList = [] ∧ (ndAt l' 0).f3.length = 0) (h1 : ∀ i, 0 < i → i < l.length → oneF (ndAt l' i) = true) : Doc l' nx := by
  have hpos := h.pos
  have hpar : ∀ i, 0 < i → i < l'.length → 0 ≤ (ndAt l' i).f0 ∧ (ndAt l' i).f0 < (i : Int) := fun i h0 hi => by rw [(e i (by omega)).1]; exact h.par i h0 (by omega)
  have eK : ∀ i, i < l.length → nK l' i = nK l i := fun i hi => by unfold nK; rw [(e i hi).2.2]
  have eN : ∀ i, i < l.length → ∀ m, kN l' i m = kN l i m := fun i hi m => by unfold kN; rw [(e i hi).2.2]
  have eX : ∀ i, i < l.length → ∀ m, nxt l' nx i m = nxt l nx i m := fun i hi m => by unfold nxt; rw [eN i hi]
  have eU : ∀ a, a < l.length → ∀ i, Up l' a i → Up l a i := fun a ha i hu => up_congr (l := l') (l' := l) hpar (by omega) (fun j hj => (e j (by omega)).1.symm) hu
  have eV : ∀ a, a < l.length → ∀ i, Up l a i → Up l' a i := fun a ha i hu => up_congr (l := l) (l' := l') h.par ha (fun j hj => (e j (by omega)).1) hu
  refine ⟨by omega, by rw [hl]; exact h.len, ⟨by rw [(e 0 (by omega)).1]; exact h.root.1, by rw [(e 0 (by omega)).2.1]; exact h.root.2.1, hr⟩, fun i h0 hi => h1 i h0 (by omega), hpar, fun i hi => ?_, fun i h0 hi => ?_, fun i hi => ?_, fun i hi m hm => ?_, fun i hi => ?_, fun i hi m hm => ?_, fun i hi => ?_⟩
  · rw [depth_congr h.root.1 h.par i i (Nat.le_refl _) (by omega) hi (fun j hj => (e j (by omega)).1)]
    exact h.dep i (by omega)
  · rw [(e i (by omega)).1]
    exact eV _ (by omega) _ (h.ch i h0 (by omega))
  · rw [(e i (by omega)).2.2, ← h.kf i (by omega)]
    unfold kidsF kidsTo
    rw [hl]
    congr 1
    apply List.filter_congr
    intro k hk
    rw [List.mem_range] at hk
    unfold isKid
    rw [(e k hk).1]
  · rw [eK i (by omega)] at hm
    rw [eN i (by omega), eX i (by omega), hl]
    exact h.kid i (by omega) m hm
  · rw [eK i (by omega), eX i (by omega)]
    exact h.fin i (by omega)
  · rw [eK i (by omega)] at hm
    rw [eN i (by omega), eN i (by omega)]
    have tg : ∀ m, m < nK l i → (noTx l (kN l i m) → noTx l' (kN l i m)) := fun m hm hn => by
      unfold noTx at hn ⊢
      rw [(e _ (h.mem (by omega) hm).2.1).2.1]; exact hn
    exact (h.adj i (by omega) m hm).imp (tg m (by omega)) (tg (m + 1) hm)
  · rw [hl] at hi ⊢
    exact h.last i (eU _ (by omega) i hi)
theorem Doc.tx {l : List Nd} {nx : Nat → Nat} (h : Doc l nx) {j : Nat} {s : ByteArray} (hj : j < l.length) (h0 : 0 < j) (ht : (ndAt l j).f1.toList = []) : Doc (addTx l j s) nx := by
  have hn := fun i => addTx_nd (l := l) (k := j) (i := i) (s := s) hj
  refine h.same (addTx_len l j s) (fun i hi => ?_) ?_ (fun i hi0 hi => ?_)
  · rw [hn i]
    by_cases e : i = j
    · rw [if_pos e, e]; exact ⟨rfl, rfl, rfl⟩
    · rw [if_neg e]; exact ⟨rfl, rfl, rfl⟩
  · rw [hn 0, if_neg (by omega)]; exact ⟨h.root.2.2.1, h.root.2.2.2⟩
  · rw [hn i]
    by_cases e : i = j
    · rw [if_pos e]
      subst e
      have h1 := h.one i hi0 hi
      unfold oneF at h1 ⊢
      rw [if_pos ht] at h1
      show (if (ndAt l i).f1.toList = [] then _ else _) = true
      rw [if_pos ht]
      simp only [Bool.and_eq_true, decide_eq_true_iff] at h1 ⊢
      refine ⟨⟨fun hh => h1.1.1 ?_, h1.1.2⟩, h1.2⟩
      rw [ByteArray.toList_eq] at hh ⊢
      rw [ByteArray.data_append, Array.toList_append, List.append_eq_nil_iff] at hh
      exact hh.1
    · rw [if_neg e]; exact h.one i hi0 hi
theorem Doc.start : Doc [rootN] (fun _ => 1) := by
  have hz : ∀ i, i < ([rootN] : List Nd).length → i = 0 := fun i hi => by simp at hi; exact hi
  have e : ndAt [rootN] 0 = rootN := rfl
  refine ⟨by decide, by decide, ⟨rfl, by decide +kernel, by decide +kernel, rfl⟩, fun i h0 hi => ?_, fun i h0 hi => ?_, fun i hi => ?_, fun i h0 hi => ?_, fun i hi => ?_, fun i hi m hm => ?_, fun i hi => ?_, fun i hi m hm => ?_, fun i hi => ?_⟩
  · have := hz i hi; omega
  · have := hz i hi; omega
  · rw [hz i hi, depth_zero (by decide) (by rw [e]; decide)]; decide
  · have := hz i hi; omega
  · rw [hz i hi]; rfl
  · rw [hz i hi] at hm; exact absurd hm (Nat.not_lt_zero _)
  · rw [hz i hi]; rfl
  · rw [hz i hi] at hm; exact absurd hm (Nat.not_lt_zero _)
  · rfl
/-- Between two tokens: the place is the last node, or one above it, and may have kids. -/
structure MOk (l : List Nd) (a : Nat) : Prop where
  doc : ∃ nx, Doc l nx
  plc : Up l (l.length - 1) a
  el : 0 < a → ¬ (ndAt l a).f1.toList = [] ∧ ¬ (ndAt l a).f1.toList = imgL
theorem MOk.start : MOk [rootN] 0 := ⟨⟨_, Doc.start⟩, .here, fun h => absurd h (by decide)⟩
/-- A node above another one may have kids. -/
theorem up_el {l : List Nd} {nx : Nat → Nat} (h : Doc l nx) {a : Nat} (ha : a < l.length) (he : 0 < a → ¬ (ndAt l a).f1.toList = [] ∧ ¬ (ndAt l a).f1.toList = imgL) {i : Nat} (hu : Up l a i) (h0 : 0 < i) : ¬ (ndAt l i).f1.toList = [] ∧ ¬ (ndAt l i).f1.toList = imgL := by
  cases hu with
  | here => exact he h0
  | @up u h1 h2 =>
    have hul : u < l.length := by have := h.up_lt ha h1; omega
    have hp := h.par u h2 hul
    obtain ⟨m, hm, -⟩ := h.at h2 hul
    have h1 := h.one _ h0 (by omega)
    unfold nK at hm
    unfold oneF at h1
    by_cases ht : (ndAt l (ndAt l u).f0.toNat).f1.toList = []
    · rw [if_pos ht] at h1
      simp only [Bool.and_eq_true, decide_eq_true_iff] at h1
      omega
    · rw [if_neg ht] at h1
      refine ⟨ht, fun hi => ?_⟩
      simp only [Bool.and_eq_true, Bool.or_eq_true, decide_eq_true_iff] at h1
      rcases h1.2 with h3 | h3
      · exact h3 hi
      · omega
theorem end_up {k : Nat} {l : List Nd} {a : Nat} (hb : BOk k l a) (s : ByteArray) : Up l a (endA l (a : Int) s).toNat := by
  have hup : ∀ f (b : Int), 0 ≤ b → b.toNat < l.length → ∀ x ∈ upL l f b, Up l b.toNat x.1 := by
    intro f
    induction f with
    | zero => intro b _ _ x hx; cases hx
    | succ f ih =>
      intro b h0 h1 x hx
      rw [upL, dif_pos ⟨h0, h1⟩] at hx
      rcases List.mem_cons.1 hx with rfl | hx
      · exact .here
      · by_cases hz : 0 < b.toNat
        · have hu := hb.up _ h1
          have hp := hb.par _ hz h1
          exact Up.trans (Up.up .here hz) (ih _ hp (by omega) x hx)
        · have hz : b.toNat = 0 := by omega
          rw [hz] at hx
          have hu := hb.up 0 (by omega)
          rw [upL_stop (by omega)] at hx
          cases hx
  unfold endA
  split
  · rename_i x hx
    have h1 := List.find?_some hx
    unfold hit at h1
    rw [Bool.and_eq_true] at h1
    have h2 := of_decide_eq_true h1.1
    have hm := hup _ _ (by omega) (by rw [Int.toNat_natCast]; exact hb.at_) x (List.mem_of_find?_eq_some hx)
    rw [Int.toNat_natCast] at hm
    exact hm.up h2
  · rw [Int.toNat_natCast]; exact .here
theorem MOk.lay {k : Nat} {l : List Nd} {a : Nat} {nd : Nd} (hb : BOk k l a) (h : MOk l a) (he : layE l a = 0) (h1 : oneF nd = true) (h4 : nd.f4 = []) (ht : nd.f1.toList = [] → isTx l a = false) : MOk (layL l a nd) a ∧ (¬ nd.f1.toList = [] → ¬ nd.f1.toList = imgL → MOk (layL l a nd) l.length) := by
  obtain ⟨nx, hd⟩ := h.doc
  have ha := hb.at_
  have hD := hd.add h.plc he h1 h4 h.el ht
  have hlen : (layL l a nd).length = l.length + 1 := lay_len he
  have eL : ndAt (layL l a nd) l.length = ⟨(a : Int), nd.f1, nd.f2, nd.f3, nd.f4⟩ := by rw [lay_nd ha he _ (by omega), if_pos rfl]
  have hpos := hd.pos
  refine ⟨⟨⟨_, hD⟩, ?_, fun h0 => ?_⟩, fun h2 h3 => ⟨⟨_, hD⟩, ?_, fun h0 => ?_⟩⟩
  · rw [hlen, Nat.add_sub_cancel]
    have := (Up.here (l := layL l a nd) (a := l.length)).up (by omega)
    rw [eL] at this
    have e : (⟨(a : Int), nd.f1, nd.f2, nd.f3, nd.f4⟩ : Nd).f0.toNat = a := Int.toNat_natCast a
    rw [e] at this
    exact this
  · rw [lay_nd ha he a (by omega), if_neg (by omega), if_pos rfl]
    exact h.el h0
  · rw [hlen, Nat.add_sub_cancel]; exact .here
  · rw [eL]; exact ⟨h2, h3⟩
theorem MOk.step {k : Nat} {l : List Nd} {a : Nat} {t : Tk} (hb : BOk k l a) (hj : JOk l a) (h : MOk l a) (he : bdE l a t = 0) : MOk (bdL l a t) (bdA l a t) := by
  have ha := hb.at_
  obtain ⟨nx, hd⟩ := h.doc
  unfold bdE at he
  split at he
  · rename_i hr
    unfold bdL bdA
    by_cases h1 : t.f0 = 1
    · rw [if_pos h1] at he
      rw [if_pos h1, if_pos h1]
      unfold rightF at hr
      rw [if_pos h1, Bool.and_eq_true] at hr
      have hne := nameB_ne hr.1
      have hne' : ¬ t.f1.toList = [] := by rw [ByteArray.toList_eq]; exact hne
      unfold opE at he
      unfold opLs opA
      by_cases hrt : t.f1.toList = rootL
      · rw [if_pos hrt, if_pos hrt]; exact h
      · rw [if_neg hrt] at he
        rw [if_neg hrt, if_neg hrt]
        have hone : oneF (opN t) = true := by
          unfold oneF
          show (if t.f1.toList = [] then _ else nameB t.f1.data.toList && decide (¬ t.f1.toList = rootL) && decide ((⟨#[]⟩ : ByteArray).toList = []) && attrsF t.f3 && (decide (¬ t.f1.toList = imgL) || decide (([] : List Int).length = 0))) = true
          rw [if_neg hne', hr.1, hr.2, decide_eq_true hrt]
          simp
        have hL := h.lay hb he hone rfl (fun hh => absurd hh hne')
        by_cases him : t.f1.toList = imgL
        · rw [if_neg (fun hh => hh.2 him)]; exact hL.1
        · rw [if_pos ⟨he, him⟩]; exact hL.2 hne' him
    · rw [if_neg h1] at he
      rw [if_neg h1, if_neg h1]
      by_cases h2 : t.f0 = 2
      · rw [if_pos h2, if_pos h2]
        have hu := end_up hb t.f1
        exact ⟨h.doc, Up.trans h.plc hu, fun h0 => up_el hd ha h.el hu h0⟩
      · rw [if_neg h2] at he
        rw [if_neg h2, if_neg h2]
        unfold txE at he
        unfold txL
        by_cases h0 : t.f2.toList = []
        · rw [if_pos h0]; exact h
        · rw [if_neg h0] at he
          rw [if_neg h0]
          by_cases ht : isTx l a = true
          · rw [if_pos ht]
            have hk := lastIx_lt hb ht
            have ht2 := ht
            unfold isTx at ht2
            rw [Bool.and_eq_true, decide_eq_true_iff, decide_eq_true_iff] at ht2
            have hm := hd.mem ha (m := nK l a - 1) (by unfold nK; omega)
            have e : kN l a (nK l a - 1) = lastIx l a := rfl
            rw [e] at hm
            have hD := hd.tx (s := t.f2) hk (by omega) ht2.2
            have eq := fun i => addTx_nd (l := l) (k := lastIx l a) (i := i) (s := t.f2) hk
            have e0 : ∀ i, (ndAt (addTx l (lastIx l a) t.f2) i).f0 = (ndAt l i).f0 ∧ (ndAt (addTx l (lastIx l a) t.f2) i).f1 = (ndAt l i).f1 := fun i => by
              rw [eq i]
              by_cases e : i = lastIx l a
              · rw [if_pos e, e]; exact ⟨rfl, rfl⟩
              · rw [if_neg e]; exact ⟨rfl, rfl⟩
            refine ⟨⟨_, hD⟩, ?_, fun h0 => ?_⟩
            · rw [addTx_len]
              exact up_congr hd.par (by have := hd.pos; omega) (fun j _ => (e0 j).1) h.plc
            · rw [(e0 a).2]; exact h.el h0
          · rw [if_neg ht] at he
            rw [if_neg ht]
            refine (h.lay hb he ?_ rfl (fun _ => by cases hx : isTx l a with
              | true => exact absurd hx ht
              | false => rfl)).1
            unfold oneF
            show (if (⟨#[]⟩ : ByteArray).toList = [] then decide (¬ t.f2.toList = []) && decide (([] : List At).length = 0) && decide (([] : List Int).length = 0) else _) = true
            rw [if_pos (by decide +kernel), decide_eq_true h0]
            rfl
  · cases he
theorem bdF_doc : ∀ (ts : List Tk) (k : Nat) (l : List Nd) (a : Nat), BOk k l a → JOk l a → MOk l a → (∀ t ∈ ts, t.f2.size ≤ 1000000) → (bdF ts l a).2 = 0 → ∃ nx, Doc (bdF ts l a).1 nx
  | [], k, l, a, hb, hj, h, _, _ => h.doc
  | t :: ts, k, l, a, hb, hj, h, hs, he => by
    rw [bdF] at he ⊢
    by_cases h0 : bdE l a t = 0
    · rw [if_pos h0] at he ⊢
      exact bdF_doc ts (k + 1) _ _ (hb.step (hs t List.mem_cons_self) h0) (hj.step hb h0).1 (h.step hb hj h0) (fun t ht => hs t (List.mem_cons_of_mem _ ht)) he
    · rw [if_neg h0] at he; exact absurd he h0
theorem build_doc (ts : List Tk) (hs : ∀ t ∈ ts, t.f2.size ≤ 1000000) (h : (buildF ts).2 = 0) : ∃ nx, Doc (buildF ts).1 nx := bdF_doc ts 0 [rootN] 0 BOk.start JOk.start MOk.start hs h
theorem up_has {l : List Nd} {nx : Nat → Nat} (h : Doc l nx) {p : Nat} : ∀ (n a : Nat), a ≤ n → a < l.length → Up l a p → upHas l (a : Int) (p : Int) = true
  | n, a, hn, ha, hu => by
    have hlt : ∀ j : Nat, j ≤ a → (ndAt l j).f0 < (j : Int) := fun j hj => by
      by_cases hj0 : j = 0
      · subst hj0; rw [h.root.1]; omega
      · exact (h.par j (by omega) (by omega)).2
    rw [upHas_step ha hlt]
    by_cases e : p = a
    · rw [decide_eq_true (by omega), Bool.true_or]
    · rw [decide_eq_false (by omega), Bool.false_or]
      -- p is above a's parent
      have hz : 0 < a ∧ Up l (ndAt l a).f0.toNat p := by
        clear hlt
        have key : ∀ p, Up l a p → p = a ∨ (0 < a ∧ Up l (ndAt l a).f0.toNat p) := fun p hp => by
          induction hp with
          | here => exact .inl rfl
          | up h1 h0 ih =>
            rcases ih with rfl | ⟨h2, h3⟩
            · exact .inr ⟨h0, .here⟩
            · exact .inr ⟨h2, h3.up h0⟩
        exact (key p hu).resolve_left e
      have hp := h.par a hz.1 ha
      cases n with
      | zero => omega
      | succ n =>
        have := up_has h n (ndAt l a).f0.toNat (by omega) (by omega) hz.2
        rw [Int.toNat_of_nonneg hp.1] at this
        exact this
theorem Doc.may {l : List Nd} {nx : Nat → Nat} (h : Doc l nx) : mayF l = true := by
  have hpos := h.pos
  refine mayF_t ?_ (fun i h1 hi => ?_) (fun i hi => ?_)
  · unfold mayH
    rw [decide_eq_true h.pos, decide_eq_true h.len, decide_eq_true h.root.2.1, decide_eq_true h.root.1, decide_eq_true h.root.2.2.1, decide_eq_true h.root.2.2.2]; rfl
  · unfold mayA
    have hp := h.par i (by omega) hi
    have hu := up_has h (i - 1) (i - 1) (Nat.le_refl _) (by omega) (h.ch i (by omega) hi)
    rw [show ((i - 1 : Nat) : Int) = (i : Int) - 1 by omega, Int.toNat_of_nonneg hp.1] at hu
    rw [h.one i (by omega) hi, decide_eq_true hp.1, decide_eq_true hp.2, decide_eq_true (h.dep i hi), hu]; rfl
  · refine mayB_t (by rw [h.kf i hi]) (fun k hk => ⟨by rw [h.kf i hi], ?_⟩)
    rw [h.kf i hi] at hk ⊢
    unfold adjT
    by_cases h0 : 0 < k
    · have ha := h.adj i hi (k - 1) (by unfold nK; omega)
      have e1 : (rd (ndAt l i).f4 (k : Int)).toNat = kN l i k := by unfold rd kN; rw [Int.toNat_natCast]
      have e2 : (rd (ndAt l i).f4 ((k : Int) - 1)).toNat = kN l i (k - 1) := by unfold rd kN; rw [show ((k : Int) - 1).toNat = k - 1 by omega]
      rw [Nat.sub_add_cancel (by omega)] at ha
      unfold tagE
      rw [e1, e2]
      unfold noTx at ha
      rcases ha with ha | ha
      · rw [decide_eq_false ha, Bool.and_false]
      · rw [decide_eq_false ha, Bool.and_false, Bool.false_and]
    · rw [decide_eq_false h0]; rfl
end Go.Proofs.YtkjgnkmnngaioaaGreat.Q
namespace Go.Proofs.YtkjgnkmnngaioaaGreat.Q
open Go.RowKit Go.IntWalk Go.Proofs.YtkjgnkmnngaioaaGreat.Mem Go.Proofs.YtkjgnkmnngaioaaGreatW.PrintWords Go.Proofs.YtkjgnkmnngaioaaGreatW.PrintLast Go.Proofs.YtkjgnkmnngaioaaGreatW.PrintMore
set_option linter.unusedVariables false
set_option linter.unusedSimpArgs false
set_option maxRecDepth 100000 in
set_option maxHeartbeats 4000000 in
theorem tfits_calls (x : Nd) (A3 A4 : Option Addr) (c3 c4 : Nat) (w : World) (h : oneF x = true) (hC : Kd.C k70 w A3 x.f3.length x.f3) (hc : x.f3.length ≤ c3) (hl : x.f3.length ≤ 9223372036854775806) (hs : ∀ y ∈ x.f3, y.f0.size ≤ 9223372036854775806) (h1 : x.f1.size ≤ 9223372036854775806) :
    Calls Tryz.prog 98 #[.agg #[.int .i64 x.f0, .string x.f1, .string x.f2, .slice A3 x.f3.length c3, .slice A4 x.f4.length c4]] w fun e w' => e = .returned (.bool true) ∧ Below w.heap.size w w' := by
  have HC := Lib.hid hC
  have HS := Lib.hid hs
  have HCC := Lib.hid hc
  have HLL := Lib.hid hl
  have H1 := Lib.hid h1
  clear hC hs hc hl h1
  have HA := Lib.hid (below_alloc (Below.refl w.heap.size w) (.cells #[.int .i64 x.f0, .string x.f1, .string x.f2, .slice A3 x.f3.length c3, .slice A4 x.f4.length c4] 49))
  have Z1 := Lib.hid (Blk.alloc w #[.int .i64 x.f0, .string x.f1, .string x.f2, .slice A3 x.f3.length c3, .slice A4 x.f4.length c4] 49)
  unfold oneF at h
  by_cases e1 : x.f1.toList = []
  · rw [if_pos e1] at h
    simp only [Bool.and_eq_true, decide_eq_true_iff] at h
    have v1 := emp_t e1
    have v2 := emp_f h.1.1
    have v3 : ((x.f3.length : Int) + (x.f4.length : Int) == 0) = true := by rw [beq_iff_eq]; omega
    have i3 : (x.f3.length : Int) ≤ 0 := by omega
    have i4 : (x.f4.length : Int) ≤ 0 := by omega
    clear h e1
    go_enter Tryz.func98, Tryz.ntmps98
    go_wp2_with fail
    go_ret
    exact ⟨rfl, HA.out⟩
  · rw [if_neg e1] at h
    simp only [Bool.and_eq_true, Bool.or_eq_true, decide_eq_true_iff] at h
    obtain ⟨⟨⟨⟨n1, n2⟩, n3⟩, n4⟩, n5⟩ := h
    have v1 := emp_f e1
    have v2 : (x.f1.toList == [114, 111, 111, 116]) = false := by rw [beq_eq_false_iff_ne]; exact n2
    have v3 := emp_t n3
    have N1 := Lib.hid n1
    have N4 := Lib.hid n4
    clear e1 n1 n2 n3 n4
    by_cases e4 : x.f1.toList = imgL
    · have v4 : (x.f1.toList == [105, 109, 103]) = true := by rw [beq_iff_eq]; exact e4
      have e5 : x.f4.length = 0 := n5.resolve_left (fun h => h e4)
      have v5 : ((x.f4.length : Int) == 0) = true := by simp; exact List.length_eq_zero_iff.1 e5
      clear e4 e5 n5
      go_enter Tryz.func98, Tryz.ntmps98
      go_wp2_with (first
        | (go_at_call 17; refine (isName_calls x.f1 _ (by have := H1.out; omega)).mono ?_; rintro e w3 ⟨rfl, hb3⟩; rw [N1.out]; have HB3 := Lib.hid (HA.out.trans (hb3.mono HA.out.size)); have Z3 := Lib.hid (Z1.out.below hb3 Z1.out.lt); have z1 := Z3.out.cell 1; have z2 := Z3.out.cell 2; have z3 := Z3.out.cell 3; simp only [List.getElem?_toArray, List.getElem?_cons_zero, List.getElem?_cons_succ] at z1 z2 z3; clear hb3)
        | (go_at_call 95; refine (attrs_calls A3 c3 x.f3 _ (Kd.C_below HC.out HB3.out) HCC.out HLL.out (fun y hy => by have := HS.out y hy; omega)).mono ?_; rintro e w4 ⟨rfl, hb4⟩; rw [N4.out]; have HB4 := Lib.hid (HB3.out.trans (hb4.mono HB3.out.size)); have Z4 := Lib.hid (Z3.out.below hb4 Z3.out.lt); have y1 := Z4.out.cell 1; have y4 := Z4.out.cell 4; simp only [List.getElem?_toArray, List.getElem?_cons_zero, List.getElem?_cons_succ] at y1 y4; clear hb4))
      go_ret
      exact ⟨rfl, HB4.out⟩
    · have v4 : (x.f1.toList == [105, 109, 103]) = false := by rw [beq_eq_false_iff_ne]; exact e4
      clear e4 n5
      go_enter Tryz.func98, Tryz.ntmps98
      go_wp2_with (first
        | (go_at_call 17; refine (isName_calls x.f1 _ (by have := H1.out; omega)).mono ?_; rintro e w3 ⟨rfl, hb3⟩; rw [N1.out]; have HB3 := Lib.hid (HA.out.trans (hb3.mono HA.out.size)); have Z3 := Lib.hid (Z1.out.below hb3 Z1.out.lt); have z1 := Z3.out.cell 1; have z2 := Z3.out.cell 2; have z3 := Z3.out.cell 3; simp only [List.getElem?_toArray, List.getElem?_cons_zero, List.getElem?_cons_succ] at z1 z2 z3; clear hb3)
        | (go_at_call 95; refine (attrs_calls A3 c3 x.f3 _ (Kd.C_below HC.out HB3.out) HCC.out HLL.out (fun y hy => by have := HS.out y hy; omega)).mono ?_; rintro e w4 ⟨rfl, hb4⟩; rw [N4.out]; have HB4 := Lib.hid (HB3.out.trans (hb4.mono HB3.out.size)); have Z4 := Lib.hid (Z3.out.below hb4 Z3.out.lt); have y1 := Z4.out.cell 1; simp only [List.getElem?_toArray, List.getElem?_cons_zero, List.getElem?_cons_succ] at y1; clear hb4))
      go_ret
      exact ⟨rfl, HB4.out⟩
def txB (l : List Nd) (i m : Nat) : Bool := decide (0 < m) && decide ((ndAt l (kN l i (m - 1))).f1.toList = [])
set_option maxRecDepth 100000 in
set_option maxHeartbeats 8000000 in
theorem twalk_calls (A : Option Addr) (c : Nat) (l : List Nd) (nx : Nat → Nat) (hD : Doc l nx) (hc : l.length ≤ c) (hx : okMy l) : ∀ (n a : Nat) (w : World), l.length - a ≤ n → a < l.length → Kd.C k49 w A l.length l →
    Calls Tryz.prog 66 #[.slice A l.length c, .int .i64 (a : Int), .int .i64 (depthF l (a : Int))] w fun e w' => e = .returned (.int .i64 (nx a : Int)) ∧ Below w.heap.size w w'
  | 0, a, w, hn, ha, hC => by omega
  | n + 1, a, w, hn, ha, hC => by
    have HC := Lib.hid hC
    have HD := Lib.hid hD
    have HX := Lib.hid hx
    have HCC := Lib.hid hc
    have HN := Lib.hid hn
    have HA := Lib.hid ha
    have ih := fun (a : Nat) (w : World) => twalk_calls A c l nx hD hc hx n a w
    have IH := Lib.hid ih
    have h60 := hD.len
    have hdep := hD.dep a ha
    have hde0 : -1 ≤ depthF l (a : Int) := by unfold depthF; omega
    obtain ⟨ad, A3, c3, A4, c4, rfl, q0, q1, q2, q3, q4, l3, r3, l4, r4⟩ := at_T49 hC (a : Int) (by omega) (by omega)
    have hrd : rd_T49 l (a : Int) = ndAt l a := by unfold rd_T49 ndAt; rw [Int.toNat_natCast]
    rw [hrd] at q4 r4
    simp only [Int.toNat_natCast] at q4
    have hnk : nK l a ≤ 60 := by
      unfold nK
      rw [← hD.kf a ha]
      have := kidsTo_len l a l.length
      unfold kidsF; omega
    obtain ⟨N, hN⟩ : ∃ N, N = nK l a := ⟨_, rfl⟩
    rw [show (ndAt l a).f4.length = N from hN.symm] at q4 r4
    rw [← hN] at hnk
    have HNN := Lib.hid hN
    have R4 := Lib.hid r4
    obtain ⟨dp, hdp⟩ : ∃ d, d = depthF l (a : Int) := ⟨_, rfl⟩
    have HDP := Lib.hid hdp
    rw [← hdp] at hdep hde0 ⊢
    clear hC hD hx hc hn ih q0 q1 q2 q3 l3 r3 l4 r4 hrd hN hdp
    have u1 : ¬ (12 : Int) < dp := by omega
    go_enter Tryz.func66, Tryz.ntmps66
    go_wp2_with fail
    go_loopw [7, 8, 21] (fun t b i wr => ∃ m : Nat, m ≤ N ∧ i = .int .i64 m ∧ t = .int .i64 (nxt l nx a m : Int) ∧ b = .bool (txB l a m) ∧ Hid (Below w.heap.size w wr)) (fun _ _ i _ => N - (intOf i).toNat)
    case atStart => exact ⟨0, Nat.zero_le _, rfl, by unfold nxt; rw [if_pos rfl]; go_num, rfl, Lib.hid (Below.refl _ _)⟩
    case round =>
      clear q4
      obtain ⟨m, hm, rfl, rfl, rfl, HB⟩ := hrel
      by_cases hlt : m < N
      · obtain ⟨ad4, rfl, h4a⟩ := Kd.at_int (Kd.C_below R4.out HB.out) (m : Int) (by omega) (by omega)
        obtain ⟨k1, k2, k3, k4⟩ := HD.out.mem HA.out (m := m) (by rw [← HNN.out]; exact hlt)
        obtain ⟨k5, k6⟩ := HD.out.kid a HA.out m (by rw [← HNN.out]; exact hlt)
        have hv : rd (ndAt l a).f4 (m : Int) = (kN l a m : Int) := by unfold rd; rw [Int.toNat_natCast]; exact k4
        rw [hv] at h4a
        simp only [Int.toNat_natCast] at h4a
        rw [← k5]
        obtain ⟨k, hk⟩ : ∃ k, k = kN l a m := ⟨_, rfl⟩
        have HKD := Lib.hid (show depthF l (k : Int) = dp + 1 by
          rw [hk, depth_up k2 (fun j hj => by
            by_cases hj0 : j = 0
            · subst hj0; rw [HD.out.root.1]; omega
            · exact (HD.out.par j (by omega) (by omega)).2), k3, HDP.out])
        have HNX := Lib.hid (show nxt l nx a (m + 1) = nx k by unfold nxt; rw [if_neg (by omega), Nat.add_sub_cancel, hk])
        have HTB := Lib.hid (show txB l a (m + 1) = decide ((ndAt l k).f1.toList = []) by unfold txB; rw [decide_eq_true (by omega), Bool.true_and, Nat.add_sub_cancel, hk])
        have HAJ := Lib.hid (show txB l a m = true → ¬ (ndAt l k).f1.toList = [] from fun h => by
          unfold txB at h
          rw [Bool.and_eq_true, decide_eq_true_iff, decide_eq_true_iff] at h
          have := HD.out.adj a HA.out (m - 1) (by have := HNN.out; omega)
          unfold noTx at this
          rw [Nat.sub_add_cancel (by omega)] at this
          rw [hk]
          exact this.resolve_left (fun h2 => h2 h.2))
        have HONE := Lib.hid (show oneF (ndAt l k) = true by rw [hk]; exact HD.out.one _ (by omega) k2)
        rw [← hk] at k1 k2 k3 h4a ⊢
        have HK1 := Lib.hid k1
        have HK2 := Lib.hid k2
        clear k4 k5 k6 hv hk
        obtain ⟨ad', A3', c3', A4', c4', hA, q0, q1, q2, q3, q4, l3, r3, l4, r4⟩ := at_T49 (Kd.C_below HC.out HB.out) (k : Int) (by omega) (by omega)
        injection hA with hA
        subst hA
        have hrd : rd_T49 l (k : Int) = ndAt l k := by unfold rd_T49 ndAt; rw [Int.toNat_natCast]
        rw [hrd] at q0 q1 q2 q3 q4 l3 r3
        simp only [Int.toNat_natCast] at q0 q1 q2 q3 q4
        rw [k3] at q0
        have HM := Lib.hid (HX.out _ (ndAt_mem k2))
        obtain ⟨y, hy⟩ : ∃ y, y = ndAt l k := ⟨_, rfl⟩
        rw [← hy] at q1 q2 q3 q4 l3 r3 HM HONE HAJ HTB
        have HY0 := Lib.hid (show y.f0 = (a : Int) by rw [hy]; exact k3)
        have L3 := Lib.hid l3
        have R3 := Lib.hid r3
        clear hrd k3 hy l3 r3 l4 r4
        have i1 : (k : Int) < (l.length : Int) := by omega
        have i2 : (0 : Int) ≤ (k : Int) := by omega
        have i3 : ¬ (l.length : Int) ≤ (k : Int) := by omega
        have i5 : (m : Int) < (N : Int) := by omega
        obtain ⟨nk, hnk⟩ : ∃ nk, nk = nx k := ⟨_, rfl⟩
        have HNK := Lib.hid hnk
        obtain ⟨tb, htb⟩ : ∃ b, b = txB l a m := ⟨_, rfl⟩
        rw [← htb] at HAJ ⊢
        clear hnk htb
        obtain ⟨te, hte⟩ : ∃ b, b = y.f1.toList.isEmpty := ⟨_, rfl⟩
        have HTE := Lib.hid (show decide (y.f1.toList = []) = te by
          rw [hte]
          cases h : y.f1.toList <;> simp)
        have vte := hte.symm
        clear hte
        have HAJ2 := Lib.hid (show tb = true → te = false from fun h => by
          have := HAJ.out h
          rw [← HTE.out]
          exact decide_eq_false this)
        have vnk : ((nk : Int) == -1) = false := by rw [beq_eq_false_iff_ne]; omega
        have HB1 := Lib.hid (World.block_lt_of_cell? wr _ q1)
        have Q1 := Lib.hid q1
        have fits : Hid (∀ W : World, Below wr.heap.size wr W → Calls Tryz.prog 98 #[.agg #[.int .i64 (a : Int), .string y.f1, .string y.f2, .slice A3' y.f3.length c3', .slice A4' y.f4.length c4']] W fun e w' => e = .returned (.bool true) ∧ Below W.heap.size W w') := Lib.hid (fun W hW => by
          have hq := tfits_calls y A3' A4' c3' c4' W HONE.out (Kd.C_below R3.out hW) L3.out HM.out.2.1 HM.out.2.2 HM.out.1
          rw [HY0.out] at hq
          exact hq)
        have walk : Hid (∀ W : World, Below w.heap.size w W → Calls Tryz.prog 66 #[.slice (some ad) l.length c, .int .i64 (k : Int), .int .i64 (dp + 1)] W fun e w' => e = .returned (.int .i64 (nk : Int)) ∧ Below W.heap.size W w') := Lib.hid (fun W hW => by
          have hq := IH.out k W (by have := HN.out; have := HK1.out; omega) HK2.out (Kd.C_below HC.out hW)
          rw [HKD.out, ← HNK.out] at hq
          exact hq)
        have HR := Lib.hid (show nxt l nx a (m + 1) = nk by rw [HNX.out, HNK.out])
        cases tb with
        | false =>
          cases te with
          | false =>
            go_wp2_with (first
              | (go_at_call 98; refine (fits.out _ (Below.refl _ _)).mono ?_; rintro e w3 ⟨rfl, hb3⟩; have HB3 := Lib.hid (HB.out.trans (hb3.mono HB.out.size)); have p1 := (hb3.cell HB1.out).trans Q1.out; clear hb3)
              | (go_at_call 66; refine (walk.out _ HB3.out).mono ?_; rintro e w4 ⟨rfl, hb4⟩; have HB4 := Lib.hid (HB3.out.trans (hb4.mono HB3.out.size)); clear hb4))
            go_roundw
            case rel => exact ⟨m + 1, by omega, by go_num, by rw [HR.out], by rw [HTB.out, HTE.out], HB4⟩
            case measure => simp [intOf]; omega
          | true =>
            go_wp2_with (first
              | (go_at_call 98; refine (fits.out _ (Below.refl _ _)).mono ?_; rintro e w3 ⟨rfl, hb3⟩; have HB3 := Lib.hid (HB.out.trans (hb3.mono HB.out.size)); have p1 := (hb3.cell HB1.out).trans Q1.out; clear hb3)
              | (go_at_call 66; refine (walk.out _ HB3.out).mono ?_; rintro e w4 ⟨rfl, hb4⟩; have HB4 := Lib.hid (HB3.out.trans (hb4.mono HB3.out.size)); clear hb4))
            go_roundw
            case rel => exact ⟨m + 1, by omega, by go_num, by rw [HR.out], by rw [HTB.out, HTE.out], HB4⟩
            case measure => simp [intOf]; omega
        | true =>
          cases te with
          | false =>
            go_wp2_with (first
              | (go_at_call 98; refine (fits.out _ (Below.refl _ _)).mono ?_; rintro e w3 ⟨rfl, hb3⟩; have HB3 := Lib.hid (HB.out.trans (hb3.mono HB.out.size)); have p1 := (hb3.cell HB1.out).trans Q1.out; clear hb3)
              | (go_at_call 66; refine (walk.out _ HB3.out).mono ?_; rintro e w4 ⟨rfl, hb4⟩; have HB4 := Lib.hid (HB3.out.trans (hb4.mono HB3.out.size)); clear hb4))
            go_roundw
            case rel => exact ⟨m + 1, by omega, by go_num, by rw [HR.out], by rw [HTB.out, HTE.out], HB4⟩
            case measure => simp [intOf]; omega
          | true => exact absurd (HAJ2.out rfl) (by decide)
      · have HF := Lib.hid (show nxt l nx a m = nx a by rw [HD.out.fin a HA.out, show m = nK l a by have := HNN.out; omega])
        go_wp2_with fail
        go_ret
        exact ⟨by rw [HF.out]; rfl, HB.out⟩
set_option maxRecDepth 100000 in
set_option maxHeartbeats 4000000 in
theorem tmay_calls (A : Option Addr) (c : Nat) (l : List Nd) (nx : Nat → Nat) (w : World) (hD : Doc l nx) (hC : Kd.C k49 w A l.length l) (hc : l.length ≤ c) (hx : okMy l) :
    Calls Tryz.prog 28 #[.slice A l.length c] w fun e w' => e = .returned (.bool true) ∧ Below w.heap.size w w' := by
  have HC := Lib.hid hC
  have HD := Lib.hid hD
  have HX := Lib.hid hx
  have HCC := Lib.hid hc
  have hpos := hD.pos
  have h60 := hD.len
  obtain ⟨ad, A3, c3, A4, c4, rfl, q0, q1, q2, q3, q4, l3, r3, l4, r4⟩ := at_T49 HC.out (0 : Int) (by omega) (by omega)
  have hrd : rd_T49 l (0 : Int) = ndAt l 0 := by unfold rd_T49 ndAt; rfl
  rw [hrd] at q0 q1 q2 q3 q4
  have hz0 : ad.add 0 = ad := by unfold Addr.add; split <;> simp_all
  simp only [Int.toNat_zero, Nat.zero_mul, hz0] at q0 q1 q2 q3 q4
  obtain ⟨r0, r1, r2, r3'⟩ := hD.root
  obtain ⟨x, hxx⟩ : ∃ x, x = ndAt l 0 := ⟨_, rfl⟩
  rw [← hxx] at q0 q1 q2 q3 q4 r0 r1 r2 r3'
  rw [r0] at q0
  rw [r3'] at q3
  have v1 : (x.f1.toList == [114, 111, 111, 116]) = true := by rw [beq_iff_eq]; exact r1
  have v2 := emp_t r2
  have v0 : ((l.length : Int) == 0) = false := by rw [beq_eq_false_iff_ne]; omega
  have v3 : ¬ (60 : Int) < (l.length : Int) := by omega
  have HW := Lib.hid (show ∀ W : World, Below w.heap.size w W → Calls Tryz.prog 66 #[.slice (some ad) l.length c, .int .i64 0, .int .i64 0] W fun e w' => e = .returned (.int .i64 (l.length : Int)) ∧ Below W.heap.size W w' from fun W hW => by
    have hq := twalk_calls (some ad) c l nx HD.out HCC.out HX.out l.length 0 W (by omega) (by omega) (Kd.C_below HC.out hW)
    rw [depth_zero (by omega) (by rw [HD.out.root.1]; decide)] at hq
    have hl : nx 0 = l.length := HD.out.last 0 (by
      have key : ∀ n a, a ≤ n → a < l.length → Up l a 0 := fun n => by
        induction n with
        | zero => intro a ha _; rw [show a = 0 by omega]; exact .here
        | succ n ih =>
          intro a ha hal
          by_cases h0 : a = 0
          · rw [h0]; exact .here
          · have := HD.out.par a (by omega) hal
            exact Up.trans (Up.up .here (by omega)) (ih _ (by omega) (by omega))
      exact key _ _ (Nat.le_refl _) (by omega))
    rw [hl] at hq
    exact hq)
  have HA := Lib.hid (below_alloc (Below.refl w.heap.size w) (.cells #[.int .i64 (-1), .string x.f1, .string x.f2, .slice A3 0 c3, .slice A4 x.f4.length c4] 49))
  clear hC hD hx hc hrd hz0 l3 r3 l4 r4 hxx r0 r1 r2 r3'
  go_enter Tryz.func28, Tryz.ntmps28
  go_wp2_with (go_at_call 66; refine (HW.out _ HA.out).mono ?_; rintro e w4 ⟨rfl, hb4⟩; have HB4 := Lib.hid (HA.out.trans (hb4.mono HA.out.size)); clear hb4)
  go_ret
  exact ⟨rfl, HB4.out⟩
end Go.Proofs.YtkjgnkmnngaioaaGreat.Q
namespace Go.Proofs.YtkjgnkmnngaioaaGreat.Q
open Go.RowKit Go.IntWalk Go.Proofs.YtkjgnkmnngaioaaGreat.Mem Go.Proofs.YtkjgnkmnngaioaaGreatW.PrintWords Go.Proofs.YtkjgnkmnngaioaaGreatW.PrintLast Go.Proofs.YtkjgnkmnngaioaaGreatW.PrintMore
set_option linter.unusedVariables false
set_option linter.unusedSimpArgs false
def clT (s : ByteArray) : Tk := ⟨2, s, ⟨#[]⟩, []⟩
def emT : Tk := ⟨3, ⟨#[]⟩, ⟨#[]⟩, []⟩
/-- No node but the root has this tag. -/
def noTag (l : List Nd) (s : ByteArray) : Prop := ∀ i, 0 < i → i < l.length → (ndAt l i).f1.toList ≠ s.toList
/-- No node has too many attributes. -/
def at3 (l : List Nd) : Prop := ∀ i, i < l.length → (ndAt l i).f3.length ≤ 1000000
theorem at3.lay {k : Nat} {l : List Nd} {a : Nat} {nd : Nd} (hb : BOk k l a) (h : at3 l) (he : layE l a = 0) (hn : nd.f3.length ≤ 1000000) : at3 (layL l a nd) := by
  intro i hi
  rw [lay_len he] at hi
  rw [lay_nd hb.at_ he i hi]
  by_cases e : i = l.length
  · rw [if_pos e]; exact hn
  · rw [if_neg e]
    by_cases e2 : i = a
    · rw [if_pos e2]; show (ndAt l a).f3.length ≤ _; rw [← e2]; exact h i (by omega)
    · rw [if_neg e2]; exact h i (by omega)
theorem at3.tx {l : List Nd} {j : Nat} {x : ByteArray} (h : at3 l) (hj : j < l.length) : at3 (addTx l j x) := by
  intro i hi
  rw [addTx_len] at hi
  rw [addTx_nd hj]
  by_cases e : i = j
  · rw [if_pos e]; show (ndAt l j).f3.length ≤ _; rw [← e]; exact h i hi
  · rw [if_neg e]; exact h i hi
theorem at3.step {k : Nat} {l : List Nd} {a : Nat} {t : Tk} (hb : BOk k l a) (h : at3 l) (ht : t.f3.length ≤ 1000000) (he : bdE l a t = 0) : at3 (bdL l a t) := by
  unfold bdE at he
  split at he
  · unfold bdL
    by_cases h1 : t.f0 = 1
    · rw [if_pos h1] at he
      rw [if_pos h1]
      unfold opE at he
      unfold opLs
      by_cases hr : t.f1.toList = rootL
      · rw [if_pos hr]; exact h
      · rw [if_neg hr] at he
        rw [if_neg hr]
        exact h.lay hb he ht
    · rw [if_neg h1] at he
      rw [if_neg h1]
      by_cases h2 : t.f0 = 2
      · rw [if_pos h2]; exact h
      · rw [if_neg h2] at he
        rw [if_neg h2]
        unfold txE at he
        unfold txL
        by_cases h0 : t.f2.toList = []
        · rw [if_pos h0]; exact h
        · rw [if_neg h0] at he
          rw [if_neg h0]
          by_cases hx : isTx l a = true
          · rw [if_pos hx]; exact h.tx (lastIx_lt hb hx)
          · rw [if_neg hx] at he
            rw [if_neg hx]
            exact h.lay hb he (show (0 : Nat) ≤ _ by omega)
  · cases he
theorem bdF_ns : ∀ (ts : List Tk) (k : Nat) (l : List Nd) (a : Nat), BOk k l a → at3 l → (∀ t ∈ ts, t.f2.size ≤ 1000000 ∧ t.f3.length ≤ 1000000) → (bdF ts l a).1.length ≤ 60 ∧ ∀ x ∈ (bdF ts l a).1, x.f3.length ≤ 1000000 ∧ x.f4.length ≤ 1000000
  | [], k, l, a, hb, h, _ => ⟨hb.len, fun x hx => by
      have hx' : x ∈ l := hx
      obtain ⟨j, hj, rfl⟩ := List.mem_iff_getElem.1 hx'
      have h1 := h j hj
      have h2 := hb.kl j hj
      have h3 := hb.len
      unfold ndAt at h1 h2
      rw [List.getD_eq_getElem?_getD, List.getElem?_eq_getElem hj] at h1 h2
      simp only [Option.getD_some] at h1 h2
      exact ⟨h1, by omega⟩⟩
  | t :: ts, k, l, a, hb, h, hs => by
    rw [bdF]
    by_cases he : bdE l a t = 0
    · rw [if_pos he]
      exact bdF_ns ts (k + 1) _ _ (hb.step (hs t (List.mem_cons_self ..)).1 he) (h.step hb (hs t (List.mem_cons_self ..)).2 he) (fun x hx => hs x (List.mem_cons_of_mem _ hx))
    · rw [if_neg he]
      exact ⟨by simp, fun x hx => absurd hx (by simp)⟩
theorem build_ns (ts : List Tk) (hs : ∀ t ∈ ts, t.f2.size ≤ 1000000 ∧ t.f3.length ≤ 1000000) : (buildF ts).1.length ≤ 60 ∧ ∀ x ∈ (buildF ts).1, x.f3.length ≤ 1000000 ∧ x.f4.length ≤ 1000000 :=
  bdF_ns ts 0 [rootN] 0 BOk.start (fun i hi => by have : i = 0 := by simp at hi; omega
                                                  subst this; exact Nat.zero_le _) hs
end Go.Proofs.YtkjgnkmnngaioaaGreat.Q
namespace Go.Proofs.YtkjgnkmnngaioaaGreat.Open
open Go.RowKit Go.Proofs.YtkjgnkmnngaioaaGreatW.PrintWords Go.Deep
/-- A reading of type `T` is a value of the kind `d`, and is good. -/
def Opens {α : Type} (P : Program) (T : TypeId) (d : Kd α) (g : α → Prop) : Prop :=
  ∀ {H : Type} {enc : TypeId × Value → H} {w : World} {base : Nat} {spare : Nat → Bool} {held : Bool} {fuel : Nat} {cs : List Value} {x : DataW H × List MemPlace},
    DataW.trod enc P w base spare held fuel T cs = some x → ∃ v : α, d.K w v cs ∧ g v
section
variable {P : Program} {T e : TypeId}
theorem add_add (a : Addr) (x y : Nat) : (a.add x).add y = a.add (x + y) := by
  unfold Addr.add
  by_cases hx : x = 0
  · subst hx; rw [if_pos rfl, Nat.zero_add]
  · by_cases hy : y = 0
    · subst hy; rw [if_pos rfl, Nat.add_zero]
    · have h3 : x + y ≠ 0 := by omega
      rw [if_neg hx, if_neg hy, if_neg h3, Nat.add_assoc]
theorem cells_get {w : World} {base : Nat} {a : Addr} {n : Nat} {l : List Value} (h : w.cells? base a n = some l) : l.length = n ∧ ∀ i u, l[i]? = some u → w.cell? (a.add i) = some u := by
  unfold World.cells? at h
  split at h
  · have hl := mapM_some_length h
    rw [List.length_range] at hl
    refine ⟨hl, fun i u hu => ?_⟩
    have hi : i < l.length := (List.getElem?_eq_some_iff.1 hu).1
    have := mapM_some_get h i i (List.getElem?_range (by omega))
    rw [this, hu]
  · cases h
/-- The fields from the `o`-th cell on are values of the kind `d`. -/
def OpensL {β : Type} (P : Program) (fs : List Field) (o : Nat) (d : Kd β) (g : β → Prop) : Prop :=
  ∀ {H : Type} {enc : TypeId × Value → H} {w : World} {base : Nat} {spare : Nat → Bool} {held : Bool} {n : Nat} {cs : List Value},
    (∀ (i : Nat) (f : Field), fs[i]? = some f → ∃ y, DataW.trod enc P w base spare held n f.type ((cs.drop f.offset).take (P.cellsOf f.type)) = some y) → cs.length = o + d.sz → ∃ v : β, d.K w v (cs.drop o) ∧ g v
end
end Go.Proofs.YtkjgnkmnngaioaaGreat.Open
namespace Go.Proofs.YtkjgnkmnngaioaaGreat.Open
open Go.RowKit Go.Proofs.YtkjgnkmnngaioaaGreatW.PrintWords Go.Deep
/-- A reading of type `T` whose weights are in reach is a value of the kind `d`, and is good. -/
def OpensW {α : Type} (P : Program) (T : TypeId) (d : Kd α) (g : α → Prop) : Prop :=
  ∀ {H : Type} {enc : TypeId × Value → H} {w : World} {base : Nat} {spare : Nat → Bool} {held : Bool} {fuel : Nat} {cs : List Value} {x : DataW H × List MemPlace},
    DataW.trod enc P w base spare held fuel T cs = some x → (∀ n ∈ x.1.weights P T, n ≤ reachBytes) → ∃ v : α, d.K w v cs ∧ g v
section
variable {P : Program} {T e : TypeId}
theorem opensW_int {k : IntKind} (ht : P.underlying T = some (.int k)) : OpensW P T (Kd.int k) (fun n => (Lit.int k n).wf = true) := fun h _ => by
  obtain ⟨n, rfl, _, hw⟩ := DataW.trod_int ht h
  exact ⟨n, rfl, hw⟩
theorem opensW_string (ht : P.underlying T = some .string) : OpensW P T Kd.string (fun s => s.size ≤ reachBytes) := fun h hw => by
  obtain ⟨s, rfl, rfl, hs⟩ := DataW.trod_string ht h
  refine ⟨s, rfl, ?_⟩
  have := hw s.data.toList.length (by simp only [DataW.weights, List.mem_singleton])
  rwa [Array.length_toList] at this
theorem weights_all {H : Type} {t : TypeId} : ∀ {l : List (DataW H)} {d : DataW H} {n : Nat}, d ∈ l → n ∈ d.weights P t → n ∈ DataW.weightsAll P t l
  | a :: l, d, n, hd, hn => by
    rw [DataW.weightsAll, List.mem_append]
    rcases List.mem_cons.1 hd with rfl | hd
    · exact .inl hn
    · exact .inr (weights_all hd hn)
theorem opensW_slice {α : Type} {d : Kd α} {g : α → Prop} (ht : P.underlying T = some (.slice e)) (hc : P.cellsOf e = d.sz) (hd : OpensW P e d g) :
    OpensW P T (Kd.slice e d) (fun xs => (∀ x ∈ xs, g x) ∧ xs.length * P.bytesOf e ≤ reachBytes ∧ xs.length ≤ maxLen) := fun {H enc w base spare held fuel cs x} h hw => by
  rcases open_slice ht h with ⟨rfl, _⟩ | ⟨a, len, cap, m, n, D, Pl, rfl, _, hl, hm, hmm, rfl, hel⟩
  · exact ⟨[], ⟨none, 0, rfl, Nat.le_refl _, rfl, Nat.zero_le _, fun h => absurd h (Nat.lt_irrefl 0)⟩, ⟨fun x hx => absurd hx List.not_mem_nil, by simp, Nat.zero_le _⟩⟩
  · have hlm : len ≤ m := by rw [hmm]; split <;> omega
    have hwt : ∀ q, q ∈ DataW.weights P T (.slice ((List.range len).map D) ((List.range (m - len)).map fun j => D (len + j))) ↔ q = (len + (m - len)) * P.bytesOf e ∨ q ∈ DataW.weightsAll P e ((List.range len).map D) ∨ q ∈ DataW.weightsAll P e ((List.range (m - len)).map fun j => D (len + j)) := fun q => by
      simp only [DataW.weights, ht, List.mem_cons, List.mem_append, List.length_map, List.length_range]
    have hreach : len * P.bytesOf e ≤ reachBytes := Nat.le_trans (Nat.mul_le_mul_right _ (by omega)) (hw _ ((hwt _).2 (.inl rfl)))
    have key : ∀ i, i < len → ∃ v : α, g v ∧ ∃ c, c.length = d.sz ∧ d.K w v c ∧ ∀ j u, c[j]? = some u → w.cell? (a.add (i * d.sz + j)) = some u := fun i hi => by
      obtain ⟨cs', h1, h2⟩ := hel i (by omega)
      obtain ⟨v, hv, hg⟩ := hd h2 (fun q hq => hw _ ((hwt _).2 (.inr (.inl (weights_all (List.mem_map.2 ⟨i, List.mem_range.2 hi, rfl⟩) hq)))))
      obtain ⟨k1, k2⟩ := cells_get h1
      rw [hc] at k1 k2
      exact ⟨v, hg, cs', k1, hv, fun j u hu => by rw [← add_add]; exact k2 j u hu⟩
    have hne : len = 0 ∨ Nonempty α := by
      rcases Nat.eq_zero_or_pos len with h0 | h0
      · exact .inl h0
      · obtain ⟨v, _⟩ := key 0 h0
        exact .inr ⟨v⟩
    rcases hne with rfl | hne
    · exact ⟨[], ⟨some a, cap, rfl, Nat.zero_le _, rfl, Nat.zero_le _, fun h => absurd h (Nat.lt_irrefl 0)⟩, ⟨fun x hx => absurd hx List.not_mem_nil, by simp, Nat.zero_le _⟩⟩
    · have key' : ∀ i, ∃ v : α, i < len → (g v ∧ ∃ c, c.length = d.sz ∧ d.K w v c ∧ ∀ j u, c[j]? = some u → w.cell? (a.add (i * d.sz + j)) = some u) := fun i => by
        by_cases hi : i < len
        · obtain ⟨v, hv⟩ := key i hi
          exact ⟨v, fun _ => hv⟩
        · exact ⟨Classical.choice hne, fun h => absurd h hi⟩
      let V := fun i => Classical.choose (key' i)
      have hV := fun i => Classical.choose_spec (key' i)
      refine ⟨(List.range len).map V, ⟨some a, cap, by simp, by simpa using hl, rfl, ?_, fun _ => ⟨a, rfl, fun j p hp => ?_⟩⟩, ⟨fun x hx => ?_, ?_, ?_⟩⟩
      · simp; unfold maxLen at hm; omega
      · rw [List.getElem?_map] at hp
        have hj : j < len := by
          rcases Nat.lt_or_ge j len with h1 | h1
          · exact h1
          · rw [List.getElem?_eq_none (by simpa using h1)] at hp; cases hp
        rw [List.getElem?_range hj] at hp
        simp only [Option.map_some, Option.some.injEq] at hp
        subst hp
        obtain ⟨_, c, h1, h2, h3⟩ := hV j hj
        exact ⟨c, h1, h2, h3⟩
      · rw [List.mem_map] at hx
        obtain ⟨j, hj, rfl⟩ := hx
        exact (hV j (List.mem_range.1 hj)).1
      · simpa using hreach
      · simp; omega
/-- The fields from the `o`-th cell on are values of the kind `d`. -/
def OpensLW {β : Type} (P : Program) (fs : List Field) (o : Nat) (d : Kd β) (g : β → Prop) : Prop :=
  ∀ {H : Type} {enc : TypeId × Value → H} {w : World} {base : Nat} {spare : Nat → Bool} {held : Bool} {n : Nat} {cs : List Value},
    (∀ (i : Nat) (f : Field), fs[i]? = some f → ∃ y, DataW.trod enc P w base spare held n f.type ((cs.drop f.offset).take (P.cellsOf f.type)) = some y ∧ ∀ q ∈ y.1.weights P f.type, q ≤ reachBytes) → cs.length = o + d.sz → ∃ v : β, d.K w v (cs.drop o) ∧ g v
theorem opensLW_one {β : Type} {f : Field} {o : Nat} {d : Kd β} {g : β → Prop} (ho : f.offset = o) (hc : P.cellsOf f.type = d.sz) (h : OpensW P f.type d g) : OpensLW P [f] o d g := fun hf hl => by
  obtain ⟨y, hy, hq⟩ := hf 0 f rfl
  rw [ho, hc, List.take_of_length_le (by rw [List.length_drop]; omega)] at hy
  exact h hy hq
theorem opensLW_cons {α β : Type} {f : Field} {fs : List Field} {o : Nat} {d : Kd α} {e : Kd β} {g : α → Prop} {g' : β → Prop} (ho : f.offset = o) (hc : P.cellsOf f.type = d.sz) (h : OpensW P f.type d g)
    (hs : OpensLW P fs (o + d.sz) e g') : OpensLW P (f :: fs) o (Kd.pair d e) (fun x => g x.1 ∧ g' x.2) := fun {H enc w base spare held n cs} hf hl => by
  obtain ⟨y, hy, hq⟩ := hf 0 f rfl
  rw [ho, hc] at hy
  obtain ⟨v, hv, hg⟩ := h hy hq
  obtain ⟨u, hu, hg'⟩ := hs (fun i f' hi => hf (i + 1) f' (by simpa using hi)) (by rw [hl]; simp [Kd.pair]; omega)
  refine ⟨(v, u), ⟨(cs.drop o).take d.sz, (cs.drop o).drop d.sz, (List.take_append_drop _ _).symm, hv, ?_⟩, hg, hg'⟩
  rw [List.drop_drop]
  exact hu
theorem opensW_struct {β : Type} {fs : Array Field} {l : List Field} {d : Kd β} {g : β → Prop} (ht : P.underlying T = some (.struct fs)) (hc : P.cellsOf T = d.sz) (he : fs.toList = l) (hl : OpensLW P l 0 d g) : OpensW P T d g := fun {H enc w base spare held fuel cs x} h hw => by
  obtain ⟨xs, n, _, hx, h1, h2, h3⟩ := DataW.trod_struct ht h
  have key : ∀ (i : Nat) (f : Field), l[i]? = some f → ∃ y, DataW.trod enc P w base spare held n f.type ((cs.drop f.offset).take (P.cellsOf f.type)) = some y ∧ ∀ q ∈ y.1.weights P f.type, q ≤ reachBytes := fun i f hi => by
    have hi' : fs[i]? = some f := by rw [← Array.getElem?_toList, he]; exact hi
    have hlt : i < xs.length := by rw [h2]; exact (Array.getElem?_eq_some_iff.1 hi').1
    refine ⟨xs[i], by rw [h3 i f hi', List.getElem?_eq_getElem hlt], fun q hq => hw q ?_⟩
    rw [hx]
    simp only [DataW.weights, ht]
    exact DataW.weights_mem_each (j := i) (t := f.type) (d := xs[i].1) (by rw [List.getElem?_map, he, hi]; rfl) (by rw [List.getElem?_map, List.getElem?_eq_getElem hlt]; rfl) q hq
  have := hl key (by rw [h1, hc]; omega)
  rwa [List.drop_zero] at this
theorem opensW_iso {α β : Type} {d : Kd β} {g : β → Prop} {f : α → β} (k : β → α) (hk : ∀ b, f (k b) = b) (h : OpensW P T d g) : OpensW P T (Kd.iso d f) (fun x => g (f x)) := fun h' hw => by
  obtain ⟨v, hv, hg⟩ := h h' hw
  exact ⟨k v, by show d.K _ (f (k v)) _; rw [hk]; exact hv, by show g (f (k v)); rw [hk]; exact hg⟩
theorem OpensW.of {α : Type} {d : Kd α} {g : α → Prop} {H : Type} {enc : TypeId × Value → H} {w : World} {base : Nat} {sp : Nat → Bool} {held : Bool} {v : Value} {x : DataW H} {ps : List MemPlace} (h : OpensW P T d g)
    (ht : DataW.Trod enc P w base sp held T v x ps) (hw : ∀ n ∈ x.weights P T, n ≤ reachBytes) : ∃ y, d.K w y v.cells.toList ∧ g y := by
  obtain ⟨m, hm⟩ := ht
  exact h hm hw
end
end Go.Proofs.YtkjgnkmnngaioaaGreat.Open
namespace Go.Proofs.YtkjgnkmnngaioaaGreat.Q
open Go.RowKit Go.Proofs.YtkjgnkmnngaioaaGreatW.PrintWords Go.Proofs.YtkjgnkmnngaioaaGreat.Open
def goodW70 (x : S70) : Prop := x.f0.size ≤ reachBytes ∧ x.f1.size ≤ reachBytes
theorem opW70 : OpensW Tryz.prog 70 k70 goodW70 := opensW_iso (fun v => ⟨v.1, v.2⟩) (fun _ => rfl) (opensW_struct Tryz.underlying70 (by kernel_rfl) rfl (opensLW_cons rfl (by kernel_rfl) (opensW_string Tryz.underlying9) (opensLW_one rfl (by kernel_rfl) (opensW_string Tryz.underlying9))))
def goodW46 (x : S46) : Prop := (Lit.int .i64 x.f0).wf = true ∧ x.f1.size ≤ reachBytes ∧ x.f2.size ≤ reachBytes ∧ (∀ y ∈ x.f3, goodW70 y) ∧ x.f3.length * Tryz.prog.bytesOf 70 ≤ reachBytes ∧ x.f3.length ≤ maxLen
theorem opW46 : OpensW Tryz.prog 46 k46 goodW46 := opensW_iso (fun v => ⟨v.1, v.2.1, v.2.2.1, v.2.2.2⟩) (fun _ => rfl) (opensW_struct Tryz.underlying46 (by kernel_rfl) rfl (opensLW_cons rfl (by kernel_rfl) (opensW_int Tryz.underlying3) (opensLW_cons rfl (by kernel_rfl) (opensW_string Tryz.underlying9) (opensLW_cons rfl (by kernel_rfl) (opensW_string Tryz.underlying9) (opensLW_one rfl (by kernel_rfl) (opensW_slice Tryz.underlying44 (by kernel_rfl) opW70))))))
end Go.Proofs.YtkjgnkmnngaioaaGreat.Q
namespace Go.Proofs.YtkjgnkmnngaioaaGreat.Q
open Go.RowKit Go.Proofs.YtkjgnkmnngaioaaGreatW.PrintWords Go.Proofs.YtkjgnkmnngaioaaGreatW.PrintLast Go.Proofs.YtkjgnkmnngaioaaGreatW.PrintMore
attribute [local go_sem] max2_int min2_int max_two min_two max_three min_three max_four min_four   -- for this text's walks alone
set_option linter.unusedVariables false
set_option linter.unusedSimpArgs false
theorem k70_heap : Kd.Heap k70 := Kd.heap_iso _ (Kd.heap_pair Kd.heap_string Kd.heap_string)
theorem k49_heap : Kd.Heap k49 := Kd.heap_iso _ (Kd.heap_pair (Kd.heap_int .i64) (Kd.heap_pair Kd.heap_string (Kd.heap_pair Kd.heap_string (Kd.heap_pair (Kd.heap_slice 70 k70_heap) (Kd.heap_slice 3 (Kd.heap_int .i64))))))
theorem k46_heap : Kd.Heap k46 := Kd.heap_iso _ (Kd.heap_pair (Kd.heap_int .i64) (Kd.heap_pair Kd.heap_string (Kd.heap_pair Kd.heap_string (Kd.heap_slice 70 k70_heap))))
end Go.Proofs.YtkjgnkmnngaioaaGreat.Q
namespace Go.Proofs.YtkjgnkmnngaioaaGreat.Q
open Go.RowKit Go.Proofs.YtkjgnkmnngaioaaGreatW.PrintWords Go.Proofs.YtkjgnkmnngaioaaGreatW.PrintLast Go.Proofs.YtkjgnkmnngaioaaGreatW.PrintMore
attribute [local go_sem] max2_int min2_int max_two min_two max_three min_three max_four min_four   -- for this text's walks alone
set_option linter.unusedVariables false
set_option linter.unusedSimpArgs false
theorem eqA70 (d : Nat) (w : World) (x0 y0 : ByteArray) (x1 y1 : ByteArray) :
    (Op.equalIn (d + 2) 70 (.agg #[.string x0, .string x1]) (.agg #[.string y0, .string y1])).run Tryz.prog w = .ok (x0.toList == y0.toList && (x1.toList == y1.toList)) w := by
  refine eqA_of Tryz.underlying70 (by kernel_rfl) ?_
  refine eqf_cons (by rfl) (by go_simp; rfl) (by go_simp; rfl) (by go_simp) ?_
  exact eqf_last (by rfl) (by go_simp; rfl) (by go_simp; rfl) (by go_simp)
end Go.Proofs.YtkjgnkmnngaioaaGreat.Q
namespace Go.Proofs.YtkjgnkmnngaioaaGreat.Q
open Go.RowKit Go.Proofs.YtkjgnkmnngaioaaGreatW.PrintWords Go.Proofs.YtkjgnkmnngaioaaGreatW.PrintLast Go.Proofs.YtkjgnkmnngaioaaGreatW.PrintMore
attribute [local go_sem] max2_int min2_int max_two min_two max_three min_three max_four min_four   -- for this text's walks alone
set_option linter.unusedVariables false
set_option linter.unusedSimpArgs false
attribute [local go_sem high] eqA70
def scrimlaw05_own.l0 : Nat → List (S46) → List (S71) → Int → Int → Option ((List (S71)) × Int)
  | 0, _, _, _, _ => none
  | k + 1, x0, x4, x5, x6 => if x6 < (x0.length : Int) then (if x5 ≤ 20000 then (if 0 ≤ x6 then (if x4.length < 2199023255552 then (scrimlaw05_own.l0 k x0 (x4 ++ [(⟨(rd_T46 x0 x6).f0, (rd_T46 x0 x6).f1, (rd_T46 x0 x6).f2, (rd_T46 x0 x6).f3⟩ : S71)]) (wrap64 (x5 + (wrap64 ((wrap64 (1 + (((rd_T46 x0 x6).f2).size : Int))) + (wrap64 (30 * (((rd_T46 x0 x6).f3).length : Int))))))) (wrap64 (x6 + 1))) else (none)) else (none)) else (some (x4, x5))) else (some (x4, x5))
def scrimlaw05_own.f (k : Nat) (l0 : List (S46)) : Option ((List (S71)) × Int) := scrimlaw05_own.l0 k l0 (([] : List (S71))) 0 0
set_option maxHeartbeats 8000000 in
set_option maxRecDepth 100000 in
theorem scrimlaw05_own.calls (k : Nat) (P0_ : Nat → Prop) (A0 : Option Addr) (c0 : Nat) (l0 : List (S46)) (r1 : List (S71)) (r2 : Int) (w : World) (hs0 : Kd.V k46 46 w w.heap.size (fun k_ => P0_ k_) (.slice A0 l0.length c0) l0) (h : scrimlaw05_own.f k l0 = some (r1, r2)) :
    Calls Tryz.prog 24 #[.slice A0 l0.length c0] w fun e w' => ∃ v0_ : Value, e = .returned (.tuple #[v0_, .int .i64 r2]) ∧ Kd.N k71 71 w' w.heap.size (fun k_ => (P0_ k_ ∨ w.heap.size ≤ k_)) v0_ r1 ∧ Below w.heap.size w w' := by
  have hu46 := Tryz.underlying46
  have HO0 := Aside0.mk (show Kd.V k46 46 w w.heap.size (fun k_ => (P0_ k_ ∨ w.heap.size ≤ k_)) (.slice A0 l0.length c0) l0 from Kd.V_mono hs0 (fun k_ hk => .inl hk))
  have HB := Aside0.mk (Below.refl w.heap.size w)
  have H : (scrimlaw05_own.l0 k l0 (([] : List (S71))) 0 0) = some (r1, r2) := h
  clear h
  obtain ⟨y159, hy159⟩ : ∃ y_ : List (S71), y_ = (([] : List (S71))) := ⟨_, rfl⟩
  replace H : (scrimlaw05_own.l0 k l0 y159 0 0) = some (r1, r2) := by first | (rw [hy159]; with_reducible exact H) | (have H2_ := (Option.bind_some _ _).symm.trans H; rw [hy159]; with_reducible exact H2_) | (have H2_ := (Option.bind_some _ _).symm.trans H; with_reducible exact H2_) | with_reducible exact H | (rw [hy159]; exact H) | exact H
  have Ny159 := Aside0.mk hy159
  clear hy159
  have H' := Aside0.mk H
  clear H
  go_enter Tryz.func24, Tryz.ntmps24
  go_wp2_with (first | ((with_reducible refine gate_dst (N := 7) rfl ?_); refine Kd.N_lit k71 _ 71 ?hg (N' := 7) ?hd (xs := ([] : List (S71))) (inner := []) (ok := (fun k_ => (P0_ k_ ∨ w.heap.size ≤ k_))) (okp := (fun k_ => (P0_ k_ ∨ w.heap.size ≤ k_))) ?hr ?hp (fun _ hk => hk) ((show ∀ k_, w.heap.size ≤ k_ → (fun k_ => (P0_ k_ ∨ w.heap.size ≤ k_)) k_ from fun k_ hk => (.inr (Nat.le_trans (below_size (by repeat (first | (with_reducible first | exact HB.out | apply below_alloc | apply pw_below_drewN | apply below_drew1) | exact HB.out))) hk))) _ (Nat.le_refl _)) (Below.refl _ _) (Nat.le_refl _) (by simp) ?_; (case hd => rfl); (case hg => rfl); (case hr => first | (go_simp; done) | (go_simp; rfl)); (case hp => exact (Reps.none _ _)); intro v160 w2 ho3 hb hg_ hnew_; clear hg_ hnew_; (first | rw [← Ny159.out] at ho3 | (simp only [Int.reduceToNat] at ho3; rw [← Ny159.out] at ho3)); have n0_ := Aside0.mk (Kd.V_elder' (by (with_reducible repeat (first | apply Kd.V_alloc | apply Kd.V_drewN | apply Kd.V_drew)); exact HO0.out) (Kd.N_base ho3) hb); have n1_ := Aside0.mk (Kd.N_lower ho3 (below_size (by repeat (first | (with_reducible first | exact HB.out | apply below_alloc | apply pw_below_drewN | apply below_drew1) | exact HB.out)))); have n2_ := Aside0.mk (below_step (by repeat (first | (with_reducible first | exact HB.out | apply below_alloc | apply pw_below_drewN | apply below_drew1) | exact HB.out)) hb); clear HO0; clear HB; have HO0 := n0_; have HO161 := n1_; have HB := n2_; clear n0_ n1_ n2_; clear hb ho3))
  repeat (go_quiet (first | ((with_reducible refine gate_dst (N := 7) rfl ?_); refine Kd.N_lit k71 _ 71 ?hg (N' := 7) ?hd (xs := ([] : List (S71))) (inner := []) (ok := (fun k_ => (P0_ k_ ∨ w.heap.size ≤ k_))) (okp := (fun k_ => (P0_ k_ ∨ w.heap.size ≤ k_))) ?hr ?hp (fun _ hk => hk) ((show ∀ k_, w.heap.size ≤ k_ → (fun k_ => (P0_ k_ ∨ w.heap.size ≤ k_)) k_ from fun k_ hk => (.inr (Nat.le_trans (below_size (by repeat (first | (with_reducible first | exact HB.out | apply below_alloc | apply pw_below_drewN | apply below_drew1) | exact HB.out))) hk))) _ (Nat.le_refl _)) (Below.refl _ _) (Nat.le_refl _) (by simp) ?_; (case hd => rfl); (case hg => rfl); (case hr => first | (go_simp; done) | (go_simp; rfl)); (case hp => exact (Reps.none _ _)); intro v160 w2 ho3 hb hg_ hnew_; clear hg_ hnew_; (first | rw [← Ny159.out] at ho3 | (simp only [Int.reduceToNat] at ho3; rw [← Ny159.out] at ho3)); have n0_ := Aside0.mk (Kd.V_elder' (by (with_reducible repeat (first | apply Kd.V_alloc | apply Kd.V_drewN | apply Kd.V_drew)); exact HO0.out) (Kd.N_base ho3) hb); have n1_ := Aside0.mk (Kd.N_lower ho3 (below_size (by repeat (first | (with_reducible first | exact HB.out | apply below_alloc | apply pw_below_drewN | apply below_drew1) | exact HB.out)))); have n2_ := Aside0.mk (below_step (by repeat (first | (with_reducible first | exact HB.out | apply below_alloc | apply pw_below_drewN | apply below_drew1) | exact HB.out)) hb); clear HO0; clear HB; have HO0 := n0_; have HO161 := n1_; have HB := n2_; clear n0_ n1_ n2_; clear hb ho3)); try go_wp2_with (first | ((with_reducible refine gate_dst (N := 7) rfl ?_); refine Kd.N_lit k71 _ 71 ?hg (N' := 7) ?hd (xs := ([] : List (S71))) (inner := []) (ok := (fun k_ => (P0_ k_ ∨ w.heap.size ≤ k_))) (okp := (fun k_ => (P0_ k_ ∨ w.heap.size ≤ k_))) ?hr ?hp (fun _ hk => hk) ((show ∀ k_, w.heap.size ≤ k_ → (fun k_ => (P0_ k_ ∨ w.heap.size ≤ k_)) k_ from fun k_ hk => (.inr (Nat.le_trans (below_size (by repeat (first | (with_reducible first | exact HB.out | apply below_alloc | apply pw_below_drewN | apply below_drew1) | exact HB.out))) hk))) _ (Nat.le_refl _)) (Below.refl _ _) (Nat.le_refl _) (by simp) ?_; (case hd => rfl); (case hg => rfl); (case hr => first | (go_simp; done) | (go_simp; rfl)); (case hp => exact (Reps.none _ _)); intro v160 w2 ho3 hb hg_ hnew_; clear hg_ hnew_; (first | rw [← Ny159.out] at ho3 | (simp only [Int.reduceToNat] at ho3; rw [← Ny159.out] at ho3)); have n0_ := Aside0.mk (Kd.V_elder' (by (with_reducible repeat (first | apply Kd.V_alloc | apply Kd.V_drewN | apply Kd.V_drew)); exact HO0.out) (Kd.N_base ho3) hb); have n1_ := Aside0.mk (Kd.N_lower ho3 (below_size (by repeat (first | (with_reducible first | exact HB.out | apply below_alloc | apply pw_below_drewN | apply below_drew1) | exact HB.out)))); have n2_ := Aside0.mk (below_step (by repeat (first | (with_reducible first | exact HB.out | apply below_alloc | apply pw_below_drewN | apply below_drew1) | exact HB.out)) hb); clear HO0; clear HB; have HO0 := n0_; have HO161 := n1_; have HB := n2_; clear n0_ n1_ n2_; clear hb ho3)))
  go_loopg [4, 5, 6] k (fun kq v4 v5 v6 w' => ∃ (x4_1 : List (S71)) (x5_1 : Int) (x6_1 : Int), v5 = .int .i64 x5_1 ∧ v6 = .int .i64 x6_1 ∧ Aside0 (scrimlaw05_own.l0 kq l0 x4_1 x5_1 x6_1 = some (r1, r2)) ∧ Aside0 (kq ≤ k) ∧ Aside0 (Kd.V k46 46 w' w.heap.size (fun k_ => (P0_ k_ ∨ w.heap.size ≤ k_) ∧ some k_ ≠ (v4 : Value).ownBlock) (.slice A0 l0.length c0) l0) ∧ Aside0 (Kd.N k71 71 w' w.heap.size (fun k_ => (P0_ k_ ∨ w.heap.size ≤ k_)) v4 x4_1) ∧ Aside0 (Below w.heap.size w w'))
  case atStart => exact ⟨(y159), (0), (0), (by first | rfl | (simp; done) | (simp [*]; done)), (by first | rfl | (simp; done) | (simp [*]; done)), H', ⟨Nat.le_refl _⟩, ⟨by (with_reducible repeat (first | apply Kd.V_alloc | apply Kd.V_drewN | apply Kd.V_drew)); exact HO0.out⟩, ⟨by (with_reducible repeat (first | apply Kd.N_alloc | apply Kd.N_drewN | apply Kd.N_drew)); exact HO161.out⟩, ⟨by repeat (first | (with_reducible first | exact HB.out | apply below_alloc | apply pw_below_drewN | apply below_drew1) | exact HB.out)⟩⟩
  case round =>
    clear H'
    try clear c2
    try clear p2
    obtain ⟨x4_1, x5_1, x6_1, rfl, rfl, HA, HK1, HO_0, HO_4, HB⟩ := hrel
    cases gk with
    | zero => exact absurd HA.out (by simp [scrimlaw05_own.l0])
    | succ k1 =>
      have H := HA.out
      clear HA
      simp only [scrimlaw05_own.l0] at H
      by_cases c4 : x6_1 < (l0.length : Int)
      · rw [if_pos c4] at H
        have c4b0 : decide (x6_1 < (l0.length : Int)) = true := decide_eq_true c4
        clear c4
        by_cases c5 : x5_1 ≤ 20000
        · rw [if_pos c5] at H
          have c5b0 : decide (x5_1 ≤ 20000) = true := decide_eq_true c5
          clear c5
          by_cases c6 : 0 ≤ x6_1
          · rw [if_pos c6] at H
            have c6b0 : decide (0 ≤ x6_1) = true := decide_eq_true c6
            clear c6
            by_cases c7 : x4_1.length < 2199023255552
            · rw [if_pos c7] at H
              have LMc7 := Aside0.mk c7
              clear c7
              obtain ⟨y163, hy163⟩ : ∃ y_ : List (S71), y_ = (x4_1 ++ [(⟨(rd_T46 l0 x6_1).f0, (rd_T46 l0 x6_1).f1, (rd_T46 l0 x6_1).f2, (rd_T46 l0 x6_1).f3⟩ : S71)]) := ⟨_, rfl⟩
              replace H : (scrimlaw05_own.l0 k1 l0 y163 (wrap64 (x5_1 + (wrap64 ((wrap64 (1 + (((rd_T46 l0 x6_1).f2).size : Int))) + (wrap64 (30 * (((rd_T46 l0 x6_1).f3).length : Int))))))) (wrap64 (x6_1 + 1))) = some (r1, r2) := by first | (rw [hy163]; with_reducible exact H) | (have H2_ := (Option.bind_some _ _).symm.trans H; rw [hy163]; with_reducible exact H2_) | (have H2_ := (Option.bind_some _ _).symm.trans H; with_reducible exact H2_) | with_reducible exact H | (rw [hy163]; exact H) | exact H
              have Ny163 := Aside0.mk hy163
              clear hy163
              have H' := Aside0.mk H
              clear H
              have p162 : 0 ≤ (x6_1 : Int) := of_decide_eq_true (by first | (with_reducible assumption) | assumption)
              have q162 : x6_1 < (l0.length : Int) := of_decide_eq_true (by first | (with_reducible assumption) | assumption)
              obtain ⟨ad162, A162_3, c162_3, e162, hx162_0, hx162_1, hx162_2, hx162_3, hl162_3, hi162_3⟩ := at_T46 (Kd.V_reads' HO_0.out).2.2 x6_1 p162 q162
              cases e162
              obtain ⟨ce162, hce162, hMe162, hcc162⟩ := Kd.V_get HO_0.out z46 x6_1 p162 (by first | exact q162 | exact of_decide_eq_true (by first | (with_reducible assumption) | assumption) | (have e_ := (Kd.V_reads' HO_0.out).1; omega))
              obtain ⟨ua162_3, uc162_3, rfl, ul162_3, ge162_3⟩ := k46_openF hMe162
              have hv162_3 := hcc162 3 _ rfl
              rw [add_field _ _ 3 (by omega)] at hv162_3
              replace hv162_3 := Option.some.inj (hv162_3.symm.trans hx162_3)
              injection hv162_3 with hva_ hvn_ hvc_
              rw [hva_] at ge162_3
              rw [hvc_] at ul162_3
              have HL162_3 := Aside0.mk (show Kd.V k70 70 _ w.heap.size _ _ ((rd_T46 l0 x6_1).f3) from Kd.V_mk ul162_3 ge162_3)
              clear hva_ hvn_ hvc_ ge162_3 ul162_3
              clear hcc162 hce162
              have HR162_3 := Aside0.mk hi162_3
              have HC162_3 := Aside0.mk hl162_3
              clear hi162_3 hl162_3
              replace p162 := eq_true p162
              replace q162 := eq_true q162
              go_wp2_with (first | ((with_reducible refine gate_builtin (b := .append) (xs := #[.tmp 18, .tmp 23]) rfl ?_); at_builtin; refine Kd.N_append k71 (w0 := w) w.heap.size rfl (.tmp 18) (.tmp 23) 27 71 (.agg #[(.int .i64 0), (.string ⟨#[]⟩), (.string ⟨#[]⟩), (.slice none 0 0)]) 64 rfl Tryz.underlying27 info71 rfl (by decide) (by omega) u4 x4_1 (⟨(rd_T46 l0 x6_1).f0, (rd_T46 l0 x6_1).f1, (rd_T46 l0 x6_1).f2, (rd_T46 l0 x6_1).f3⟩ : S71) [.int .i64 ((rd_T46 l0 x6_1).f0), .string ((rd_T46 l0 x6_1).f1), .string ((rd_T46 l0 x6_1).f2), .slice A162_3 ((rd_T46 l0 x6_1).f3).length c162_3] (fun k_ => (P0_ k_ ∨ w.heap.size ≤ k_)) (fun k_ => ((fun k_ => (P0_ k_ ∨ w.heap.size ≤ k_))) k_ ∧ some k_ ≠ (u4 : Value).ownBlock) rfl rfl ?aP (fun _ hk => hk) ?aF ?aO ?aB ?aS ?aL ?_; (case aP => exact (k71_mkF _ _ (⟨(rd_T46 l0 x6_1).f0, (rd_T46 l0 x6_1).f1, (rd_T46 l0 x6_1).f2, (rd_T46 l0 x6_1).f3⟩ : S71) (Kd.V_reads' (Kd.V_mono (ok' := (fun k_ => ((fun k_ => (P0_ k_ ∨ w.heap.size ≤ k_))) k_ ∧ some k_ ≠ (u4 : Value).ownBlock)) (HL162_3.out) (fun k_ hk => ⟨hk.1, hk.2⟩))).2.1 (Kd.V_F (Kd.V_mono (ok' := (fun k_ => ((fun k_ => (P0_ k_ ∨ w.heap.size ≤ k_))) k_ ∧ some k_ ≠ (u4 : Value).ownBlock)) (HL162_3.out) (fun k_ hk => ⟨hk.1, hk.2⟩))))); (case aB => exact (by repeat (first | (with_reducible first | exact HB.out | apply below_alloc | apply pw_below_drewN | apply below_drew1) | exact HB.out))); (case aF => exact (fun k_ hk => (.inr (Nat.le_trans (below_size (by repeat (first | (with_reducible first | exact HB.out | apply below_alloc | apply pw_below_drewN | apply below_drew1) | exact HB.out))) hk)))); (case aO => exact (by (with_reducible repeat (first | apply Kd.N_alloc | apply Kd.N_drewN | apply Kd.N_drew)); exact HO_4.out)); (case aS => exact (below_size (by repeat (first | (with_reducible first | exact HB.out | apply below_alloc | apply pw_below_drewN | apply below_drew1) | exact HB.out)))); (case aL => have := LMc7.out; omega); intro v164 w8 ho hb hg hat; rw [← Ny163.out] at ho; have n0_ := Aside0.mk (Kd.V_afterv (ok := (fun k_ => (P0_ k_ ∨ w.heap.size ≤ k_))) (by (with_reducible repeat (first | apply Kd.V_alloc | apply Kd.V_drewN | apply Kd.V_drew)); exact HO_0.out) hg hat); have n1_ := Aside0.mk (Kd.V_afterv (ok := (fun k_ => (P0_ k_ ∨ w.heap.size ≤ k_))) (by (with_reducible repeat (first | apply Kd.V_alloc | apply Kd.V_drewN | apply Kd.V_drew)); exact HL162_3.out) hg hat); have n2_ := Aside0.mk (hb); have n3_ := Aside0.mk (ho); clear HO_0; clear HL162_3; clear HB; clear HO_4; have HO_0 := n0_; have HL162_3 := n1_; have HB := n2_; have HO165 := n3_; clear n0_ n1_ n2_ n3_; clear ho hb hg hat; have p166 : 0 ≤ (x6_1 : Int) := of_decide_eq_true (by first | (with_reducible assumption) | assumption); have q166 : x6_1 < (l0.length : Int) := of_decide_eq_true (by first | (with_reducible assumption) | assumption); obtain ⟨ad166, A166_3, c166_3, e166, hx166_0, hx166_1, hx166_2, hx166_3, hl166_3, hi166_3⟩ := at_T46 (Kd.V_reads' HO_0.out).2.2 x6_1 p166 q166; obtain rfl : ad162 = ad166 := (by injection e166); obtain ⟨ce166, hce166, hMe166, hcc166⟩ := Kd.V_get HO_0.out z46 x6_1 p166 (by first | exact q166 | exact of_decide_eq_true (by first | (with_reducible assumption) | assumption) | (have e_ := (Kd.V_reads' HO_0.out).1; omega)); obtain ⟨ua166_3, uc166_3, rfl, ul166_3, ge166_3⟩ := k46_openF hMe166; have hv166_3 := hcc166 3 _ rfl; rw [add_field _ _ 3 (by omega)] at hv166_3; replace hv166_3 := Option.some.inj (hv166_3.symm.trans hx166_3); injection hv166_3 with hva_ hvn_ hvc_; rw [hva_] at ge166_3; rw [hvc_] at ul166_3; have HL166_3 := Aside0.mk (show Kd.V k70 70 _ w.heap.size _ _ ((rd_T46 l0 x6_1).f3) from Kd.V_mk ul166_3 ge166_3); clear hva_ hvn_ hvc_ ge166_3 ul166_3; clear hcc166 hce166; have HR166_3 := Aside0.mk hi166_3; have HC166_3 := Aside0.mk hl166_3; clear hi166_3 hl166_3; replace p166 := eq_true p166; replace q166 := eq_true q166; have p167 : 0 ≤ (x6_1 : Int) := of_decide_eq_true (by first | (with_reducible assumption) | assumption); have q167 : x6_1 < (l0.length : Int) := of_decide_eq_true (by first | (with_reducible assumption) | assumption); obtain ⟨ad167, A167_3, c167_3, e167, hx167_0, hx167_1, hx167_2, hx167_3, hl167_3, hi167_3⟩ := at_T46 (Kd.V_reads' HO_0.out).2.2 x6_1 p167 q167; obtain rfl : ad162 = ad167 := (by injection e167); obtain ⟨ce167, hce167, hMe167, hcc167⟩ := Kd.V_get HO_0.out z46 x6_1 p167 (by first | exact q167 | exact of_decide_eq_true (by first | (with_reducible assumption) | assumption) | (have e_ := (Kd.V_reads' HO_0.out).1; omega)); obtain ⟨ua167_3, uc167_3, rfl, ul167_3, ge167_3⟩ := k46_openF hMe167; have hv167_3 := hcc167 3 _ rfl; rw [add_field _ _ 3 (by omega)] at hv167_3; replace hv167_3 := Option.some.inj (hv167_3.symm.trans hx167_3); injection hv167_3 with hva_ hvn_ hvc_; rw [hva_] at ge167_3; rw [hvc_] at ul167_3; have HL167_3 := Aside0.mk (show Kd.V k70 70 _ w.heap.size _ _ ((rd_T46 l0 x6_1).f3) from Kd.V_mk ul167_3 ge167_3); clear hva_ hvn_ hvc_ ge167_3 ul167_3; clear hcc167 hce167; have HR167_3 := Aside0.mk hi167_3; have HC167_3 := Aside0.mk hl167_3; clear hi167_3 hl167_3; replace p167 := eq_true p167; replace q167 := eq_true q167; have ea_ := Option.some.inj (hx166_3.symm.trans hx167_3); injection ea_ with ea_ en_ ec_; subst ea_; subst ec_; clear en_))
              repeat (go_quiet (first | ((with_reducible refine gate_builtin (b := .append) (xs := #[.tmp 18, .tmp 23]) rfl ?_); at_builtin; refine Kd.N_append k71 (w0 := w) w.heap.size rfl (.tmp 18) (.tmp 23) 27 71 (.agg #[(.int .i64 0), (.string ⟨#[]⟩), (.string ⟨#[]⟩), (.slice none 0 0)]) 64 rfl Tryz.underlying27 info71 rfl (by decide) (by omega) u4 x4_1 (⟨(rd_T46 l0 x6_1).f0, (rd_T46 l0 x6_1).f1, (rd_T46 l0 x6_1).f2, (rd_T46 l0 x6_1).f3⟩ : S71) [.int .i64 ((rd_T46 l0 x6_1).f0), .string ((rd_T46 l0 x6_1).f1), .string ((rd_T46 l0 x6_1).f2), .slice A162_3 ((rd_T46 l0 x6_1).f3).length c162_3] (fun k_ => (P0_ k_ ∨ w.heap.size ≤ k_)) (fun k_ => ((fun k_ => (P0_ k_ ∨ w.heap.size ≤ k_))) k_ ∧ some k_ ≠ (u4 : Value).ownBlock) rfl rfl ?aP (fun _ hk => hk) ?aF ?aO ?aB ?aS ?aL ?_; (case aP => exact (k71_mkF _ _ (⟨(rd_T46 l0 x6_1).f0, (rd_T46 l0 x6_1).f1, (rd_T46 l0 x6_1).f2, (rd_T46 l0 x6_1).f3⟩ : S71) (Kd.V_reads' (Kd.V_mono (ok' := (fun k_ => ((fun k_ => (P0_ k_ ∨ w.heap.size ≤ k_))) k_ ∧ some k_ ≠ (u4 : Value).ownBlock)) (HL162_3.out) (fun k_ hk => ⟨hk.1, hk.2⟩))).2.1 (Kd.V_F (Kd.V_mono (ok' := (fun k_ => ((fun k_ => (P0_ k_ ∨ w.heap.size ≤ k_))) k_ ∧ some k_ ≠ (u4 : Value).ownBlock)) (HL162_3.out) (fun k_ hk => ⟨hk.1, hk.2⟩))))); (case aB => exact (by repeat (first | (with_reducible first | exact HB.out | apply below_alloc | apply pw_below_drewN | apply below_drew1) | exact HB.out))); (case aF => exact (fun k_ hk => (.inr (Nat.le_trans (below_size (by repeat (first | (with_reducible first | exact HB.out | apply below_alloc | apply pw_below_drewN | apply below_drew1) | exact HB.out))) hk)))); (case aO => exact (by (with_reducible repeat (first | apply Kd.N_alloc | apply Kd.N_drewN | apply Kd.N_drew)); exact HO_4.out)); (case aS => exact (below_size (by repeat (first | (with_reducible first | exact HB.out | apply below_alloc | apply pw_below_drewN | apply below_drew1) | exact HB.out)))); (case aL => have := LMc7.out; omega); intro v164 w8 ho hb hg hat; rw [← Ny163.out] at ho; have n0_ := Aside0.mk (Kd.V_afterv (ok := (fun k_ => (P0_ k_ ∨ w.heap.size ≤ k_))) (by (with_reducible repeat (first | apply Kd.V_alloc | apply Kd.V_drewN | apply Kd.V_drew)); exact HO_0.out) hg hat); have n1_ := Aside0.mk (Kd.V_afterv (ok := (fun k_ => (P0_ k_ ∨ w.heap.size ≤ k_))) (by (with_reducible repeat (first | apply Kd.V_alloc | apply Kd.V_drewN | apply Kd.V_drew)); exact HL162_3.out) hg hat); have n2_ := Aside0.mk (hb); have n3_ := Aside0.mk (ho); clear HO_0; clear HL162_3; clear HB; clear HO_4; have HO_0 := n0_; have HL162_3 := n1_; have HB := n2_; have HO165 := n3_; clear n0_ n1_ n2_ n3_; clear ho hb hg hat; have p166 : 0 ≤ (x6_1 : Int) := of_decide_eq_true (by first | (with_reducible assumption) | assumption); have q166 : x6_1 < (l0.length : Int) := of_decide_eq_true (by first | (with_reducible assumption) | assumption); obtain ⟨ad166, A166_3, c166_3, e166, hx166_0, hx166_1, hx166_2, hx166_3, hl166_3, hi166_3⟩ := at_T46 (Kd.V_reads' HO_0.out).2.2 x6_1 p166 q166; obtain rfl : ad162 = ad166 := (by injection e166); obtain ⟨ce166, hce166, hMe166, hcc166⟩ := Kd.V_get HO_0.out z46 x6_1 p166 (by first | exact q166 | exact of_decide_eq_true (by first | (with_reducible assumption) | assumption) | (have e_ := (Kd.V_reads' HO_0.out).1; omega)); obtain ⟨ua166_3, uc166_3, rfl, ul166_3, ge166_3⟩ := k46_openF hMe166; have hv166_3 := hcc166 3 _ rfl; rw [add_field _ _ 3 (by omega)] at hv166_3; replace hv166_3 := Option.some.inj (hv166_3.symm.trans hx166_3); injection hv166_3 with hva_ hvn_ hvc_; rw [hva_] at ge166_3; rw [hvc_] at ul166_3; have HL166_3 := Aside0.mk (show Kd.V k70 70 _ w.heap.size _ _ ((rd_T46 l0 x6_1).f3) from Kd.V_mk ul166_3 ge166_3); clear hva_ hvn_ hvc_ ge166_3 ul166_3; clear hcc166 hce166; have HR166_3 := Aside0.mk hi166_3; have HC166_3 := Aside0.mk hl166_3; clear hi166_3 hl166_3; replace p166 := eq_true p166; replace q166 := eq_true q166; have p167 : 0 ≤ (x6_1 : Int) := of_decide_eq_true (by first | (with_reducible assumption) | assumption); have q167 : x6_1 < (l0.length : Int) := of_decide_eq_true (by first | (with_reducible assumption) | assumption); obtain ⟨ad167, A167_3, c167_3, e167, hx167_0, hx167_1, hx167_2, hx167_3, hl167_3, hi167_3⟩ := at_T46 (Kd.V_reads' HO_0.out).2.2 x6_1 p167 q167; obtain rfl : ad162 = ad167 := (by injection e167); obtain ⟨ce167, hce167, hMe167, hcc167⟩ := Kd.V_get HO_0.out z46 x6_1 p167 (by first | exact q167 | exact of_decide_eq_true (by first | (with_reducible assumption) | assumption) | (have e_ := (Kd.V_reads' HO_0.out).1; omega)); obtain ⟨ua167_3, uc167_3, rfl, ul167_3, ge167_3⟩ := k46_openF hMe167; have hv167_3 := hcc167 3 _ rfl; rw [add_field _ _ 3 (by omega)] at hv167_3; replace hv167_3 := Option.some.inj (hv167_3.symm.trans hx167_3); injection hv167_3 with hva_ hvn_ hvc_; rw [hva_] at ge167_3; rw [hvc_] at ul167_3; have HL167_3 := Aside0.mk (show Kd.V k70 70 _ w.heap.size _ _ ((rd_T46 l0 x6_1).f3) from Kd.V_mk ul167_3 ge167_3); clear hva_ hvn_ hvc_ ge167_3 ul167_3; clear hcc167 hce167; have HR167_3 := Aside0.mk hi167_3; have HC167_3 := Aside0.mk hl167_3; clear hi167_3 hl167_3; replace p167 := eq_true p167; replace q167 := eq_true q167; have ea_ := Option.some.inj (hx166_3.symm.trans hx167_3); injection ea_ with ea_ en_ ec_; subst ea_; subst ec_; clear en_)); try go_wp2_with (first | ((with_reducible refine gate_builtin (b := .append) (xs := #[.tmp 18, .tmp 23]) rfl ?_); at_builtin; refine Kd.N_append k71 (w0 := w) w.heap.size rfl (.tmp 18) (.tmp 23) 27 71 (.agg #[(.int .i64 0), (.string ⟨#[]⟩), (.string ⟨#[]⟩), (.slice none 0 0)]) 64 rfl Tryz.underlying27 info71 rfl (by decide) (by omega) u4 x4_1 (⟨(rd_T46 l0 x6_1).f0, (rd_T46 l0 x6_1).f1, (rd_T46 l0 x6_1).f2, (rd_T46 l0 x6_1).f3⟩ : S71) [.int .i64 ((rd_T46 l0 x6_1).f0), .string ((rd_T46 l0 x6_1).f1), .string ((rd_T46 l0 x6_1).f2), .slice A162_3 ((rd_T46 l0 x6_1).f3).length c162_3] (fun k_ => (P0_ k_ ∨ w.heap.size ≤ k_)) (fun k_ => ((fun k_ => (P0_ k_ ∨ w.heap.size ≤ k_))) k_ ∧ some k_ ≠ (u4 : Value).ownBlock) rfl rfl ?aP (fun _ hk => hk) ?aF ?aO ?aB ?aS ?aL ?_; (case aP => exact (k71_mkF _ _ (⟨(rd_T46 l0 x6_1).f0, (rd_T46 l0 x6_1).f1, (rd_T46 l0 x6_1).f2, (rd_T46 l0 x6_1).f3⟩ : S71) (Kd.V_reads' (Kd.V_mono (ok' := (fun k_ => ((fun k_ => (P0_ k_ ∨ w.heap.size ≤ k_))) k_ ∧ some k_ ≠ (u4 : Value).ownBlock)) (HL162_3.out) (fun k_ hk => ⟨hk.1, hk.2⟩))).2.1 (Kd.V_F (Kd.V_mono (ok' := (fun k_ => ((fun k_ => (P0_ k_ ∨ w.heap.size ≤ k_))) k_ ∧ some k_ ≠ (u4 : Value).ownBlock)) (HL162_3.out) (fun k_ hk => ⟨hk.1, hk.2⟩))))); (case aB => exact (by repeat (first | (with_reducible first | exact HB.out | apply below_alloc | apply pw_below_drewN | apply below_drew1) | exact HB.out))); (case aF => exact (fun k_ hk => (.inr (Nat.le_trans (below_size (by repeat (first | (with_reducible first | exact HB.out | apply below_alloc | apply pw_below_drewN | apply below_drew1) | exact HB.out))) hk)))); (case aO => exact (by (with_reducible repeat (first | apply Kd.N_alloc | apply Kd.N_drewN | apply Kd.N_drew)); exact HO_4.out)); (case aS => exact (below_size (by repeat (first | (with_reducible first | exact HB.out | apply below_alloc | apply pw_below_drewN | apply below_drew1) | exact HB.out)))); (case aL => have := LMc7.out; omega); intro v164 w8 ho hb hg hat; rw [← Ny163.out] at ho; have n0_ := Aside0.mk (Kd.V_afterv (ok := (fun k_ => (P0_ k_ ∨ w.heap.size ≤ k_))) (by (with_reducible repeat (first | apply Kd.V_alloc | apply Kd.V_drewN | apply Kd.V_drew)); exact HO_0.out) hg hat); have n1_ := Aside0.mk (Kd.V_afterv (ok := (fun k_ => (P0_ k_ ∨ w.heap.size ≤ k_))) (by (with_reducible repeat (first | apply Kd.V_alloc | apply Kd.V_drewN | apply Kd.V_drew)); exact HL162_3.out) hg hat); have n2_ := Aside0.mk (hb); have n3_ := Aside0.mk (ho); clear HO_0; clear HL162_3; clear HB; clear HO_4; have HO_0 := n0_; have HL162_3 := n1_; have HB := n2_; have HO165 := n3_; clear n0_ n1_ n2_ n3_; clear ho hb hg hat; have p166 : 0 ≤ (x6_1 : Int) := of_decide_eq_true (by first | (with_reducible assumption) | assumption); have q166 : x6_1 < (l0.length : Int) := of_decide_eq_true (by first | (with_reducible assumption) | assumption); obtain ⟨ad166, A166_3, c166_3, e166, hx166_0, hx166_1, hx166_2, hx166_3, hl166_3, hi166_3⟩ := at_T46 (Kd.V_reads' HO_0.out).2.2 x6_1 p166 q166; obtain rfl : ad162 = ad166 := (by injection e166); obtain ⟨ce166, hce166, hMe166, hcc166⟩ := Kd.V_get HO_0.out z46 x6_1 p166 (by first | exact q166 | exact of_decide_eq_true (by first | (with_reducible assumption) | assumption) | (have e_ := (Kd.V_reads' HO_0.out).1; omega)); obtain ⟨ua166_3, uc166_3, rfl, ul166_3, ge166_3⟩ := k46_openF hMe166; have hv166_3 := hcc166 3 _ rfl; rw [add_field _ _ 3 (by omega)] at hv166_3; replace hv166_3 := Option.some.inj (hv166_3.symm.trans hx166_3); injection hv166_3 with hva_ hvn_ hvc_; rw [hva_] at ge166_3; rw [hvc_] at ul166_3; have HL166_3 := Aside0.mk (show Kd.V k70 70 _ w.heap.size _ _ ((rd_T46 l0 x6_1).f3) from Kd.V_mk ul166_3 ge166_3); clear hva_ hvn_ hvc_ ge166_3 ul166_3; clear hcc166 hce166; have HR166_3 := Aside0.mk hi166_3; have HC166_3 := Aside0.mk hl166_3; clear hi166_3 hl166_3; replace p166 := eq_true p166; replace q166 := eq_true q166; have p167 : 0 ≤ (x6_1 : Int) := of_decide_eq_true (by first | (with_reducible assumption) | assumption); have q167 : x6_1 < (l0.length : Int) := of_decide_eq_true (by first | (with_reducible assumption) | assumption); obtain ⟨ad167, A167_3, c167_3, e167, hx167_0, hx167_1, hx167_2, hx167_3, hl167_3, hi167_3⟩ := at_T46 (Kd.V_reads' HO_0.out).2.2 x6_1 p167 q167; obtain rfl : ad162 = ad167 := (by injection e167); obtain ⟨ce167, hce167, hMe167, hcc167⟩ := Kd.V_get HO_0.out z46 x6_1 p167 (by first | exact q167 | exact of_decide_eq_true (by first | (with_reducible assumption) | assumption) | (have e_ := (Kd.V_reads' HO_0.out).1; omega)); obtain ⟨ua167_3, uc167_3, rfl, ul167_3, ge167_3⟩ := k46_openF hMe167; have hv167_3 := hcc167 3 _ rfl; rw [add_field _ _ 3 (by omega)] at hv167_3; replace hv167_3 := Option.some.inj (hv167_3.symm.trans hx167_3); injection hv167_3 with hva_ hvn_ hvc_; rw [hva_] at ge167_3; rw [hvc_] at ul167_3; have HL167_3 := Aside0.mk (show Kd.V k70 70 _ w.heap.size _ _ ((rd_T46 l0 x6_1).f3) from Kd.V_mk ul167_3 ge167_3); clear hva_ hvn_ hvc_ ge167_3 ul167_3; clear hcc167 hce167; have HR167_3 := Aside0.mk hi167_3; have HC167_3 := Aside0.mk hl167_3; clear hi167_3 hl167_3; replace p167 := eq_true p167; replace q167 := eq_true q167; have ea_ := Option.some.inj (hx166_3.symm.trans hx167_3); injection ea_ with ea_ en_ ec_; subst ea_; subst ec_; clear en_)))
              go_roundg k1
              case measure => have := HK1.out; omega
              case rel => exact ⟨(y163), (wrap64 (x5_1 + (wrap64 ((wrap64 (1 + (((rd_T46 l0 x6_1).f2).size : Int))) + (wrap64 (30 * (((rd_T46 l0 x6_1).f3).length : Int))))))), (wrap64 (x6_1 + 1)), (by first | rfl | (simp; done) | (simp [*]; done)), (by first | rfl | (simp; done) | (simp [*]; done)), H', ⟨by have := HK1.out; omega⟩, ⟨by (with_reducible repeat (first | apply Kd.V_alloc | apply Kd.V_drewN | apply Kd.V_drew)); exact HO_0.out⟩, ⟨by (with_reducible repeat (first | apply Kd.N_alloc | apply Kd.N_drewN | apply Kd.N_drew)); exact HO165.out⟩, ⟨by repeat (first | (with_reducible first | exact HB.out | apply below_alloc | apply pw_below_drewN | apply below_drew1) | exact HB.out)⟩⟩
            · rw [if_neg c7] at H
              exact absurd H (by simp)
          · rw [if_neg c6] at H
            exact absurd H (by simp)
        · rw [if_neg c5] at H
          have c5b0 : decide (x5_1 ≤ 20000) = false := decide_eq_false c5
          clear c5
          simp only [Option.some.injEq, Prod.mk.injEq] at H
          obtain ⟨rfl, rfl⟩ := H
          go_wp2
          repeat (go_quiet (fail); try go_wp2)
          go_ret2
          exact ⟨_, by first | rfl | (simp [errW_none, errW_some] <;> rfl) | (simp [*, errW_none, errW_some] <;> rfl), by (with_reducible repeat (first | apply Kd.N_alloc | apply Kd.N_drewN | apply Kd.N_drew)); exact HO_4.out, by repeat (first | (with_reducible first | exact HB.out | apply below_alloc | apply pw_below_drewN | apply below_drew1) | exact HB.out)⟩
      · rw [if_neg c4] at H
        have c4b0 : decide (x6_1 < (l0.length : Int)) = false := decide_eq_false c4
        clear c4
        simp only [Option.some.injEq, Prod.mk.injEq] at H
        obtain ⟨rfl, rfl⟩ := H
        go_wp2
        repeat (go_quiet (fail); try go_wp2)
        go_ret2
        exact ⟨_, by first | rfl | (simp [errW_none, errW_some] <;> rfl) | (simp [*, errW_none, errW_some] <;> rfl), by (with_reducible repeat (first | apply Kd.N_alloc | apply Kd.N_drewN | apply Kd.N_drew)); exact HO_4.out, by repeat (first | (with_reducible first | exact HB.out | apply below_alloc | apply pw_below_drewN | apply below_drew1) | exact HB.out)⟩
end Go.Proofs.YtkjgnkmnngaioaaGreat.Q
