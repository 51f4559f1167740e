/- LineNarrow: more room never makes more lines: the plain law; and the call of the statement. -/
import Derived.Test.YthkipbnigokcfaaLnA
import Derived.Test.YthkipbnigokcfaaQx7
import Derived.Test.YthkipbnigokcfaaOps
namespace Go.Proofs.Ythkipbnigokcfaa.Q
open Go.RowKit Go.IntWalk Go.Proofs.Ythkipbnigokcfaa.Mem Go.Proofs.YthkipbnigokcfaaW.PrintWords Go.Proofs.YthkipbnigokcfaaW.PrintLast Go.Proofs.YthkipbnigokcfaaW.PrintMore
set_option linter.unusedVariables false
set_option linter.unusedSimpArgs false

def fillR (l : List Pc) (room align : Int) : List Pl × Int × Bool := if inB room = true ∧ l.any badP = false then ((fillS l room align).out, (fillS l room align).top, !(fillS l room align).rough) else ([], 0, false)
theorem fill_some (l : List Pc) (room align : Int) (h : ¬ (l.length : Int) > 200) : line_Fill.f l room align = some (fillR l room align) := by
  unfold line_Fill.f fillR
  rw [if_pos (by omega)]
  split <;> rfl
theorem rd_gt (s : St) (k : Nat) : rd_T30 s.out (k : Int) = gt s k := by unfold rd_T30 gt; rw [Int.toNat_natCast]
theorem rd_pc (l : List Pc) (k : Nat) : rd_T32 l (k : Int) = pc l k := by unfold rd_T32 pc; rw [Int.toNat_natCast]

/-- The lines' numbers. -/
def lns (s : St) : List Int := s.out.map (·.f1)
theorem put_facts : ∀ (r : List Pc) (s : St) (i : Int), s.op ≤ s.out.length → (s.put i r).wide = aft s.gap s.wide r ∧ (s.put i r).many = s.many ∧ (s.put i r).op = s.op ∧ lns (s.put i r) = lns s ++ List.replicate r.length s.many
  | [], s, i, h => ⟨rfl, rfl, rfl, by simp [St.put]⟩
  | p :: r, s, i, h => by
    have h1 : (s.one i p).op ≤ (s.one i p).out.length := by show s.op ≤ (s.out ++ _).length; simp; omega
    obtain ⟨a1, a2, a3, a4⟩ := put_facts r (s.one i p) (i + 1) h1
    rw [one_gap h] at a1
    refine ⟨a1, a2, a3, ?_⟩
    show lns ((s.one i p).put (i + 1) r) = _
    rw [a4]
    simp [lns, St.one, List.replicate_succ]
theorem fin_lns {s : St} {room align : Int} : lns (s.fin room align) = lns s := by
  unfold St.fin lns
  split
  · rfl
  · show (s.out.take s.op ++ (s.out.drop s.op).map _).map _ = _
    rw [List.map_append, List.map_map]
    rw [← List.take_append_drop s.op s.out]
    simp only [List.map_append]
    congr 1
    · simp
    · rw [List.take_append_drop]; apply List.map_congr_left; intro x _; rfl
theorem aft_mono : ∀ (r : List Pc) (g : Bool) (n n' : Int), In n → In n' → n ≤ n' → (∀ p ∈ r, okP p) → aft g n r ≤ aft g n' r
  | [], _, _, _, _, _, h, _ => h
  | p :: r, g, n, n', h1, h2, h, hp => by
    have hq := hp p (by simp)
    show aft true _ r ≤ aft true _ r
    cases g
    · exact aft_mono r true _ _ (addV_ok h1 hq.1) (addV_ok h2 hq.1) (addV_mono h1 hq.1 h2 hq.1 h (Int.le_refl _)) (fun q hm => hp q (by simp [hm]))
    · exact aft_mono r true _ _ (addV_ok (addV_ok h1 hq.2.2) hq.1) (addV_ok (addV_ok h2 hq.2.2) hq.1) (addV_mono (addV_ok h1 hq.2.2) hq.1 (addV_ok h2 hq.2.2) hq.1 (addV_mono h1 hq.2.2 h2 hq.2.2 h (Int.le_refl _)) (Int.le_refl _)) (fun q hm => hp q (by simp [hm]))
theorem in0 : In 0 := by unfold In; decide
theorem aft_start : ∀ (r : List Pc) (n : Int), In n → (∀ p ∈ r, okP p) → aft false 0 r ≤ aft true n r
  | [], n, h, _ => h.1
  | p :: r, n, h, hp => by
    have hq := hp p (by simp)
    show aft true (addV 0 p.f1) r ≤ aft true (addV (addV n p.f3) p.f1) r
    exact aft_mono r true _ _ (addV_ok in0 hq.1) (addV_ok (addV_ok h hq.2.2) hq.1) (addV_mono in0 hq.1 (addV_ok h hq.2.2) hq.1 (addV_ok h hq.2.2).1 (Int.le_refl _)) (fun q hm => hp q (by simp [hm]))
structure RelN (n : Nat) (sa sb : St) : Prop where
  fa : Fine sa n
  fb : Fine sb n
  gap : sa.gap = sb.gap
  rel : sb.many < sa.many ∨ sb.many = sa.many ∧ sb.wide ≤ sa.wide
  ln : ∀ k, (lns sb).getD k 0 ≤ (lns sa).getD k 0
theorem lns_len (s : St) : (lns s).length = s.out.length := by simp [lns]
theorem getD_app {u : List Int} {m : Int} {j k : Nat} : (u ++ List.replicate j m).getD k 0 = if k < u.length then u.getD k 0 else if k < u.length + j then m else 0 := by
  rw [List.getD_eq_getElem?_getD]
  by_cases h1 : k < u.length
  · rw [if_pos h1, List.getElem?_append_left h1, List.getD_eq_getElem?_getD]
  · rw [if_neg h1, List.getElem?_append_right (by omega), List.getElem?_replicate]
    by_cases h2 : k < u.length + j
    · rw [if_pos h2, if_pos (by omega)]; rfl
    · rw [if_neg h2, if_neg (by omega)]; rfl
theorem put_rel {n : Nat} {sa sb : St} {i : Int} {r : List Pc} (fa : Fine sa n) (fb : Fine sb n) (hr : ∀ p ∈ r, okP p) (h0 : 0 < r.length) (hw : sb.many < sa.many ∨ sb.many = sa.many ∧ sb.after r ≤ sa.after r) (hl : ∀ k, (lns sb).getD k 0 ≤ (lns sa).getD k 0) :
    RelN (n + r.length) (sa.put i r) (sb.put i r) := by
  have ha : sa.op ≤ sa.out.length := by rw [fa.len]; exact fa.op
  have hb : sb.op ≤ sb.out.length := by rw [fb.len]; exact fb.op
  obtain ⟨a1, a2, a3, a4⟩ := put_facts r sa i ha
  obtain ⟨b1, b2, b3, b4⟩ := put_facts r sb i hb
  have fa' := put_fine r (i := i) fa hr
  have fb' := put_fine r (i := i) fb hr
  have ga : (sa.put i r).gap = true := by unfold St.gap; rw [a3, fa'.len]; exact decide_eq_true (by have := fa.op; omega)
  have gb : (sb.put i r).gap = true := by unfold St.gap; rw [b3, fb'.len]; exact decide_eq_true (by have := fb.op; omega)
  refine ⟨fa', fb', by rw [ga, gb], ?_, fun k => ?_⟩
  · rw [a1, b1, a2, b2]; exact hw
  · rw [a4, b4, getD_app, getD_app, lns_len, lns_len, fa.len, fb.len]
    have := hl k
    have hm : sb.many ≤ sa.many := by rcases hw with h | h <;> omega
    split
    · exact this
    · split
      · exact hm
      · exact Int.le_refl _
theorem row_rel {n : Nat} {sa sb : St} {a b i : Int} {r : List Pc} (h : RelN n sa sb) (hra : In a) (hrb : In b) (hab : a ≤ b) (hr : ∀ p ∈ r, okP p) (h0 : 0 < r.length) : RelN (n + r.length) (sa.row a 0 i r) (sb.row b 0 i r) := by
  have hgap : (sa.op < sa.out.length) ↔ (sb.op < sb.out.length) := by
    have := h.gap
    unfold St.gap at this
    constructor
    · intro hx; rw [decide_eq_true hx] at this; exact of_decide_eq_true this.symm
    · intro hx; rw [decide_eq_true hx] at this; exact of_decide_eq_true this
  have wa := h.fa.wide
  have wb := h.fb.wide
  have hal : aft sb.gap sb.wide r = sb.after r := rfl
  have haa : aft sa.gap sa.wide r = sa.after r := rfl
  unfold St.row
  by_cases hg : sb.op < sb.out.length
  · have hg' := hgap.2 hg
    have gt : sb.gap = true := decide_eq_true hg
    have gt' : sa.gap = true := decide_eq_true hg'
    obtain ⟨ea1, ea2, ea3, -⟩ := fin_eq (s := sa) (room := a) (align := 0) hg'
    obtain ⟨eb1, eb2, eb3, -⟩ := fin_eq (s := sb) (room := b) (align := 0) hg
    have fa' := fin_fine (room := a) (align := 0) h.fa hra
    have fb' := fin_fine (room := b) (align := 0) h.fb hrb
    have gfa : (sa.fin a 0).gap = false := by unfold St.gap; rw [ea1, fa'.len, h.fa.len]; exact decide_eq_false (by omega)
    have gfb : (sb.fin b 0).gap = false := by unfold St.gap; rw [eb1, fb'.len, h.fb.len]; exact decide_eq_false (by omega)
    have afa : (sa.fin a 0).after r = aft false 0 r := by show aft (sa.fin a 0).gap (sa.fin a 0).wide r = _; rw [gfa, ea3]
    have afb : (sb.fin b 0).after r = aft false 0 r := by show aft (sb.fin b 0).gap (sb.fin b 0).wide r = _; rw [gfb, eb3]
    have sta : aft false 0 r ≤ sa.after r := by rw [← haa, gt']; exact aft_start r _ wa hr
    by_cases hb1 : sb.after r > b
    · by_cases ha1 : sa.after r > a
      · rw [if_pos ⟨ha1, hg'⟩, if_pos ⟨hb1, hg⟩]
        refine put_rel fa' fb' hr h0 ?_ (fun k => by rw [fin_lns, fin_lns]; exact h.ln k)
        rw [ea2, eb2, afa, afb]
        rcases h.rel with h1 | h1
        · exact .inl (by omega)
        · exact .inr ⟨by omega, Int.le_refl _⟩
      · rw [if_neg (fun h => ha1 h.1), if_pos ⟨hb1, hg⟩]
        refine put_rel h.fa fb' hr h0 ?_ (fun k => by rw [fin_lns]; exact h.ln k)
        rw [eb2, afb]
        rcases h.rel with h1 | ⟨h1, h2⟩
        · rcases Int.lt_or_le (sb.many + 1) sa.many with h3 | h3
          · exact .inl h3
          · exact .inr ⟨by omega, sta⟩
        · have : sb.after r ≤ sa.after r := by rw [← hal, ← haa, gt, gt']; exact aft_mono r true _ _ wb wa h2 hr
          omega
    · by_cases ha1 : sa.after r > a
      · rw [if_pos ⟨ha1, hg'⟩, if_neg (fun h => hb1 h.1)]
        refine put_rel fa' h.fb hr h0 ?_ (fun k => by rw [fin_lns]; exact h.ln k)
        rw [ea2]
        rcases h.rel with h1 | h1
        · exact .inl (by omega)
        · exact .inl (by omega)
      · rw [if_neg (fun h => ha1 h.1), if_neg (fun h => hb1 h.1)]
        refine put_rel h.fa h.fb hr h0 ?_ h.ln
        rcases h.rel with h1 | ⟨h1, h2⟩
        · exact .inl h1
        · exact .inr ⟨h1, by rw [← hal, ← haa, gt, gt']; exact aft_mono r true _ _ wb wa h2 hr⟩
  · have hg' : ¬ sa.op < sa.out.length := fun hx => hg (hgap.1 hx)
    rw [if_neg (fun h => hg' h.2), if_neg (fun h => hg h.2)]
    refine put_rel h.fa h.fb hr h0 ?_ h.ln
    rcases h.rel with h1 | ⟨h1, h2⟩
    · exact .inl h1
    · refine .inr ⟨h1, ?_⟩
      rw [← hal, ← haa, h.gap]
      exact aft_mono r _ _ _ wb wa h2 hr
theorem rows_rel {a b : Int} (hra : In a) (hrb : In b) (hab : a ≤ b) : ∀ (N n : Nat) (sa sb : St) (i : Int) (q : List Pc), q.length ≤ N → RelN n sa sb → (∀ p ∈ q, okP p) → RelN (n + q.length) (St.rows a 0 N sa i q) (St.rows b 0 N sb i q)
  | 0, n, sa, sb, i, q, hq, h, _ => by
    obtain rfl : q = [] := List.length_eq_zero_iff.1 (by omega)
    exact h
  | N + 1, n, sa, sb, i, [], _, h, _ => h
  | N + 1, n, sa, sb, i, p :: r, hq, h, hp => by
    have hrl := rest_le r
    have hq' : r.length ≤ N := by simpa using hq
    have hpr : ∀ x ∈ p :: r.take (rest r), okP x := fun x hx => hp x (by
      rcases List.mem_cons.1 hx with rfl | hx
      · simp
      · exact List.mem_cons_of_mem _ (List.mem_of_mem_take hx))
    have h1 := row_rel (i := i) h hra hrb hab hpr (by simp)
    have h2 := rows_rel hra hrb hab N _ _ _ (i + 1 + rest r) (r.drop (rest r)) (by simp; omega) h1 (fun x hx => hp x (List.mem_cons_of_mem _ (List.mem_of_mem_drop hx)))
    have e : n + (p :: r.take (rest r)).length + (r.drop (rest r)).length = n + (p :: r).length := by simp; omega
    rw [e] at h2
    exact h2
theorem fill_rel {l : List Pc} {a b : Int} (hra : In a) (hrb : In b) (hab : a ≤ b) (hp : ∀ p ∈ l, okP p) :
    (fillS l a 0).out.length = l.length ∧ (fillS l b 0).out.length = l.length ∧ ∀ k, (gt (fillS l b 0) k).f1 ≤ (gt (fillS l a 0) k).f1 := by
  have h := rows_rel hra hrb hab l.length 0 st0 st0 0 l (Nat.le_refl _) ⟨st0_fine, st0_fine, rfl, .inr ⟨rfl, Int.le_refl _⟩, fun k => Int.le_refl _⟩ hp
  rw [Nat.zero_add] at h
  have fa' := fin_fine (room := a) (align := 0) h.fa hra
  have fb' := fin_fine (room := b) (align := 0) h.fb hrb
  refine ⟨fa'.len, fb'.len, fun k => ?_⟩
  have hk := h.ln k
  have e : ∀ s : St, (gt s k).f1 = (lns s).getD k 0 := fun s => by
    unfold gt lns
    rw [List.getD_eq_getElem?_getD, List.getD_eq_getElem?_getD, List.getElem?_map]
    cases s.out[k]? <;> rfl
  rw [e, e]
  unfold fillS
  rw [fin_lns, fin_lns]
  exact hk
theorem narrow_l0 (sa sb : St) (n : Nat) (hn : n ≤ 200) (ha : sa.out.length = n) (hb : sb.out.length = n) (h : ∀ k, (gt sb k).f1 ≤ (gt sa k).f1) : ∀ (d j : Nat), n - j ≤ d → j ≤ n → Ev (fun k => scrimlaw16_LineNarrow.l0 k sa.out sb.out (n : Int) (j : Int)) true
  | 0, j, hd, hj => by
    obtain rfl : j = n := by omega
    exact Ev.step (f := fun _ => some true) (fun k => by rw [scrimlaw16_LineNarrow.l0, if_neg (by omega)]) (Ev.now _)
  | d + 1, j, hd, hj => by
    by_cases hlt : j < n
    · refine Ev.step (f := fun k => scrimlaw16_LineNarrow.l0 k sa.out sb.out (n : Int) ((j + 1 : Nat) : Int)) (fun k => ?_) (narrow_l0 sa sb n hn ha hb h d (j + 1) (by omega) (by omega))
      rw [scrimlaw16_LineNarrow.l0, if_pos (by omega), if_pos (by omega), if_pos (by omega), if_pos (by omega), rd_gt, rd_gt, if_neg (by have := h j; omega), wrap64_in _ (by omega)]
      rfl
    · obtain rfl : j = n := by omega
      exact Ev.step (f := fun _ => some true) (fun k => by rw [scrimlaw16_LineNarrow.l0, if_neg (by omega)]) (Ev.now _)
theorem narrow_j1t (l : List Pc) (x y : List Pl) : Ev (fun k => scrimlaw16_LineNarrow.j1 k l x y true) true := Ev.step (f := fun _ => some true) (fun k => by rw [scrimlaw16_LineNarrow.j1, if_pos rfl]) (Ev.now _)
theorem narrow_true (l : List Pc) (a b : Int) : Ev (fun k => scrimlaw16_LineNarrow.f k l a b) true := by
  unfold scrimlaw16_LineNarrow.f scrimlaw16_awake.f
  simp only [Option.bind_some, if_true]
  have j0t : Ev (fun k => scrimlaw16_LineNarrow.j0 k l a b true) true := Ev.step (f := fun _ => some true) (fun k => by rw [scrimlaw16_LineNarrow.j0, if_pos rfl]) (Ev.now _)
  by_cases h1 : (l.length : Int) > 200
  · simp only [if_pos h1]; exact j0t
  · simp only [if_neg h1]
    by_cases h2 : a > b
    · rw [decide_eq_true h2]; exact j0t
    · rw [decide_eq_false h2]
      by_cases h3 : ((fillR l a 0).1.length : Int) = 0
      · refine Ev.step (f := fun k => scrimlaw16_LineNarrow.j1 k l (fillR l a 0).1 (fillR l b 0).1 true) (fun k => ?_) (narrow_j1t _ _ _)
        rw [scrimlaw16_LineNarrow.j0, if_neg (by simp), fill_some l a 0 h1, fill_some l b 0 h1]
        simp only [Option.bind_some]
        rw [if_pos h3]
      · by_cases h4 : ((fillR l b 0).1.length : Int) = 0
        · refine Ev.step (f := fun k => scrimlaw16_LineNarrow.j1 k l (fillR l a 0).1 (fillR l b 0).1 true) (fun k => ?_) (narrow_j1t _ _ _)
          rw [scrimlaw16_LineNarrow.j0, if_neg (by simp), fill_some l a 0 h1, fill_some l b 0 h1]
          simp only [Option.bind_some]
          rw [if_neg h3, h4]
          rfl
        · have ga : inB a = true ∧ l.any badP = false := by
            by_cases h : inB a = true ∧ l.any badP = false
            · exact h
            · exact (h3 (by unfold fillR; rw [if_neg h]; rfl)).elim
          have gb : inB b = true ∧ l.any badP = false := by
            by_cases h : inB b = true ∧ l.any badP = false
            · exact h
            · exact (h4 (by unfold fillR; rw [if_neg h]; rfl)).elim
          obtain ⟨e1, e2, e3⟩ := fill_rel (inB_in ga.1) (inB_in gb.1) (by omega) (ok_of_any ga.2)
          have fa : (fillR l a 0).1 = (fillS l a 0).out := by unfold fillR; rw [if_pos ga]
          have fb : (fillR l b 0).1 = (fillS l b 0).out := by unfold fillR; rw [if_pos gb]
          have key := narrow_l0 (fillS l a 0) (fillS l b 0) l.length (by omega) e1 e2 e3 l.length 0 (by omega) (Nat.zero_le _)
          rw [fa] at h3
          rw [fb] at h4
          refine Ev.step (f := fun k => scrimlaw16_LineNarrow.j1 k l (fillS l a 0).out (fillS l b 0).out false) (fun k => ?_) ?_
          · rw [scrimlaw16_LineNarrow.j0, if_neg (by simp), fill_some l a 0 h1, fill_some l b 0 h1]
            simp only [Option.bind_some]
            rw [fa, fb, if_neg h3, show (((fillS l b 0).out.length : Int) == 0) = false from beq_eq_false_iff_ne.2 h4]
          · refine Ev.step (f := fun k => scrimlaw16_LineNarrow.j2 k (fillS l a 0).out (fillS l b 0).out false) (fun k => ?_) ?_
            · rw [scrimlaw16_LineNarrow.j1, if_neg (by simp), if_pos (by rw [e1]), show (((fillS l b 0).out.length : Int) != (l.length : Int)) = false from by rw [e2]; simp]
            · refine Ev.step (f := fun k => scrimlaw16_LineNarrow.l0 k (fillS l a 0).out (fillS l b 0).out (l.length : Int) ((0 : Nat) : Int)) (fun k => ?_) key
              rw [scrimlaw16_LineNarrow.j2, if_neg (by simp), e1]
              rfl
theorem narrow_walk (A0 : Option Addr) (c0 : Nat) (l0 : List S32) (a1 : Int) (a2 : Int) (w : World) (hr0 : Kd.C k32 w A0 l0.length l0) (hc0 : l0.length ≤ c0) (g0 : ((∀ y ∈ l0, (good32 y)) ∧ l0.length ≤ maxLen)) (g1 : ((Lit.int .i64 a1).wf = true)) (g2 : ((Lit.int .i64 a2).wf = true)) :
    Calls Try.prog 6 #[.slice A0 l0.length c0, .int .i64 a1, .int .i64 a2] w fun e w' => e = .returned (.bool true) ∧ Below w.heap.size w w' := by
  obtain ⟨k, hk⟩ := (narrow_true l0 a1 a2).rounds
  exact scrimlaw16_LineNarrow.calls k A0 c0 l0 a1 a2 true w hr0 hc0 hk
end Go.Proofs.Ythkipbnigokcfaa.Q
