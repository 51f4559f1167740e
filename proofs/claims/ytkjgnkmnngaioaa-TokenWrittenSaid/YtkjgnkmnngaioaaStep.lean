/- The trie of the four signs, key by key. -/
import Derived.Test.YtkjgnkmnngaioaaGenD
namespace Go.Proofs.Ytkjgnkmnngaioaa.Q
open Go.RowKit Go.IntWalk Go.Proofs.Ytkjgnkmnngaioaa.Mem
set_option linter.unusedVariables false
set_option linter.unusedSimpArgs false

abbrev pt (b : Nat) : Value := .pointer (some ⟨b, 0, none⟩)
abbrev nl : Value := .slice none 0 0
abbrev np : Value := .pointer none
abbrev TN : TypeId := 110
/-- The replacer's block, its root's table in the next one. -/
abbrev TG (g : Nat) (w : World) : Prop := Blk w g (GB (.slice (some ⟨g + 1, 0, none⟩) 11 11) 11 MP) 112
def TrS : Nat → Nat → World → Prop
  | 0, g, w => TG g w ∧ Blk w (g + 1) P11 107 ∧ w.heap.size = g + 2
  | 1, g, w => TG g w ∧ Blk w (g + 1) (P11.setIfInBounds 0 (pt (g + 2))) 107 ∧ Blk w (g + 2) (ND em 0 ⟨#[108, 116, 59]⟩ (pt (g + 3)) nl) TN ∧ Blk w (g + 3) (ND (vs 0) 8 em np nl) TN ∧ w.heap.size = g + 4
  | 2, g, w => TG g w ∧ Blk w (g + 1) (P11.setIfInBounds 0 (pt (g + 2))) 107 ∧ Blk w (g + 2) (ND em 0 em np (.slice (some ⟨g + 6, 0, none⟩) 11 11)) TN ∧ Blk w (g + 3) (ND (vs 0) 8 em np nl) TN ∧
      Blk w (g + 4) (ND em 0 ⟨#[116, 59]⟩ (pt (g + 3)) nl) TN ∧ Blk w (g + 5) (ND em 0 ⟨#[116, 59]⟩ (pt (g + 7)) nl) TN ∧ Blk w (g + 6) ((P11.setIfInBounds 4 (pt (g + 4))).setIfInBounds 3 (pt (g + 5))) 107 ∧ Blk w (g + 7) (ND (vs 1) 6 em np nl) TN ∧ w.heap.size = g + 8
  | 3, g, w => TG g w ∧ Blk w (g + 1) (P11.setIfInBounds 0 (pt (g + 2))) 107 ∧ Blk w (g + 2) (ND em 0 em np (.slice (some ⟨g + 6, 0, none⟩) 11 11)) TN ∧ Blk w (g + 3) (ND (vs 0) 8 em np nl) TN ∧
      Blk w (g + 4) (ND em 0 ⟨#[116, 59]⟩ (pt (g + 3)) nl) TN ∧ Blk w (g + 5) (ND em 0 ⟨#[116, 59]⟩ (pt (g + 7)) nl) TN ∧ Blk w (g + 6) (((P11.setIfInBounds 4 (pt (g + 4))).setIfInBounds 3 (pt (g + 5))).setIfInBounds 2 (pt (g + 8))) 107 ∧ Blk w (g + 7) (ND (vs 1) 6 em np nl) TN ∧
      Blk w (g + 8) (ND em 0 ⟨#[109, 112, 59]⟩ (pt (g + 9)) nl) TN ∧ Blk w (g + 9) (ND (vs 2) 4 em np nl) TN ∧ w.heap.size = g + 10
  | _, g, w => TG g w ∧ Blk w (g + 1) (P11.setIfInBounds 0 (pt (g + 2))) 107 ∧ Blk w (g + 2) (ND em 0 em np (.slice (some ⟨g + 6, 0, none⟩) 11 11)) TN ∧ Blk w (g + 3) (ND (vs 0) 8 em np nl) TN ∧
      Blk w (g + 4) (ND em 0 ⟨#[116, 59]⟩ (pt (g + 3)) nl) TN ∧ Blk w (g + 5) (ND em 0 ⟨#[116, 59]⟩ (pt (g + 7)) nl) TN ∧ Blk w (g + 6) ((((P11.setIfInBounds 4 (pt (g + 4))).setIfInBounds 3 (pt (g + 5))).setIfInBounds 2 (pt (g + 8))).setIfInBounds 8 (pt (g + 10))) 107 ∧ Blk w (g + 7) (ND (vs 1) 6 em np nl) TN ∧
      Blk w (g + 8) (ND em 0 ⟨#[109, 112, 59]⟩ (pt (g + 9)) nl) TN ∧ Blk w (g + 9) (ND (vs 2) 4 em np nl) TN ∧ Blk w (g + 10) (ND em 0 ⟨#[117, 111, 116, 59]⟩ (pt (g + 11)) nl) TN ∧ Blk w (g + 11) (ND (vs 3) 2 em np nl) TN ∧ w.heap.size = g + 12
theorem tg_map {g : Nat} {w : World} (h : TG g w) (c : Nat) (m : Nat) (hc : c < 256) (hm : MP.getD c 0 = (m : Int)) : w.cell? ⟨g, 6 + c, none⟩ = some (.int .u8 m) := by
  rw [h.cell, gb_map (by rw [mp_def, mp2_len]; exact hc), hm]
theorem mp_amp : MP.getD 38 0 = ((0 : Nat) : Int) := by decide +kernel
theorem mp_l : MP.getD 108 0 = ((4 : Nat) : Int) := by decide +kernel
theorem mp_g : MP.getD 103 0 = ((3 : Nat) : Int) := by decide +kernel
theorem mp_a : MP.getD 97 0 = ((2 : Nat) : Int) := by decide +kernel
theorem mp_q : MP.getD 113 0 = ((8 : Nat) : Int) := by decide +kernel
theorem TG.drew2 {g : Nat} {w : World} (h : TG g w) : TG g w.drew.drew := h

theorem hd2 (g : Nat) (w : World) : Below g w w.drew.drew := below_drewN (below_drewN (Below.refl g w) 1) 1
theorem step0 (g : Nat) (w : World) (h : TrS 0 g w) :
    Calls Try.prog 48 #[pt g, .string (ks 0), .string (vs 0), .int .i64 8, pt g] w fun e w' => e = .returned (.tuple #[]) ∧ TrS 1 g w' ∧ Below g w w' := by
  obtain ⟨h1, h2, h3⟩ := h
  refine (add_new g g (g + 1) (ks 0) (vs 0) 8 0 P11 107 w (by decide +kernel) (by decide +kernel) (by decide +kernel) (by omega) ((h1.cell 1).trans gb_1) ((h1.cell 2).trans gb_2) ((h1.cell 4).trans gb_4) (by decide) (tg_map h1 38 0 (by decide) mp_amp) h2 rfl).mono ?_
  rintro e w' ⟨rfl, hn⟩
  obtain ⟨n1, n2, n3, n4, n5⟩ := hn
  rw [h3] at n1 n2 n3
  have hx : (ks 0).extract 1 (ks 0).size = ⟨#[108, 116, 59]⟩ := by decide +kernel
  rw [hx] at n2
  exact ⟨rfl, ⟨n5.blk h1 (by omega), n1, n2, n3, by omega⟩, n5.below (by omega) (by omega)⟩
theorem step1 (g : Nat) (w : World) (h : TrS 1 g w) :
    Calls Try.prog 48 #[pt g, .string (ks 1), .string (vs 1), .int .i64 6, pt g] w fun e w' => e = .returned (.tuple #[]) ∧ TrS 2 g w' ∧ Below g w w' := by
  obtain ⟨h1, h2, h3, h4, h5⟩ := h
  have hk : (ks 1).extract 1 (ks 1).size = ⟨#[103, 116, 59]⟩ := by decide +kernel
  refine (add_down g g (g + 1) (g + 2) (ks 1) (vs 1) 6 0 11 (Split (g + 2) 4 3 ⟨#[108, 116, 59]⟩ (g + 3) ⟨#[103, 116, 59]⟩ (vs 1) 6 w.drew.drew) w (by decide +kernel) (by decide +kernel) ((h1.cell 1).trans gb_1) ((h1.cell 2).trans gb_2) ((h1.cell 4).trans gb_4) (by decide) (tg_map h1 38 0 (by decide) mp_amp) (h2.cell 0) ?_).mono ?_
  · rw [hk]
    exact add_split (g + 2) g (g + 3) ⟨#[108, 116, 59]⟩ ⟨#[103, 116, 59]⟩ (vs 1) 6 4 3 w.drew.drew h3 (by omega) (by decide +kernel) (by decide +kernel) (by decide +kernel) (by decide +kernel) (by decide +kernel) (by decide +kernel) (by decide) (by decide) ((h1.cell 5).trans gb_5) (tg_map h1 108 4 (by decide) mp_l) (tg_map h1 103 3 (by decide) mp_g)
  · rintro e w' ⟨rfl, hn⟩
    obtain ⟨n1, n2, n3, n4, n5, n6, n7⟩ := hn
    have hs : w.drew.drew.heap.size = g + 4 := h5
    rw [hs] at n1 n2 n3 n4 n5 n6
    have hx : (⟨#[108, 116, 59]⟩ : ByteArray).extract 1 (⟨#[108, 116, 59]⟩ : ByteArray).size = ⟨#[116, 59]⟩ := by decide +kernel
    have hy : (⟨#[103, 116, 59]⟩ : ByteArray).extract 1 (⟨#[103, 116, 59]⟩ : ByteArray).size = ⟨#[116, 59]⟩ := by decide +kernel
    rw [hx] at n2
    rw [hy] at n3
    exact ⟨rfl, ⟨n7.blk h1.drew2 (by omega), n7.blk (h2.drew.drew) (by omega), n1, n7.blk (h4.drew.drew) (by omega), n2, n3, n4, n5, by omega⟩, (hd2 g w).trans (n7.below (by omega) (by omega))⟩
theorem step2 (g : Nat) (w : World) (h : TrS 2 g w) :
    Calls Try.prog 48 #[pt g, .string (ks 2), .string (vs 2), .int .i64 4, pt g] w fun e w' => e = .returned (.tuple #[]) ∧ TrS 3 g w' ∧ Below g w w' := by
  obtain ⟨h1, h2, h3, h4, h5, h6, h7, h8, h9⟩ := h
  have hk : (ks 2).extract 1 (ks 2).size = ⟨#[97, 109, 112, 59]⟩ := by decide +kernel
  refine (add_down g g (g + 1) (g + 2) (ks 2) (vs 2) 4 0 11 (New (g + 6) 2 ((P11.setIfInBounds 4 (pt (g + 4))).setIfInBounds 3 (pt (g + 5))) 107 ((⟨#[97, 109, 112, 59]⟩ : ByteArray).extract 1 (⟨#[97, 109, 112, 59]⟩ : ByteArray).size) (vs 2) 4 w.drew.drew) w (by decide +kernel) (by decide +kernel) ((h1.cell 1).trans gb_1) ((h1.cell 2).trans gb_2) ((h1.cell 4).trans gb_4) (by decide) (tg_map h1 38 0 (by decide) mp_amp) (h2.cell 0) ?_).mono ?_
  · rw [hk]
    exact add_new (g + 2) g (g + 6) ⟨#[97, 109, 112, 59]⟩ (vs 2) 4 2 _ 107 w.drew.drew (by decide +kernel) (by decide +kernel) (by decide +kernel) (by omega) (h3.cell 1) (h3.cell 2) (h3.cell 4) (by simp) (tg_map h1 97 2 (by decide) mp_a) h7 rfl
  · rintro e w' ⟨rfl, hn⟩
    obtain ⟨n1, n2, n3, n4, n5⟩ := hn
    have hs : w.drew.drew.heap.size = g + 8 := h9
    rw [hs] at n1 n2 n3 n4
    have hx : (⟨#[97, 109, 112, 59]⟩ : ByteArray).extract 1 (⟨#[97, 109, 112, 59]⟩ : ByteArray).size = ⟨#[109, 112, 59]⟩ := by decide +kernel
    rw [hx] at n2
    exact ⟨rfl, ⟨n5.blk h1.drew2 (by omega), n5.blk (h2.drew.drew) (by omega), n5.blk (h3.drew.drew) (by omega), n5.blk (h4.drew.drew) (by omega), n5.blk (h5.drew.drew) (by omega), n5.blk (h6.drew.drew) (by omega), n1, n5.blk (h8.drew.drew) (by omega), n2, n3, by omega⟩, (hd2 g w).trans (n5.below (by omega) (by omega))⟩
theorem step3 (g : Nat) (w : World) (h : TrS 3 g w) :
    Calls Try.prog 48 #[pt g, .string (ks 3), .string (vs 3), .int .i64 2, pt g] w fun e w' => e = .returned (.tuple #[]) ∧ TrS 4 g w' ∧ Below g w w' := by
  obtain ⟨h1, h2, h3, h4, h5, h6, h7, h8, h9, h10, h11⟩ := h
  have hk : (ks 3).extract 1 (ks 3).size = ⟨#[113, 117, 111, 116, 59]⟩ := by decide +kernel
  refine (add_down g g (g + 1) (g + 2) (ks 3) (vs 3) 2 0 11 (New (g + 6) 8 (((P11.setIfInBounds 4 (pt (g + 4))).setIfInBounds 3 (pt (g + 5))).setIfInBounds 2 (pt (g + 8))) 107 ((⟨#[113, 117, 111, 116, 59]⟩ : ByteArray).extract 1 (⟨#[113, 117, 111, 116, 59]⟩ : ByteArray).size) (vs 3) 2 w.drew.drew) w (by decide +kernel) (by decide +kernel) ((h1.cell 1).trans gb_1) ((h1.cell 2).trans gb_2) ((h1.cell 4).trans gb_4) (by decide) (tg_map h1 38 0 (by decide) mp_amp) (h2.cell 0) ?_).mono ?_
  · rw [hk]
    exact add_new (g + 2) g (g + 6) ⟨#[113, 117, 111, 116, 59]⟩ (vs 3) 2 8 _ 107 w.drew.drew (by decide +kernel) (by decide +kernel) (by decide +kernel) (by omega) (h3.cell 1) (h3.cell 2) (h3.cell 4) (by simp) (tg_map h1 113 8 (by decide) mp_q) h7 rfl
  · rintro e w' ⟨rfl, hn⟩
    obtain ⟨n1, n2, n3, n4, n5⟩ := hn
    have hs : w.drew.drew.heap.size = g + 10 := h11
    rw [hs] at n1 n2 n3 n4
    have hx : (⟨#[113, 117, 111, 116, 59]⟩ : ByteArray).extract 1 (⟨#[113, 117, 111, 116, 59]⟩ : ByteArray).size = ⟨#[117, 111, 116, 59]⟩ := by decide +kernel
    rw [hx] at n2
    exact ⟨rfl, ⟨n5.blk h1.drew2 (by omega), n5.blk (h2.drew.drew) (by omega), n5.blk (h3.drew.drew) (by omega), n5.blk (h4.drew.drew) (by omega), n5.blk (h5.drew.drew) (by omega), n5.blk (h6.drew.drew) (by omega), n1, n5.blk (h8.drew.drew) (by omega), n5.blk (h9.drew.drew) (by omega), n5.blk (h10.drew.drew) (by omega), n2, n3, by omega⟩, (hd2 g w).trans (n5.below (by omega) (by omega))⟩
theorem steps (g a : Nat) (w : World) (ha : a < 4) (h : TrS a g w) :
    Calls Try.prog 48 #[pt g, .string (ks a), .string (vs a), .int .i64 (8 - ((2 * a : Nat) : Int)), pt g] w fun e w' => e = .returned (.tuple #[]) ∧ TrS (a + 1) g w' ∧ Below g w w' := by
  have : a = 0 ∨ a = 1 ∨ a = 2 ∨ a = 3 := by omega
  rcases this with rfl | rfl | rfl | rfl
  · exact step0 g w h
  · exact step1 g w h
  · exact step2 g w h
  · exact step3 g w h
theorem TrS.drew {a g : Nat} {w : World} (h : TrS a g w) : TrS a g w.drew := by
  rcases a with _ | _ | _ | _ | a <;> exact h
theorem steps' (g a ib : Nat) (w : World) (hib : ib = 2 * a) (ha : a < 4) (h : TrS a g w) :
    Calls Try.prog 48 #[.pointer (some ⟨g, 0, none⟩), .string (ks a), .string (vs a), .int .i64 (8 - (ib : Int)), .pointer (some ⟨g, 0, none⟩)] w fun e w' => e = .returned (.tuple #[]) ∧ TrS (a + 1) g w' ∧ Below g w w' := by
  subst hib
  exact steps g a w ha h
/-- The trie, as it is read. -/
structure Tri (g : Nat) (w : World) : Prop where
  root : TG g w
  tab : Blk w (g + 1) (P11.setIfInBounds 0 (pt (g + 2))) 107
  amp : Blk w (g + 2) (ND em 0 em np (.slice (some ⟨g + 6, 0, none⟩) 11 11)) TN
  lt : Blk w (g + 3) (ND (vs 0) 8 em np nl) TN
  l : Blk w (g + 4) (ND em 0 ⟨#[116, 59]⟩ (pt (g + 3)) nl) TN
  g' : Blk w (g + 5) (ND em 0 ⟨#[116, 59]⟩ (pt (g + 7)) nl) TN
  tab2 : Blk w (g + 6) ((((P11.setIfInBounds 4 (pt (g + 4))).setIfInBounds 3 (pt (g + 5))).setIfInBounds 2 (pt (g + 8))).setIfInBounds 8 (pt (g + 10))) 107
  gt : Blk w (g + 7) (ND (vs 1) 6 em np nl) TN
  a : Blk w (g + 8) (ND em 0 ⟨#[109, 112, 59]⟩ (pt (g + 9)) nl) TN
  and : Blk w (g + 9) (ND (vs 2) 4 em np nl) TN
  q : Blk w (g + 10) (ND em 0 ⟨#[117, 111, 116, 59]⟩ (pt (g + 11)) nl) TN
  quot : Blk w (g + 11) (ND (vs 3) 2 em np nl) TN
theorem Tri.of {g : Nat} {w : World} (h : TrS 4 g w) : Tri g w ∧ w.heap.size = g + 12 := by
  obtain ⟨h1, h2, h3, h4, h5, h6, h7, h8, h9, h10, h11, h12, h13⟩ := h
  exact ⟨⟨h1, h2, h3, h4, h5, h6, h7, h8, h9, h10, h11, h12⟩, h13⟩
theorem Tri.keep {g : Nat} {w w' : World} (h : Tri g w) (k : ∀ j, g ≤ j → j < g + 12 → w'.heap[j]? = w.heap[j]?) : Tri g w' :=
  ⟨h.root.of_block (k _ (by omega) (by omega)), h.tab.of_block (k _ (by omega) (by omega)), h.amp.of_block (k _ (by omega) (by omega)), h.lt.of_block (k _ (by omega) (by omega)), h.l.of_block (k _ (by omega) (by omega)), h.g'.of_block (k _ (by omega) (by omega)),
   h.tab2.of_block (k _ (by omega) (by omega)), h.gt.of_block (k _ (by omega) (by omega)), h.a.of_block (k _ (by omega) (by omega)), h.and.of_block (k _ (by omega) (by omega)), h.q.of_block (k _ (by omega) (by omega)), h.quot.of_block (k _ (by omega) (by omega))⟩
theorem Tri.top {g : Nat} {w : World} (h : Tri g w) : g + 11 < w.heap.size := h.quot.lt
end Go.Proofs.Ytkjgnkmnngaioaa.Q
