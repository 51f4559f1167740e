/- '(*strings.genericReplacer).lookup' in the trie of the four signs, of a text that is empty or begins with the byte that all signs begin with. -/
import Derived.Test.YtkjgnkmnngaioaaStep
namespace Go.Proofs.Ytkjgnkmnngaioaa.Q
open Go.RowKit Go.IntWalk Go.Proofs.Ytkjgnkmnngaioaa.Mem
set_option linter.unusedVariables false
set_option linter.unusedSimpArgs false

def pn : Nat → Nat
  | 0 => 4
  | 1 => 5
  | 2 => 8
  | _ => 10
def ln : Nat → Nat
  | 0 => 3
  | 1 => 7
  | 2 => 9
  | _ => 11
/-- What stands behind the second byte. -/
def px : Nat → ByteArray
  | 0 => ⟨#[116, 59]⟩
  | 1 => ⟨#[116, 59]⟩
  | 2 => ⟨#[109, 112, 59]⟩
  | _ => ⟨#[117, 111, 116, 59]⟩
def pr : Nat → Int
  | 0 => 8
  | 1 => 6
  | 2 => 4
  | _ => 2
theorem tri_p {g : Nat} {w : World} (h : Tri g w) (i : Nat) : Blk w (g + pn i) (ND em 0 (px i) (pt (g + ln i)) nl) TN := by
  rcases i with _ | _ | _ | i
  · exact h.l
  · exact h.g'
  · exact h.a
  · exact h.q
theorem tri_l {g : Nat} {w : World} (h : Tri g w) {i : Nat} (hi : i < 4) : Blk w (g + ln i) (ND (vs i) (pr i) em np nl) TN := by
  have : i = 0 ∨ i = 1 ∨ i = 2 ∨ i = 3 := by omega
  rcases this with rfl | rfl | rfl | rfl
  · exact h.lt
  · exact h.gt
  · exact h.and
  · exact h.quot
theorem pr_pos (i : Nat) : 0 < pr i := by
  rcases i with _ | _ | _ | i
  · show (0 : Int) < 8; omega
  · show (0 : Int) < 6; omega
  · show (0 : Int) < 4; omega
  · show (0 : Int) < 2; omega
theorem px_ne (i : Nat) : (px i).toList.isEmpty = false := by
  rcases i with _ | _ | _ | i
  · decide +kernel
  · decide +kernel
  · decide +kernel
  · show (px 3).toList.isEmpty = false; decide +kernel

/-- Does it begin so? -/
def hpB (s p : ByteArray) : Bool := if p.size ≤ s.size then (s.extract 0 p.size).toList == p.toList else false
theorem rb {a b : Bool} (h : a = b) : Ending.returned (.bool a) = .returned (.bool b) := by rw [h]
set_option maxRecDepth 100000 in
theorem pre_calls (s p : ByteArray) (w : World) : Calls Try.prog 60 #[.string s, .string p] w fun e w' => e = .returned (.bool (hpB s p)) ∧ w = w' := by
  by_cases h : p.size ≤ s.size
  · go_enter Try.func60, Try.ntmps60
    go_wp2
    go_ret
    exact ⟨rb (by unfold hpB; rw [if_pos h]), rfl⟩
  · go_enter Try.func60, Try.ntmps60
    go_wp2
    go_ret
    exact ⟨rb (by unfold hpB; rw [if_neg h]), rfl⟩

theorem empty_list {s : ByteArray} (h : s.size = 0) : s.toList.isEmpty = true := by
  rw [ByteArray.toList_eq]
  have : s.data.toList.length = 0 := by simpa using h
  rw [List.length_eq_zero_iff.1 this]; rfl
theorem ne_list {s : ByteArray} (h : 0 < s.size) : s.toList.isEmpty = false := by
  rw [ByteArray.toList_eq]
  have : s.data.toList.length = s.size := by simp
  cases hl : s.data.toList with
  | nil => rw [hl] at this; simp at this; omega
  | cons c r => rfl
/-- Which sign has this second byte? -/
def lkI (c : UInt8) : Option Nat := if c.toNat = 108 then some 0 else if c.toNat = 103 then some 1 else if c.toNat = 97 then some 2 else if c.toNat = 113 then some 3 else none
def kb : Nat → Nat
  | 0 => 108
  | 1 => 103
  | 2 => 97
  | _ => 113
def mi : Nat → Nat
  | 0 => 4
  | 1 => 3
  | 2 => 2
  | _ => 8
theorem lkI_some {c : UInt8} {i : Nat} (h : lkI c = some i) : i < 4 ∧ c.toNat = kb i := by
  unfold lkI at h
  split at h
  · cases h; exact ⟨by omega, by assumption⟩
  · split at h
    · cases h; exact ⟨by omega, by assumption⟩
    · split at h
      · cases h; exact ⟨by omega, by assumption⟩
      · split at h
        · cases h; exact ⟨by omega, by assumption⟩
        · cases h
theorem mi_lt (i : Nat) : mi i < 11 := by
  rcases i with _ | _ | _ | i
  · show 4 < 11; omega
  · show 3 < 11; omega
  · show 2 < 11; omega
  · show 8 < 11; omega
theorem mp_kb {i : Nat} (h : i < 4) : kb i < 256 ∧ MP.getD (kb i) 0 = (mi i : Int) := by
  have : i = 0 ∨ i = 1 ∨ i = 2 ∨ i = 3 := by omega
  rcases this with rfl | rfl | rfl | rfl
  · exact ⟨by decide, mp_l⟩
  · exact ⟨by decide, mp_g⟩
  · exact ⟨by decide, mp_a⟩
  · exact ⟨by decide, mp_q⟩
theorem tab_mi {g : Nat} {w : World} (h : Tri g w) {i : Nat} (hi : i < 4) : w.cell? ⟨g + 6, mi i, none⟩ = some (pt (g + pn i)) := by
  have : i = 0 ∨ i = 1 ∨ i = 2 ∨ i = 3 := by omega
  rcases this with rfl | rfl | rfl | rfl
  · exact h.tab2.cell 4
  · exact h.tab2.cell 3
  · exact h.tab2.cell 2
  · exact h.tab2.cell 8
def offs : List Nat := [0, 1, 5, 6, 7, 9, 10]
theorem mp_all : ((List.range 256).all fun c => decide (c = 108) || decide (c = 103) || decide (c = 97) || decide (c = 113) || decide (MP.getD c 0 = 11) || offs.any fun m => decide (MP.getD c 0 = (m : Int))) = true := by decide +kernel
theorem mp_none {c : UInt8} (h : lkI c = none) : MP.getD c.toNat 0 = 11 ∨ ∃ m, m ∈ offs ∧ MP.getD c.toNat 0 = (m : Int) := by
  unfold lkI at h
  have h1 : ¬ c.toNat = 108 := fun e => by rw [if_pos e] at h; cases h
  rw [if_neg h1] at h
  have h2 : ¬ c.toNat = 103 := fun e => by rw [if_pos e] at h; cases h
  rw [if_neg h2] at h
  have h3 : ¬ c.toNat = 97 := fun e => by rw [if_pos e] at h; cases h
  rw [if_neg h3] at h
  have h4 : ¬ c.toNat = 113 := fun e => by rw [if_pos e] at h; cases h
  have := List.all_eq_true.1 mp_all c.toNat (List.mem_range.2 c.toNat_lt)
  simp only [Bool.or_eq_true, decide_eq_true_eq, h1, h2, h3, h4, false_or, List.any_eq_true] at this
  exact this
theorem offs_lt {m : Nat} (h : m ∈ offs) : m < 11 := by
  unfold offs at h
  simp only [List.mem_cons, List.not_mem_nil, or_false] at h
  omega
theorem tab_off {g : Nat} {w : World} (h : Tri g w) {m : Nat} (hm : m ∈ offs) : w.cell? ⟨g + 6, m, none⟩ = some np := by
  unfold offs at hm
  simp only [List.mem_cons, List.not_mem_nil, or_false] at hm
  rcases hm with rfl | rfl | rfl | rfl | rfl | rfl | rfl
  · exact h.tab2.cell 0
  · exact h.tab2.cell 1
  · exact h.tab2.cell 5
  · exact h.tab2.cell 6
  · exact h.tab2.cell 7
  · exact h.tab2.cell 9
  · exact h.tab2.cell 10
theorem px_size (i : Nat) : 0 < (px i).size ∧ (px i).size ≤ 4 := by
  rcases i with _ | _ | _ | i
  · show 0 < (px 0).size ∧ (px 0).size ≤ 4; decide
  · show 0 < (px 1).size ∧ (px 1).size ≤ 4; decide
  · show 0 < (px 2).size ∧ (px 2).size ≤ 4; decide
  · show 0 < (px 3).size ∧ (px 3).size ≤ 4; decide
def tl (s : ByteArray) : ByteArray := s.extract 1 s.size
/-- Which sign does it begin with? -/
def lkF (s : ByteArray) : Option Nat := if h : 0 < (tl s).size then (match lkI (tl s)[0] with | some i => if hpB (tl (tl s)) (px i) = true then some i else none | none => none) else none
def lkV : Option Nat → Value
  | some i => .tuple #[.string (vs i), .int .i64 (2 + ((px i).size : Int)), .bool true]
  | none => .tuple #[.string em, .int .i64 0, .bool false]
/-- Where a lookup stands: what is left, what was found, the node, how far. -/
inductive Lk (g : Nat) (s : ByteArray) : Value → Value → Value → Value → Value → Value → Value → Prop
  | root : Lk g s (.string s) (.string em) (.int .i64 0) (.bool false) (.int .i64 0) (pt g) (.int .i64 0)
  | amp : Lk g s (.string (tl s)) (.string em) (.int .i64 0) (.bool false) (.int .i64 0) (pt (g + 2)) (.int .i64 1)
  | key (i : Nat) : i < 4 → (∃ h : 0 < (tl s).size, lkI (tl s)[0] = some i) → Lk g s (.string (tl (tl s))) (.string em) (.int .i64 0) (.bool false) (.int .i64 0) (pt (g + pn i)) (.int .i64 2)
  | none : lkF s = none → Lk g s (.string (tl (tl s))) (.string em) (.int .i64 0) (.bool false) (.int .i64 0) np (.int .i64 2)
  | leaf (i : Nat) (r : ByteArray) : i < 4 → lkF s = some i → Lk g s (.string r) (.string em) (.int .i64 0) (.bool false) (.int .i64 0) (pt (g + ln i)) (.int .i64 (2 + ((px i).size : Int)))
set_option maxRecDepth 100000 in
set_option maxHeartbeats 4000000 in
theorem look (g : Nat) (s : ByteArray) (w : World) (hT : Tri g w) (h0 : 0 < s.size) (h38 : s[0].toNat = 38) (hne : s.toList.isEmpty = false) :
    Calls Try.prog 104 #[.pointer (some ⟨g, 0, none⟩), .string s, .bool false] w fun e w' => e = .returned (lkV (lkF s)) ∧ ∃ n, w' = w.drewN n := by
  have HT := Lib.hid hT
  have H38 := Lib.hid h38
  clear hT h38
  go_enter Try.func104, Try.ntmps104
  go_wp2_with fail
  go_loopw [1, 6, 7, 8, 9, 10, 11] (fun sv vv kv fv bv nv iv wr => Lk g s sv vv kv fv bv nv iv ∧ Hid (Tri g wr) ∧ Hid (∃ n, wr = w.drewN n)) (fun _ _ _ _ _ _ iv _ => 1000 - (intOf iv).toNat)
  case atStart => exact ⟨.root, HT, Lib.hid ⟨0, rfl⟩⟩
  case round =>
    obtain ⟨hl, HTr, HD⟩ := hrel
    have q := qneq
    cases hl with
    | root =>
      have c1 : wr.cell? ⟨g, 1, none⟩ = some (.int .i64 0) := (HTr.out.root.cell 1).trans gb_1
      have c4 : wr.cell? ⟨g, 4, none⟩ = some (.slice (some ⟨g + 1, 0, none⟩) 11 11) := (HTr.out.root.cell 4).trans gb_4
      have hm : wr.cell? ⟨g, 6 + s[0].toNat, none⟩ = some (.int .u8 ((0 : Nat) : Int)) := by rw [H38.out]; exact tg_map HTr.out.root 38 0 (by decide) mp_amp
      have hc : (s[0].toNat : Int) < 256 := by have := s[0].toNat_lt; omega
      go_upto_region 12 with (fail)
      go_still (by kernel_rfl)
      show Exit.then _ _ _ _ wr.drew
      have HT2 := Lib.hid (show Tri g wr.drew from HTr.out.keep (fun j _ _ => rfl))
      have HD2 := Lib.hid (show ∃ n, wr.drew = w.drewN n from by obtain ⟨n, rfl⟩ := HD.out; exact ⟨n + 1, by simp [World.drewN, World.drew, Nat.add_assoc]⟩)
      clear c1 c4 hm hc HTr HD
      generalize wr.drew = W2 at HT2 HD2 ⊢
      have c4 : W2.cell? ⟨g, 4, none⟩ = some (.slice (some ⟨g + 1, 0, none⟩) 11 11) := (HT2.out.root.cell 4).trans gb_4
      have c5 : W2.cell? ⟨g, 5, none⟩ = some (.int .i64 11) := (HT2.out.root.cell 5).trans gb_5
      have ct : W2.cell? ⟨g + 1, 0, none⟩ = some (pt (g + 2)) := HT2.out.tab.cell 0
      have k1 : (1 : Int) ≤ (s.size : Int) := by omega
      go_wp2_with fail
      go_roundw
      case rel => exact ⟨.amp, HT2, HD2⟩
      case measure => simp [intOf]
    | amp =>
      have c1 : wr.cell? ⟨g + 2, 1, none⟩ = some (.int .i64 0) := HTr.out.amp.cell 1
      have c2 : wr.cell? ⟨g + 2, 2, none⟩ = some (.string em) := HTr.out.amp.cell 2
      have c4 : wr.cell? ⟨g + 2, 4, none⟩ = some (.slice (some ⟨g + 6, 0, none⟩) 11 11) := HTr.out.amp.cell 4
      obtain ⟨s1, hs1⟩ : ∃ s1, s1 = tl s := ⟨_, rfl⟩
      rw [← hs1]
      have HS1 := Lib.hid hs1
      clear hs1
      by_cases he : s1.size = 0
      · have h1 : s1.toList.isEmpty = true := empty_list he
        have HN := Lib.hid (show lkF s = none by unfold lkF; rw [dif_neg (by rw [← HS1.out]; omega)])
        clear he
        go_wp2_with fail
        go_ret3
        exact ⟨by rw [HN.out]; rfl, HD.out⟩
      · have he' : 0 < s1.size := by omega
        have h1 : s1.toList.isEmpty = false := ne_list he'
        have k1 : (1 : Int) ≤ (s1.size : Int) := by omega
        have hc : (s1[0].toNat : Int) < 256 := by have := s1[0].toNat_lt; omega
        have HLK := Lib.hid (show lkF s = (match lkI s1[0] with | some i => if hpB (tl s1) (px i) = true then some i else none | none => none) by
          have h2 : 0 < (tl s).size := by rw [← HS1.out]; exact he'
          unfold lkF
          rw [dif_pos h2]
          simp only [← HS1.out])
        cases hI : lkI s1[0] with
        | some i =>
          obtain ⟨hi4, hkb⟩ := lkI_some hI
          have HKI := Lib.hid (show ∃ h : 0 < (tl s).size, lkI (tl s)[0] = some i from by
            refine ⟨by rw [← HS1.out]; exact he', ?_⟩
            simp only [← HS1.out]
            exact hI)
          have hm : wr.cell? ⟨g, 6 + s1[0].toNat, none⟩ = some (.int .u8 (mi i : Int)) := by rw [hkb]; exact tg_map HTr.out.root (kb i) (mi i) (mp_kb hi4).1 (mp_kb hi4).2
          have hm1 := mi_lt i
          have hm2 : (mi i : Int) < 11 := by omega
          have hm3 : (0 : Int) ≤ (mi i : Int) := by omega
          have hm4 : ((mi i : Int) == 11) = false := by simp; omega
          have HKB := Lib.hid hkb
          have HHI := Lib.hid hI
          clear hkb hI he
          go_upto_region 12 with (fail)
          go_still (by kernel_rfl)
          show Exit.then _ _ _ _ wr.drew
          have HT2 := Lib.hid (show Tri g wr.drew from HTr.out.keep (fun j _ _ => rfl))
          have HD2 := Lib.hid (show ∃ n, wr.drew = w.drewN n from by obtain ⟨n, rfl⟩ := HD.out; exact ⟨n + 1, by simp [World.drewN, World.drew, Nat.add_assoc]⟩)
          clear c1 c2 c4 hm HTr HD
          generalize wr.drew = W2 at HT2 HD2 ⊢
          have c4 : W2.cell? ⟨g + 2, 4, none⟩ = some (.slice (some ⟨g + 6, 0, none⟩) 11 11) := HT2.out.amp.cell 4
          have c5 : W2.cell? ⟨g, 5, none⟩ = some (.int .i64 11) := (HT2.out.root.cell 5).trans gb_5
          have ct : W2.cell? ⟨g + 6, mi i, none⟩ = some (pt (g + pn i)) := tab_mi HT2.out hi4
          generalize mi i = m at *
          go_wp2_with fail
          go_roundw
          case rel => exact ⟨by rw [HS1.out]; exact .key i hi4 HKI.out, HT2, HD2⟩
          case measure => simp [intOf]
        | none =>
          have HN := Lib.hid (show lkF s = none by rw [HLK.out, hI])
          have hmp := mp_none hI
          clear hI HLK he
          rcases hmp with hmp | ⟨m, hmo, hmp⟩
          · have hm : wr.cell? ⟨g, 6 + s1[0].toNat, none⟩ = some (.int .u8 ((11 : Nat) : Int)) := tg_map HTr.out.root _ 11 (by omega) hmp
            clear hmp
            go_upto_region 12 with (fail)
            go_still (by kernel_rfl)
            show Exit.then _ _ _ _ wr.drew
            have HT2 := Lib.hid (show Tri g wr.drew from HTr.out.keep (fun j _ _ => rfl))
            have HD2 := Lib.hid (show ∃ n, wr.drew = w.drewN n from by obtain ⟨n, rfl⟩ := HD.out; exact ⟨n + 1, by simp [World.drewN, World.drew, Nat.add_assoc]⟩)
            clear c1 c2 c4 hm HTr HD
            generalize wr.drew = W2 at HT2 HD2 ⊢
            have c5 : W2.cell? ⟨g, 5, none⟩ = some (.int .i64 11) := (HT2.out.root.cell 5).trans gb_5
            go_wp2_with fail
            go_ret3
            exact ⟨by rw [HN.out]; rfl, HD2.out⟩
          · have hm : wr.cell? ⟨g, 6 + s1[0].toNat, none⟩ = some (.int .u8 (m : Int)) := tg_map HTr.out.root _ m (by omega) hmp
            clear hmp
            have hm1 := offs_lt hmo
            have hm2 : (m : Int) < 11 := by omega
            have hm3 : (0 : Int) ≤ (m : Int) := by omega
            have hm4 : ((m : Int) == 11) = false := by simp; omega
            have HMO := Lib.hid hmo
            clear hmo
            go_upto_region 12 with (fail)
            go_still (by kernel_rfl)
            show Exit.then _ _ _ _ wr.drew
            have HT2 := Lib.hid (show Tri g wr.drew from HTr.out.keep (fun j _ _ => rfl))
            have HD2 := Lib.hid (show ∃ n, wr.drew = w.drewN n from by obtain ⟨n, rfl⟩ := HD.out; exact ⟨n + 1, by simp [World.drewN, World.drew, Nat.add_assoc]⟩)
            clear c1 c2 c4 hm HTr HD
            generalize wr.drew = W2 at HT2 HD2 ⊢
            have c4 : W2.cell? ⟨g + 2, 4, none⟩ = some (.slice (some ⟨g + 6, 0, none⟩) 11 11) := HT2.out.amp.cell 4
            have c5 : W2.cell? ⟨g, 5, none⟩ = some (.int .i64 11) := (HT2.out.root.cell 5).trans gb_5
            have ct : W2.cell? ⟨g + 6, m, none⟩ = some np := tab_off HT2.out HMO.out
            go_wp2_with fail
            go_roundw
            case rel => exact ⟨by rw [HS1.out]; exact .none HN.out, HT2, HD2⟩
            case measure => simp [intOf]
    | key i hi hk =>
      have hB := tri_p HTr.out i
      have c1 : wr.cell? ⟨g + pn i, 1, none⟩ = some (.int .i64 0) := hB.cell 1
      have c2 : wr.cell? ⟨g + pn i, 2, none⟩ = some (.string (px i)) := hB.cell 2
      have c3 : wr.cell? ⟨g + pn i, 3, none⟩ = some (pt (g + ln i)) := hB.cell 3
      have c4 : wr.cell? ⟨g + pn i, 4, none⟩ = some nl := hB.cell 4
      have hp1 := px_ne i
      have hp2 : (!(px i).toList.isEmpty) = true := by rw [hp1]; rfl
      obtain ⟨hps0, hps⟩ := px_size i
      have HLK := Lib.hid (show lkF s = if hpB (tl (tl s)) (px i) = true then some i else none from by
        obtain ⟨h, h'⟩ := hk
        unfold lkF
        rw [dif_pos h]
        simp only [h'])
      have HI := Lib.hid hi
      clear hk hB hi
      generalize tl (tl s) = s2 at HLK ⊢
      generalize pn i = p at *
      by_cases he : s2.size = 0
      · have h1 : s2.toList.isEmpty = true := empty_list he
        have HN := Lib.hid (show lkF s = none by
          have hf : hpB s2 (px i) = false := by unfold hpB; rw [if_neg (by omega)]
          rw [HLK.out, hf]
          rfl)
        clear he HLK
        go_wp2_with fail
        go_ret3
        exact ⟨by rw [HN.out]; rfl, HD.out⟩
      · have h1 : s2.toList.isEmpty = false := ne_list (by omega)
        clear he
        rcases Bool.eq_false_or_eq_true (hpB s2 (px i)) with hh | hh
        · have HN := Lib.hid (show lkF s = some i by rw [HLK.out, if_pos hh])
          have HH := Lib.hid hh
          have hle : (px i).size ≤ s2.size := by
            unfold hpB at hh
            by_cases h : (px i).size ≤ s2.size
            · exact h
            · rw [if_neg h] at hh; cases hh
          have hle' : ((px i).size : Int) ≤ (s2.size : Int) := by omega
          have hps' : ((px i).size : Int) ≤ 4 := by omega
          have hps1 : (0 : Int) ≤ ((px i).size : Int) := by omega
          clear hh HLK
          go_wp2_with (go_at_call 60; refine (pre_calls _ _ _).mono ?_; rintro e w1 ⟨rfl, rfl⟩; rw [HH.out])
          go_roundw
          case rel => exact ⟨.leaf i _ HI.out HN.out, HTr, HD⟩
          case measure => simp [intOf]; omega
        · have HN := Lib.hid (show lkF s = none by rw [HLK.out, if_neg (by rw [hh]; simp)])
          have HH := Lib.hid hh
          clear hh HLK
          go_wp2_with (go_at_call 60; refine (pre_calls _ _ _).mono ?_; rintro e w1 ⟨rfl, rfl⟩; rw [HH.out])
          go_ret3
          exact ⟨by rw [HN.out]; rfl, HD.out⟩
    | none hn =>
      have HN := Lib.hid hn
      clear hn
      go_wp2_with fail
      go_ret3
      exact ⟨by rw [HN.out]; rfl, HD.out⟩
    | leaf i r hi hk =>
      have hB := tri_l HTr.out hi
      have c0 : wr.cell? ⟨g + ln i, 0, none⟩ = some (.string (vs i)) := hB.cell 0
      have c1 : wr.cell? ⟨g + ln i, 1, none⟩ = some (.int .i64 (pr i)) := hB.cell 1
      have c2 : wr.cell? ⟨g + ln i, 2, none⟩ = some (.string em) := hB.cell 2
      have c4 : wr.cell? ⟨g + ln i, 4, none⟩ = some nl := hB.cell 4
      have hpos := pr_pos i
      have HN := Lib.hid hk
      clear hk hB
      generalize ln i = l at *
      by_cases he : r.size = 0
      · have h1 : r.toList.isEmpty = true := empty_list he
        clear he
        go_wp2_with fail
        go_ret3
        exact ⟨by rw [HN.out]; rfl, HD.out⟩
      · have h1 : r.toList.isEmpty = false := ne_list (by omega)
        clear he
        go_wp2_with fail
        go_ret3
        exact ⟨by rw [HN.out]; rfl, HD.out⟩
end Go.Proofs.Ytkjgnkmnngaioaa.Q
