/- What the proof of treeClosed_holds needs, of the texts that this work has written and of the words that the kit's print lends. -/
import Derived.Test.YtkjgnkmnngaioaaGreatZcd
import Derived.Test.YtkjgnkmnngaioaaGreatZce
import Derived.Test.YtkjgnkmnngaioaaGreatZcb
import Derived.Lib.Strings
import Derived.Lib.Slices
import Derived.Laws.EntriesVeiled
import Derived.StillTailTactics
import Derived.Lib.SliceRun
import Derived.IntWalk
import Derived.Deep.MidRow
import Derived.WalkSpells
import Derived.Laws.MakeOwn
import Derived.Laws.IdiomStrings
import Derived.Laws.AppendOwn
import Derived.Laws.CopyRow
import Derived.Laws.Tables
import Derived.Deep.RegionLaw
namespace Go.Proofs.YtkjgnkmnngaioaaGreat.Q
open Go.RowKit Go.IntWalk Go.Proofs.YtkjgnkmnngaioaaGreat.Mem
set_option linter.unusedVariables false
set_option linter.unusedSimpArgs false
/-- The row that '[]byte(s)' makes. -/
theorem bt_made {w W : World} {g cp : Nat} {fz : Nat × Nat} {s : ByteArray} (hc : s.size ≤ cp) (h : W.heap[g]? = some (.cells (bytesRow s cp) 5 fz)) : Bt W g 0 s.size cp s.data.toList := by
  refine ⟨by simp, hc, fun i hi => ?_⟩
  have h1 : W.cell? ⟨g, 0 + i, none⟩ = (bytesRow s cp)[i]? := by simp [World.cell?, h]
  rw [h1]
  unfold bytesRow
  rw [Array.getElem?_append_left (by simpa using hi)]
  simp at hi
  simp [hi]
/-- A text is a name, and told. -/
def nameB (l : List UInt8) : Bool := decide (nmF l = some l.length) && decide (lows l = l)
set_option maxRecDepth 100000 in
set_option maxHeartbeats 1600000 in
theorem isName_calls (s : ByteArray) (w : World) (hs : s.size ≤ 9223372036854775807) :
    Calls Tryz.prog 17 #[.string s] w fun e w' => e = .returned (.bool (nameB s.data.toList)) ∧ Below w.heap.size w w' := by
  have hbs : ∀ W : World, (convert 9 72 (.string s)).run Tryz.prog W = _ := fun W => run_bytes_of_string (P := Tryz.prog) W 9 72 5 s Tryz.underlying9 Tryz.underlying72 Tryz.underlying5
  obtain ⟨cp, hcp⟩ : ∃ cp, cp = grownCap w s.size 0 5 := ⟨_, rfl⟩
  have hge : s.size ≤ cp := by rw [hcp]; exact grownCap_ge _ _ _ _
  obtain ⟨W, hW⟩ : ∃ W, W = (w.alloc (.cells (bytesRow s cp) 5 ((bytesRow s cp).size, (bytesRow s cp).size + 1))).drew := ⟨_, rfl⟩
  have HBT := Lib.hid (show Bt W w.heap.size 0 s.size cp s.data.toList from bt_made (w := w) hge (by rw [hW]; exact heap_alloc_new w _))
  have HBW := Lib.hid (show Below w.heap.size w W from by rw [hW]; exact below_drewN ((Below.refl _ _).alloc (Nat.le_refl _) _) 1)
  have HNM := Lib.hid (name_calls w.heap.size 0 s.size cp s.data.toList W HBT.out hs)
  have HLL := Lib.hid (show s.data.toList.length = s.size by simp)
  subst hW hcp
  clear hge
  unfold NmPost at HNM
  cases hnm : nmF s.data.toList with
  | none =>
    have HR := Lib.hid (show nameB s.data.toList = false from by unfold nameB; rw [hnm]; rfl)
    rw [hnm] at HNM
    dsimp only at HNM
    clear hnm
    go_enter Tryz.func17, Tryz.ntmps17
    go_wp2_with (go_at_call 53; refine HNM.out.mono ?_; rintro e w' ⟨rfl, hb⟩; have HB2 := Lib.hid hb; clear hb)
    go_ret
    exact ⟨by rw [HR.out]; first | rfl | simp, HBW.out.trans (HB2.out.mono HBW.out.size)⟩
  | some k =>
    rw [hnm] at HNM
    dsimp only at HNM
    have hk := nmF_some hnm
    have hkl : k ≤ s.size := by have := HLL.out; omega
    have HNK := Lib.hid hnm
    clear hnm hk
    by_cases hks : s.size = k
    · subst hks
      have HTK := Lib.hid (show s.data.toList.take s.size = s.data.toList from List.take_of_length_le (by simp))
      rw [HTK.out] at HNM
      have v1 : ((s.size - s.size : Nat) : Int) = 0 := by omega
      rw [Nat.sub_self] at HNM
      go_enter Tryz.func17, Tryz.ntmps17
      go_wp2_with (go_at_call 53; refine HNM.out.mono ?_; rintro e w' ⟨rfl, hb⟩; have HB2 := Lib.hid hb; clear hb)
      go_ret
      refine ⟨?_, HBW.out.trans (HB2.out.mono HBW.out.size)⟩
      show Ending.returned (.bool ((st (lows s.data.toList)).toList == s.toList)) = _
      rw [ByteArray.toList_eq, ByteArray.toList_eq]
      unfold nameB
      rw [HNK.out, HLL.out]
      simp [st]
      rw [Bool.eq_iff_iff]
      simp
    · have v1 : ((s.size - k : Nat) : Int) ≠ 0 := by omega
      have v2 : (((s.size - k : Nat) : Int) == 0) = false := by simp; omega
      have HR := Lib.hid (show nameB s.data.toList = false from by unfold nameB; rw [HNK.out, HLL.out]; simp; omega)
      clear HNK
      go_enter Tryz.func17, Tryz.ntmps17
      go_wp2_with (go_at_call 53; refine HNM.out.mono ?_; rintro e w' ⟨rfl, hb⟩; have HB2 := Lib.hid hb; clear hb)
      go_ret
      exact ⟨by rw [HR.out]; first | rfl | simp, HBW.out.trans (HB2.out.mono HBW.out.size)⟩
set_option maxRecDepth 100000 in
set_option maxHeartbeats 1600000 in
theorem cutp_calls (s p : ByteArray) (w : World) :
    Calls Tryz.prog 121 #[.string s, .string p] w fun e w' => e = .returned (.tuple #[.string ⟨(Lib.trimPrefix s.data.toList p.data.toList).toArray⟩, .bool (Lib.hasPrefix s.data.toList p.data.toList)]) ∧ w = w' := by
  go_enter Tryz.func121, Tryz.ntmps121
  go_wp2
  · have h2 : (!((s.extract 0 p.size).toList == p.toList)) = true := by assumption
    have h3 : (decide (p.size ≤ s.size) && ((s.extract 0 p.size).toList == p.toList)) = false := by
      have : ((s.extract 0 p.size).toList == p.toList) = false := by simpa using h2
      rw [this]
      simp
    go_ret2
    refine ⟨?_, rfl⟩
    rw [Lib.trimPrefix_miss s p h3, ← Lib.hasPrefix_raw, h3]
    rfl
  · have h1 : p.size ≤ s.size := by assumption
    have h2 : (!((s.extract 0 p.size).toList == p.toList)) = false := by assumption
    have h2' : ((s.extract 0 p.size).toList == p.toList) = true := by simpa using h2
    go_ret2
    refine ⟨?_, rfl⟩
    rw [Lib.trimPrefix_hit s p h1 h2', ← Lib.hasPrefix_raw, h2', decide_eq_true h1]
    rfl
  · have h1 : ¬ p.size ≤ s.size := by assumption
    have h3 : (decide (p.size ≤ s.size) && ((s.extract 0 p.size).toList == p.toList)) = false := by simp [h1]
    go_ret2
    refine ⟨?_, rfl⟩
    rw [Lib.trimPrefix_miss s p h3, ← Lib.hasPrefix_raw, h3]
    rfl
set_option maxRecDepth 100000 in
set_option maxHeartbeats 1600000 in
theorem index1_calls (s : ByteArray) (w : World) :
    Calls Tryz.prog 142 #[.string s, .string ⟨#[34]⟩] w fun e w' => e = .returned (.int .i64 (Lib.indexByte s.data.toList 34)) ∧ w = w' := by
  have HS := Lib.hid (show Calls Tryz.prog 130 #[.string s, .int .u8 34] w fun e w' => e = .returned (.int .i64 (Lib.indexByte s.data.toList 34)) ∧ w = w' from sidx_calls s 34 w)
  obtain ⟨b, hb⟩ : ∃ b, ([34] == s.toList) = b := ⟨_, rfl⟩
  cases b with
  | true =>
    have HX := Lib.hid (show Lib.indexByte s.data.toList 34 = 0 from by
      have h : [34] = s.toList := by simpa using hb
      rw [← ByteArray.toList_eq, ← h]
      rfl)
    go_enter Tryz.func142, Tryz.ntmps142
    go_wp2_with (go_at_call 130; refine HS.out.mono ?_; rintro e w' ⟨rfl, rfl⟩)
    go_ret
    exact ⟨by rw [HX.out]; rfl, rfl⟩
  | false =>
    go_enter Tryz.func142, Tryz.ntmps142
    go_wp2_with (go_at_call 130; refine HS.out.mono ?_; rintro e w' ⟨rfl, rfl⟩)
    go_ret
    exact ⟨rfl, rfl⟩
set_option maxRecDepth 100000 in
set_option maxHeartbeats 1600000 in
theorem lcut_miss (s : ByteArray) (w : World) (h : Lib.indexByte s.data.toList 34 = -1) :
    Calls Tryz.prog 132 #[.string s, .string ⟨#[34]⟩] w fun e w' => e = .returned (.tuple #[.string s, .string ⟨#[]⟩, .bool false]) ∧ w = w' := by
  have HS := Lib.hid (index1_calls s w)
  rw [h] at HS
  clear h
  go_enter Tryz.func132, Tryz.ntmps132
  go_wp2_with (go_at_call 142; refine HS.out.mono ?_; rintro e w' ⟨rfl, rfl⟩)
  go_ret3
  exact ⟨rfl, rfl⟩
set_option maxRecDepth 100000 in
set_option maxHeartbeats 1600000 in
theorem lcut_hit (s : ByteArray) (k : Nat) (w : World) (h : Lib.indexByte s.data.toList 34 = k) (hk : k < s.size) (hs : s.size ≤ 600000) :
    Calls Tryz.prog 132 #[.string s, .string ⟨#[34]⟩] w fun e w' => e = .returned (.tuple #[.string (s.extract 0 k), .string (s.extract (k + 1) s.size), .bool true]) ∧ ∃ n, w' = w.drewN n := by
  have HS := Lib.hid (index1_calls s w)
  rw [h] at HS
  clear h
  have v1 : (k : Int) < (s.size : Int) := by omega
  have v2 : (0 : Int) ≤ (k : Int) := by omega
  have v3 : (s.size : Int) ≤ 600000 := by omega
  have v4 : IntKind.i64.wrap ((k : Int) + 1) = ((k + 1 : Nat) : Int) := by rw [i64_in _ ⟨by omega, by omega⟩]; omega
  have v5 : ((k + 1 : Nat) : Int) ≤ (s.size : Int) := by omega
  have v6 : (0 : Int) ≤ ((k + 1 : Nat) : Int) := by omega
  go_enter Tryz.func132, Tryz.ntmps132
  go_upto_region 3 with (go_at_call 142; refine HS.out.mono ?_; rintro e w' ⟨rfl, rfl⟩)
  go_quiet (fail)
  go_wp2_with fail
  go_ret3
  exact ⟨rfl, _, rfl⟩
/-- 'strings.Cut' at a quote, and where it stands. -/
theorem idx_tw (l : List UInt8) : (34 ∈ l → Lib.indexByte l 34 = ((l.takeWhile (· != 34)).length : Int) ∧ (l.takeWhile (· != 34)).length < l.length) ∧ (34 ∉ l → Lib.indexByte l 34 = -1) := by
  induction l with
  | nil => simp [Lib.indexByte]
  | cons c l ih =>
    unfold Lib.indexByte
    by_cases hc : c = 34
    · subst hc
      simp
    · have h1 : (c == 34) = false := by simpa using hc
      have h2 : (c != 34) = true := by simpa using hc
      rw [h1, List.takeWhile_cons, h2]
      refine ⟨fun h => ?_, fun h => ?_⟩
      · have hm : 34 ∈ l := by
          rcases List.mem_cons.1 h with h | h
          · exact absurd h.symm hc
          · exact h
        obtain ⟨h3, h4⟩ := ih.1 hm
        rw [h3]
        have h5 : (((l.takeWhile (· != 34)).length : Int) == -1) = false := by first | (simp; done) | (simp; omega)
        simp only [Bool.false_eq_true, if_false, if_true, h5, List.length_cons]
        omega
      · have hm : 34 ∉ l := fun hm => h (List.mem_cons_of_mem _ hm)
        rw [ih.2 hm]
        rfl
set_option maxRecDepth 100000 in
set_option maxHeartbeats 1600000 in
theorem cut_miss (s : ByteArray) (w : World) (h : 34 ∉ s.data.toList) :
    Calls Tryz.prog 122 #[.string s, .string ⟨#[34]⟩] w fun e w' => e = .returned (.tuple #[.string s, .string ⟨#[]⟩, .bool false]) ∧ w = w' := by
  have HS := Lib.hid (lcut_miss s w ((idx_tw _).2 h))
  clear h
  go_enter Tryz.func122, Tryz.ntmps122
  go_wp2_with (go_at_call 132; refine HS.out.mono ?_; rintro e w' ⟨rfl, rfl⟩)
  go_ret3
  exact ⟨rfl, rfl⟩
set_option maxRecDepth 100000 in
set_option maxHeartbeats 1600000 in
theorem cut_hit (s : ByteArray) (k : Nat) (w : World) (h : 34 ∈ s.data.toList) (hk : (s.data.toList.takeWhile (· != 34)).length = k) (hs : s.size ≤ 600000) :
    Calls Tryz.prog 122 #[.string s, .string ⟨#[34]⟩] w fun e w' => e = .returned (.tuple #[.string (s.extract 0 k), .string (s.extract (k + 1) s.size), .bool true]) ∧ ∃ n, w' = w.drewN n := by
  have h1 := (idx_tw _).1 h
  rw [hk] at h1
  have HS := Lib.hid (lcut_hit s k w h1.1 (by have := h1.2; simpa using this) hs)
  clear h hk h1
  go_enter Tryz.func122, Tryz.ntmps122
  go_wp2_with (go_at_call 132; refine HS.out.mono ?_; rintro e w' ⟨rfl, n, rfl⟩)
  go_ret3
  exact ⟨rfl, _, rfl⟩
/-- What stands quoted behind a sign of equality. -/
def qF (l : List UInt8) : Option (List UInt8) := if Lib.hasPrefix l [61, 34] then (if 34 ∈ l.drop 2 then some ((l.drop 2).takeWhile (· != 34)) else none) else none
theorem qF_some {l v : List UInt8} (h : qF l = some v) : v.length + 3 ≤ l.length ∧ 34 ∈ l.drop 2 ∧ v = (l.drop 2).takeWhile (· != 34) ∧ Lib.hasPrefix l [61, 34] = true := by
  unfold qF at h
  split at h
  · rename_i hp
    split at h
    · rename_i hm
      injection h with h
      have h1 := ((idx_tw _).1 hm).2
      rw [h] at h1
      rw [List.length_drop] at h1
      exact ⟨by omega, hm, h.symm, hp⟩
    · cases h
  · cases h
/-- What 'quoted' tells. -/
def QuPost (g a n c : Nat) (l : List UInt8) (w : World) (e : Ending) (w' : World) : Prop :=
  (match qF l with
    | none => e = .returned (.tuple #[.string ⟨#[]⟩, .slice (some ⟨g, a, none⟩) n c, .bool false])
    | some v => e = .returned (.tuple #[.string (st (tellF (st v) 0)), .slice (some ⟨g, bof a n (v.length + 3), none⟩) (n - (v.length + 3)) (n - (v.length + 3)), .bool true])) ∧ Below w.heap.size w w'
set_option maxRecDepth 100000 in
set_option maxHeartbeats 1600000 in
theorem quoted_calls (g a n c : Nat) (l : List UInt8) (w : World) (hB : Bt w g a n c l) (hn : n ≤ 600000) :
    Calls Tryz.prog 107 #[.slice (some ⟨g, a, none⟩) n c] w (QuPost g a n c l w) := by
  have HB := Lib.hid hB
  have HLN := Lib.hid hB.len
  have HCP := Lib.hid hB.cap
  have hcv : (convert 72 9 (.slice (some ⟨g, a, none⟩) n c)).run Tryz.prog w = .ok (.string (st l)) w := by
    have h := conv_bt hB (c' := c) (Nat.le_refl n)
    rw [List.take_of_length_le (by rw [hB.len]; exact Nat.le_refl _)] at h
    exact h
  clear hB
  obtain ⟨b, hb⟩ : ∃ b, Lib.hasPrefix l [61, 34] = b := ⟨_, rfl⟩
  have HP := Lib.hid hb
  obtain ⟨r, hr⟩ : ∃ r, Lib.trimPrefix l [61, 34] = r := ⟨_, rfl⟩
  have HC := Lib.hid (show Calls Tryz.prog 121 #[.string (st l), .string ⟨#[61, 34]⟩] w fun e w' => e = .returned (.tuple #[.string (st r), .bool b]) ∧ w = w' from by
    have h := cutp_calls (st l) ⟨#[61, 34]⟩ w
    have e1 : (st l).data.toList = l := rfl
    have e2 : (⟨#[61, 34]⟩ : ByteArray).data.toList = [61, 34] := rfl
    rw [e1, e2, hb, hr] at h
    exact h)
  have HR := Lib.hid (show r.length ≤ n from by
    rw [← hr, ← HLN.out]
    unfold Lib.trimPrefix
    split
    · rw [List.length_drop]; omega
    · exact Nat.le_refl _)
  have HRD := Lib.hid (show b = true → r = l.drop 2 from fun h => by rw [← hr]; unfold Lib.trimPrefix; rw [hb, h]; rfl)
  clear hb hr
  have er : (st r).data.toList = r := rfl
  have es : (st r).size = r.length := by unfold st; simp [ByteArray.size]
  by_cases hm : 34 ∈ r
  · obtain ⟨k, hk⟩ : ∃ k, (r.takeWhile (· != 34)).length = k := ⟨_, rfl⟩
    have HK := Lib.hid hk
    have HKL := Lib.hid (show k < r.length from by have := ((idx_tw _).1 hm).2; omega)
    have HM := Lib.hid hm
    have HX := Lib.hid (show (st r).extract 0 k = st (r.takeWhile (· != 34)) from by
      apply ByteArray.ext
      apply Array.toList_inj.1
      rw [Lib.extract_data, er]
      show List.take (k - 0) (r.drop 0) = r.takeWhile (· != 34)
      rw [Nat.sub_zero, List.drop_zero, ← hk]
      exact (List.prefix_iff_eq_take.1 (List.takeWhile_prefix _)).symm)
    have HCU := Lib.hid (cut_hit (st r) k w hm hk (by rw [es]; have := HR.out; omega))
    clear hk hm er es
    cases b with
    | true =>
      have HQ := Lib.hid (show qF l = some (r.takeWhile (· != 34)) from by
        unfold qF
        rw [HP.out, ← HRD.out rfl, if_pos rfl, if_pos HM.out])
      obtain ⟨v, hv⟩ : ∃ v, v = r.takeWhile (· != 34) := ⟨_, rfl⟩
      rw [← hv] at HX HQ HK
      rw [HX.out] at HCU
      have HV := Lib.hid hv
      have HT := Lib.hid (show (st v).size = k from by rw [← HK.out]; unfold st; simp [ByteArray.size])
      have hlen : (st v).size = k := HT.out
      clear hv hlen
      have k1 : (k : Int) ≤ 600000 := by have := HKL.out; have := HR.out; omega
      have k0 : (0 : Int) ≤ (k : Int) := by omega
      have HQL := Lib.hid (qF_some HQ.out)
      have HVL := Lib.hid (show v.length = k from HK.out)
      have hk3 : k + 3 ≤ n := by have := HQL.out.1; have := HVL.out; have := HLN.out; omega
      have HTL := Lib.hid (show Lib.hasPrefix l [61, 34] = true from HP.out)
      rw [← HT.out] at k1 k0
      go_enter Tryz.func107, Tryz.ntmps107
      go_upto_region 6 with (first | (go_at_call 121; refine HC.out.mono ?_; rintro e w' ⟨rfl, rfl⟩) | (go_at_call 122; refine HCU.out.mono ?_; rintro e w' ⟨rfl, nd, rfl⟩))
      have hC0 : NmC w (w.drewN (nd + 1)) 0 (w.drewN nd).drew := rfl
      have ne : Nonempty (Mix.Wd (NmC w (w.drewN (nd + 1))) 0) := ⟨⟨(w.drewN nd).drew, 0, Nat.le_refl _, hC0⟩⟩
      have hsl : ∀ W : World, (Instr.slice 72 (.slice (some ⟨g, a, none⟩) n c) (some (.int .i64 (((st v).size : Int) + 3))) (some (.int .i64 (n : Int))) (some (.int .i64 (n : Int)))).run Tryz.prog W = .ok (.slice (some ⟨g, bof a n (k + 3), none⟩) (n - (k + 3)) (n - (k + 3))) W := fun W => by
        have h := slice_lhm W g a n c (k + 3) hk3 HCP.out
        rw [HT.out]
        exact h
      refine Mix.wp_region_mix (C := NmC w (w.drewN (nd + 1))) [1] (by kernel_rfl) (by kernel_rfl) hC0 ?_
      iterate 1 (refine Mix.mix_still (by decide) (fun K hK => ?_); go_simp; refine hK _ ?_; clear hK K)
      refine Mix.mix_turn (by decide) (fun K hK => ?_)
      go_simp
      refine ⟨_, fun y hy => (tell_calls (st v) y (by rw [HT.out]; have := HKL.out; have := HR.out; omega)).mono fun e w' h => ⟨h.1, by have hy' : y = w.drewN (nd + 1) := hy; rw [hy'] at h; exact (below_drewN (Below.refl w.heap.size w) (nd + 1)).trans h.2⟩, hK _ ?_⟩
      clear hK K
      iterate 10 (refine Mix.mix_still (by decide) (fun K hK => ?_); go_simp; refine hK _ ?_; clear hK K)
      refine Mix.mix_nil ?_
      intro w6 hw6
      have HW6 := Lib.hid (show Below w.heap.size w w6 from hw6)
      clear hw6 ne hC0 hsl
      show Exit.then _ _ _ _ w6
      go_wp2_with fail
      refine bodyPost_ret (v := .tuple #[.string ⟨(tellF (st v) 0).toArray⟩, .slice (some ⟨g, bof a n (k + 3), none⟩) (n - (k + 3)) (n - (k + 3)), .bool true]) (by simp [results, Tryz.results107, go_sem]) rfl ⟨by rw [HQ.out]; show _ = Ending.returned (.tuple #[.string (st (tellF (st v) 0)), .slice (some ⟨g, bof a n (v.length + 3), none⟩) (n - (v.length + 3)) (n - (v.length + 3)), .bool true]); rw [HVL.out]; rfl, HW6.out⟩
    | false =>
      have HQ := Lib.hid (show qF l = none from by unfold qF; rw [HP.out]; rfl)
      go_enter Tryz.func107, Tryz.ntmps107
      go_wp2_with (first | (go_at_call 121; refine HC.out.mono ?_; rintro e w' ⟨rfl, rfl⟩) | (go_at_call 122; refine HCU.out.mono ?_; rintro e w' ⟨rfl, nd, rfl⟩))
      refine bodyPost_ret (v := .tuple #[.string ⟨#[]⟩, .slice (some ⟨g, a, none⟩) n c, .bool false]) (by simp [results, Tryz.results107, go_sem]) rfl ⟨by rw [HQ.out], below_drewN (Below.refl _ _) _⟩
  · have HCU := Lib.hid (cut_miss (st r) w hm)
    have HQ := Lib.hid (show qF l = none from by
      unfold qF
      rw [HP.out]
      cases b with
      | false => rfl
      | true =>
        rw [← HRD.out rfl, if_neg hm]
        rfl)
    clear hm er es
    cases b with
    | true =>
      go_enter Tryz.func107, Tryz.ntmps107
      go_wp2_with (first | (go_at_call 121; refine HC.out.mono ?_; rintro e w' ⟨rfl, rfl⟩) | (go_at_call 122; refine HCU.out.mono ?_; rintro e w' ⟨rfl, rfl⟩))
      refine bodyPost_ret (v := .tuple #[.string ⟨#[]⟩, .slice (some ⟨g, a, none⟩) n c, .bool false]) (by simp [results, Tryz.results107, go_sem]) rfl ⟨by rw [HQ.out], Below.refl _ _⟩
    | false =>
      go_enter Tryz.func107, Tryz.ntmps107
      go_wp2_with (first | (go_at_call 121; refine HC.out.mono ?_; rintro e w' ⟨rfl, rfl⟩) | (go_at_call 122; refine HCU.out.mono ?_; rintro e w' ⟨rfl, rfl⟩))
      refine bodyPost_ret (v := .tuple #[.string ⟨#[]⟩, .slice (some ⟨g, a, none⟩) n c, .bool false]) (by simp [results, Tryz.results107, go_sem]) rfl ⟨by rw [HQ.out], Below.refl _ _⟩
end Go.Proofs.YtkjgnkmnngaioaaGreat.Q
namespace Go.Proofs.YtkjgnkmnngaioaaGreat.Q
open Go.RowKit Go.IntWalk Go.Proofs.YtkjgnkmnngaioaaGreat.Mem
set_option linter.unusedVariables false
set_option linter.unusedSimpArgs false
/-- A closing: how long its name is, and how many bytes it takes. -/
def clF (l : List UInt8) : Option (Nat × Nat) :=
  if l.length < 2 then none else if l.getD 1 0 ≠ 47 then none else
    match nmF (l.drop 2) with
    | none => none
    | some k => if (l.drop (2 + k + spLen (l.drop (2 + k)))).head? = some 62 then some (k, 2 + k + spLen (l.drop (2 + k)) + 1) else none
/-- The cells of a token. -/
def TK (k : Int) (n t a : Value) : Array Value := #[.int .i64 k, n, t, a]
def nil8 : Value := .slice none 0 0
def emv : Value := .string ⟨#[]⟩
/-- What is taken. -/
def TakePost (g a n : Nat) (w : World) (tok : Array Value) (u : Nat) (e : Ending) : Prop :=
  ∃ a', (u < n → a' = a + u) ∧ e = .returned (.tuple #[.agg tok, .slice (some ⟨g, a', none⟩) (n - u) (n - u), .bool true])
theorem tk_all (k : Int) (n t : ByteArray) (p : Option Addr) (x y : Nat) : (TK k (.string n) (.string t) (.slice p x y)).all (·.oneCell') = true := by unfold TK; simp; exact ⟨rfl, rfl, rfl, rfl⟩
theorem info_tok (k : Int) (n t a : Value) : (Tryz.prog.info? 46).map (·.size) = some (TK k n t a).size := by
  have h : (Tryz.prog.info? 46).map (·.size) = some 4 := by kernel_rfl
  exact h
def NonePost (e : Ending) : Prop := e = .returned (.tuple #[.agg (TK 0 emv emv nil8), nil8, .bool false])
def ClPost (g a n : Nat) (l : List UInt8) (w : World) (e : Ending) (w' : World) : Prop :=
  (match clF l with
    | none => NonePost e
    | some (k, u) => TakePost g a n w (TK 2 (.string (st (lows ((l.drop 2).take k)))) emv nil8) u e) ∧ Below w.heap.size w w'
/-- Ahead of the store, and behind it. -/
def ClC (h : Nat) (cs : Array Value) (w w1 : World) : Nat → World → Prop
  | 0, y => y = w1
  | _, y => Blk y h cs 46 ∧ Below w.heap.size w y
set_option maxRecDepth 100000 in
set_option maxHeartbeats 4000000 in
theorem closing_calls (g a n c : Nat) (l : List UInt8) (w : World) (hB : Bt w g a n c l) (hn : n ≤ 600000) :
    Calls Tryz.prog 85 #[.slice (some ⟨g, a, none⟩) n c] w (ClPost g a n l w) := by
  have HB := Lib.hid hB
  have HLN := Lib.hid hB.len
  have HCP := Lib.hid hB.cap
  clear hB
  by_cases h2 : n < 2
  · have HN := Lib.hid (show clF l = none from by unfold clF; rw [if_pos (by rw [HLN.out]; exact h2)])
    have v1 : (n : Int) < 2 := by omega
    go_enter Tryz.func85, Tryz.ntmps85
    go_wp2_with fail
    refine bodyPost_ret (v := .tuple #[.agg (TK 0 emv emv nil8), nil8, .bool false]) (by simp [results, Tryz.results85, go_sem, TK, emv, nil8]) rfl ⟨by rw [HN.out]; exact rfl, (Below.refl _ _).alloc (Nat.le_refl _) _⟩
  · have v1 : ¬ (n : Int) < 2 := by omega
    have hl1 : 1 < l.length := by have := HLN.out; omega
    obtain ⟨d, hd⟩ : ∃ d, d = l[1]'hl1 := ⟨_, rfl⟩
    have d0 : w.cell? ⟨g, a + 1, none⟩ = some (.int .u8 (d.toNat : Int)) := by rw [hd]; exact HB.out.cell 1 hl1
    have HD := Lib.hid (show l.getD 1 0 = d from by rw [hd, List.getD_eq_getElem?_getD, List.getElem?_eq_getElem hl1]; rfl)
    have hga : g < w.heap.size := lt_of_cell d0
    have d0' : ∀ o, (w.alloc o).cell? ⟨g, a + 1, none⟩ = some (.int .u8 (d.toNat : Int)) := fun o => (World.cell?_of_block (Below.heap_alloc _ _ _ hga)).trans d0
    clear hd
    by_cases h47 : d = 47
    · subst h47
      have hc2 : 2 ≤ c := by have := HCP.out; omega
      obtain ⟨a1, ha1⟩ : ∃ a1, a1 = bof a c 2 := ⟨_, rfl⟩
      have hsl : ∀ W : World, (Instr.slice 72 (.slice (some ⟨g, a, none⟩) n c) (some (.int .i64 2)) none none).run Tryz.prog W = .ok (.slice (some ⟨g, a1, none⟩) (n - 2) (c - 2)) W := fun W => by
        have h := slice_l W g a n c 2 (by omega) HCP.out
        rw [← ha1] at h
        exact h
      obtain ⟨W, hW⟩ : ∃ W, W = w.alloc (.cells (TK 0 emv emv nil8) 46) := ⟨_, rfl⟩
      have HBW := Lib.hid (show Below w.heap.size w W from by rw [hW]; exact (Below.refl _ _).alloc (Nat.le_refl _) _)
      have HB1 := Lib.hid (show Bt W g a1 (n - 2) (c - 2) (l.drop 2) from (HB.out.below HBW.out).drop (by omega) (fun h => by rw [ha1]; exact bof_lt (by have := HCP.out; omega)) (by have := HCP.out; omega))
      have HBK := Lib.hid (show Blk W w.heap.size (TK 0 emv emv nil8) 46 from by rw [hW]; exact Blk.alloc _ _ _)
      have HNM := Lib.hid (name_calls g a1 (n - 2) (c - 2) (l.drop 2) W HB1.out (by omega))
      rw [hW] at HNM
      unfold NmPost at HNM
      have HA1 := Lib.hid (show 2 < c → a1 = a + 2 from fun h => by rw [ha1]; exact bof_lt h)
      clear ha1
      cases hnm : nmF (l.drop 2) with
      | none =>
        have HN := Lib.hid (show clF l = none from by
          unfold clF
          rw [if_neg (by rw [HLN.out]; exact h2), if_neg (by rw [HD.out]; exact fun h => h rfl), hnm])
        rw [hnm] at HNM
        dsimp only at HNM
        clear hnm
        go_enter Tryz.func85, Tryz.ntmps85
        go_wp2_with (first | (go_at_call 53; refine HNM.out.mono ?_; rintro e w1 ⟨rfl, hb⟩; have HB2 := Lib.hid (show Below w.heap.size w w1 from by have h1 := HBW.out; rw [hW] at h1; exact h1.trans (hb.mono h1.size)); have HK := Lib.hid (show Blk w1 w.heap.size (TK 0 emv emv nil8) 46 from HBK.out.below (by rw [hW]; exact hb) HBK.out.lt); clear hb) | (refine Mix.wpList_store_blk (o := ⟨none, .store 46 _ _, _, _, _, _⟩) rfl 46 _ _ rfl w.heap.size (TK 0 emv emv nil8) rfl rfl 46 (TK 0 emv emv nil8) HK.out (info_tok _ _ _ _) rfl (tk_all _ _ _ _ _ _) ?_; intro W3 hb3 hbu hsz3; have e1 : W3.cell? ⟨w.heap.size, 0, none⟩ = some (.int .i64 0) := hb3.cell 0; have e2 : W3.cell? ⟨w.heap.size, 1, none⟩ = some emv := hb3.cell 1; have e3 : W3.cell? ⟨w.heap.size, 2, none⟩ = some emv := hb3.cell 2; have e4 : W3.cell? ⟨w.heap.size, 3, none⟩ = some nil8 := hb3.cell 3; have HB3 := Lib.hid hb3; have HBU := Lib.hid hbu; have HSZ := Lib.hid hsz3; clear hb3 hbu hsz3))
        refine bodyPost_ret (v := .tuple #[.agg (TK 0 emv emv nil8), nil8, .bool false]) (by simp [results, Tryz.results85, go_sem, e1, e2, e3, e4]; first | done | exact ⟨rfl, rfl⟩) rfl ⟨by rw [HN.out]; exact rfl, HB2.out.trans (HBU.out.below (Nat.le_refl _) HB2.out.size)⟩
      | some k =>
        rw [hnm] at HNM
        dsimp only at HNM
        have hk := nmF_some hnm
        have hkl : k ≤ n - 2 := by have := hk.2.2.2.1; rw [List.length_drop, HLN.out] at this; exact this
        have HNK := Lib.hid hnm
        clear hnm hk
        obtain ⟨a2, ha2⟩ : ∃ a2, a2 = bof a1 (n - 2) k := ⟨_, rfl⟩
        rw [← ha2] at HNM
        have HBT2 := Lib.hid (show ∀ w1, Below w.heap.size w w1 → Bt w1 g a2 (n - 2 - k) (n - 2 - k) (l.drop (2 + k)) from fun w1 hb => by
          have h := HB.out.below hb
          have h2 := (h.drop (k := 2) (a' := a1) (c' := n - 2) (by omega) (fun h => HA1.out (by have := HCP.out; omega)) (Nat.le_refl _)).drop (k := k) (a' := a2) (c' := n - 2 - k) (by omega) (fun h => by rw [ha2]; exact bof_lt h) (Nat.le_refl _)
          rw [List.drop_drop] at h2
          exact h2)
        have HA2 := Lib.hid (show k < n - 2 → a2 = a + (2 + k) from fun h => by rw [ha2, bof_lt h, HA1.out (by have := HCP.out; omega)]; omega)
        clear ha2
        obtain ⟨sp, hsp⟩ : ∃ sp, spLen (l.drop (2 + k)) = sp := ⟨_, rfl⟩
        have hspl : sp ≤ n - 2 - k := by have h := spLen_le (l.drop (2 + k)); rw [hsp, List.length_drop, HLN.out] at h; omega
        have HSP := Lib.hid hsp
        obtain ⟨a3, ha3⟩ : ∃ a3, a3 = bof a2 (n - 2 - k) sp := ⟨_, rfl⟩
        obtain ⟨m, hm⟩ : ∃ m, m = n - 2 - k - sp := ⟨_, rfl⟩
        have HBT3 := Lib.hid (show ∀ w1, Below w.heap.size w w1 → Bt w1 g a3 m m (l.drop (2 + k + sp)) from fun w1 hb => by
          have h2 := (HBT2.out w1 hb).drop (k := sp) (a' := a3) (c' := m) (by omega) (fun h => by rw [ha3]; exact bof_lt h) (by omega)
          rw [List.drop_drop, ← hm] at h2
          exact h2)
        have HSC := Lib.hid (show ∀ w1, Below w.heap.size w w1 → Calls Tryz.prog 106 #[.slice (some ⟨g, a2, none⟩) (n - 2 - k) (n - 2 - k)] w1 fun e w' => e = .returned (.tuple #[.slice (some ⟨g, a3, none⟩) m m, .bool (decide (0 < sp))]) ∧ w1 = w' from fun w1 hb => by
          have h := space_calls g a2 (n - 2 - k) (n - 2 - k) (l.drop (2 + k)) w1 (HBT2.out w1 hb) (by omega)
          unfold SpPost at h
          rw [hsp, ← ha3, ← hm] at h
          exact h)
        have HM := Lib.hid hm
        have HA3 := Lib.hid (show sp < n - 2 - k → a3 = a + (2 + k + sp) from fun h => by rw [ha3, bof_lt h, HA2.out (by omega)]; omega)
        clear hsp ha3 hm
        by_cases hm0 : m = 0
        · subst hm0
          have HN := Lib.hid (show clF l = none from by
            unfold clF
            rw [if_neg (by rw [HLN.out]; exact h2), if_neg (by rw [HD.out]; exact fun h => h rfl), HNK.out]
            dsimp only
            rw [HSP.out, if_neg (by
              rw [List.drop_of_length_le (by rw [HLN.out]; have := HM.out; omega)]
              simp)])
          go_enter Tryz.func85, Tryz.ntmps85
          go_wp2_with (first | (go_at_call 53; refine HNM.out.mono ?_; rintro e w1 ⟨rfl, hb⟩; have HB2 := Lib.hid (show Below w.heap.size w w1 from by have h1 := HBW.out; rw [hW] at h1; exact h1.trans (hb.mono h1.size)); have HK := Lib.hid (show Blk w1 w.heap.size (TK 0 emv emv nil8) 46 from HBK.out.below (by rw [hW]; exact hb) HBK.out.lt); clear hb) | (go_at_call 106; refine (HSC.out _ HB2.out).mono ?_; rintro e w2 ⟨rfl, rfl⟩) | (refine Mix.wpList_store_blk (o := ⟨none, .store 46 _ _, _, _, _, _⟩) rfl 46 _ _ rfl w.heap.size (TK 0 emv emv nil8) rfl rfl 46 (TK 0 emv emv nil8) HK.out (info_tok _ _ _ _) rfl (tk_all _ _ _ _ _ _) ?_; intro W3 hb3 hbu hsz3; have e1 : W3.cell? ⟨w.heap.size, 0, none⟩ = some (.int .i64 0) := hb3.cell 0; have e2 : W3.cell? ⟨w.heap.size, 1, none⟩ = some emv := hb3.cell 1; have e3 : W3.cell? ⟨w.heap.size, 2, none⟩ = some emv := hb3.cell 2; have e4 : W3.cell? ⟨w.heap.size, 3, none⟩ = some nil8 := hb3.cell 3; have HB3 := Lib.hid hb3; have HBU := Lib.hid hbu; have HSZ := Lib.hid hsz3; clear hb3 hbu hsz3))
          refine bodyPost_ret (v := .tuple #[.agg (TK 0 emv emv nil8), nil8, .bool false]) (by simp [results, Tryz.results85, go_sem, e1, e2, e3, e4]; first | done | exact ⟨rfl, rfl⟩) rfl ⟨by rw [HN.out]; exact rfl, HB2.out.trans (HBU.out.below (Nat.le_refl _) HB2.out.size)⟩
        · have hm1 : 0 < m := by omega
          have hll : 0 < (l.drop (2 + k + sp)).length := by rw [List.length_drop, HLN.out]; have := HM.out; omega
          obtain ⟨d5, hd5⟩ : ∃ d5, d5 = (l.drop (2 + k + sp))[0]'hll := ⟨_, rfl⟩
          have HD5 := Lib.hid (show (l.drop (2 + k + sp)).head? = some d5 from by rw [hd5, List.head?_eq_getElem?, List.getElem?_eq_getElem hll])
          have HC5 := Lib.hid (show ∀ w1, Below w.heap.size w w1 → w1.cell? ⟨g, a3, none⟩ = some (.int .u8 (d5.toNat : Int)) from fun w1 hb => by
            rw [hd5]
            exact (HBT3.out w1 hb).cell 0 hll)
          have v3 : ((m : Int) == 0) = false := by simp; omega
          clear hd5 hll
          by_cases h62 : d5 = 62
          · subst h62
            have HN := Lib.hid (show clF l = some (k, 2 + k + sp + 1) from by
              unfold clF
              rw [if_neg (by rw [HLN.out]; exact h2), if_neg (by rw [HD.out]; exact fun h => h rfl), HNK.out]
              dsimp only
              rw [HSP.out, if_pos HD5.out])
            obtain ⟨a4, ha4⟩ : ∃ a4, a4 = bof a3 m 1 := ⟨_, rfl⟩
            have hsl2 : ∀ W : World, (Instr.slice 72 (.slice (some ⟨g, a3, none⟩) m m) (some (.int .i64 1)) (some (.int .i64 (m : Int))) (some (.int .i64 (m : Int)))).run Tryz.prog W = .ok (.slice (some ⟨g, a4, none⟩) (m - 1) (m - 1)) W := fun W => by
              have h := slice_lhm W g a3 m m 1 (by omega) (Nat.le_refl _)
              rw [← ha4] at h
              exact h
            have HA4 := Lib.hid (show 2 + k + sp + 1 < n → a4 = a + (2 + k + sp + 1) from fun h => by
              have hm := HM.out
              rw [ha4, bof_lt (by omega), HA3.out (by omega)]
              omega)
            clear ha4
            go_enter Tryz.func85, Tryz.ntmps85
            go_upto_region 9 with (first | (go_at_call 53; refine HNM.out.mono ?_; rintro e w1 ⟨rfl, hb⟩; have HB2 := Lib.hid (show Below w.heap.size w w1 from by have h1 := HBW.out; rw [hW] at h1; exact h1.trans (hb.mono h1.size)); have HK := Lib.hid (show Blk w1 w.heap.size (TK 0 emv emv nil8) 46 from HBK.out.below (by rw [hW]; exact hb) HBK.out.lt); clear hb; have c5 := HC5.out w1 HB2.out) | (go_at_call 106; refine (HSC.out _ HB2.out).mono ?_; rintro e w2 ⟨rfl, rfl⟩))
            have hC0 : ClC w.heap.size (TK 2 (.string (st (lows ((l.drop 2).take k)))) emv nil8) w w1.drew 0 w1.drew := rfl
            have ne : Nonempty (Mix.Wd (ClC w.heap.size (TK 2 (.string (st (lows ((l.drop 2).take k)))) emv nil8) w w1.drew) 0) := ⟨⟨w1.drew, 0, Nat.le_refl _, hC0⟩⟩
            refine Mix.wp_region_mix (C := ClC w.heap.size (TK 2 (.string (st (lows ((l.drop 2).take k)))) emv nil8) w w1.drew) [8] (by kernel_rfl) (by kernel_rfl) hC0 ?_
            iterate 8 (refine Mix.mix_still (by decide) (fun K hK => ?_); go_simp; refine hK _ ?_; clear hK K)
            refine Mix.mix_store (by decide) rfl 46 _ _ rfl w.heap.size (TK 2 (.string (st (lows ((l.drop 2).take k)))) emv nil8) rfl rfl (info_tok _ _ _ _) (tk_all _ _ _ _ _ _) (fun y hy => ⟨46, TK 0 emv emv nil8, (by have hy' : y = w1.drew := hy; rw [hy']; exact HK.out.drew), rfl, (by have hy' : y = w1.drew := hy; rw [hy']; exact ⟨Mix.blk_setRow HK.out.drew, (below_drewN HB2.out 1).trans ((Mix.but_setRow _ _ _).below (Nat.le_refl _) HB2.out.size)⟩)⟩) ?_
            iterate 2 (refine Mix.mix_still (by decide) (fun K hK => ?_); go_simp; refine hK _ ?_; clear hK K)
            refine Mix.mix_nil ?_
            intro w6 hw6
            have hw6' : Blk w6 w.heap.size (TK 2 (.string (st (lows ((l.drop 2).take k)))) emv nil8) 46 ∧ Below w.heap.size w w6 := hw6
            have HW6 := Lib.hid hw6'.2
            have e1 : w6.cell? ⟨w.heap.size, 0, none⟩ = some (.int .i64 2) := hw6'.1.cell 0
            have e2 : w6.cell? ⟨w.heap.size, 1, none⟩ = some (.string (st (lows ((l.drop 2).take k)))) := hw6'.1.cell 1
            have e3 : w6.cell? ⟨w.heap.size, 2, none⟩ = some emv := hw6'.1.cell 2
            have e4 : w6.cell? ⟨w.heap.size, 3, none⟩ = some nil8 := hw6'.1.cell 3
            clear hw6 hw6' ne hC0 hsl hsl2
            show Exit.then _ _ _ _ w6
            go_wp2_with fail
            refine bodyPost_ret (v := .tuple #[.agg (TK 2 (.string (st (lows ((l.drop 2).take k)))) emv nil8), .slice (some ⟨g, a4, none⟩) (m - 1) (m - 1), .bool true]) (by simp [results, Tryz.results85, go_sem, e1, e2, e3, e4]; first | done | rfl) rfl ⟨by rw [HN.out]; exact ⟨a4, HA4.out, by have := HM.out; rw [show m - 1 = n - (2 + k + sp + 1) by omega]⟩, HW6.out⟩
          · have HN := Lib.hid (show clF l = none from by
              unfold clF
              rw [if_neg (by rw [HLN.out]; exact h2), if_neg (by rw [HD.out]; exact fun h => h rfl), HNK.out]
              dsimp only
              rw [HSP.out, if_neg (by rw [HD5.out]; intro h; injection h with h; exact h62 h)])
            have v4 : ((d5.toNat : Int) != 62) = true := by
              have : d5.toNat ≠ 62 := fun h => h62 (by apply UInt8.toNat_inj.1; exact h)
              simp; omega
            go_enter Tryz.func85, Tryz.ntmps85
            go_wp2_with (first | (go_at_call 53; refine HNM.out.mono ?_; rintro e w1 ⟨rfl, hb⟩; have HB2 := Lib.hid (show Below w.heap.size w w1 from by have h1 := HBW.out; rw [hW] at h1; exact h1.trans (hb.mono h1.size)); have HK := Lib.hid (show Blk w1 w.heap.size (TK 0 emv emv nil8) 46 from HBK.out.below (by rw [hW]; exact hb) HBK.out.lt); clear hb; have c5 := HC5.out w1 HB2.out) | (go_at_call 106; refine (HSC.out _ HB2.out).mono ?_; rintro e w2 ⟨rfl, rfl⟩) | (refine Mix.wpList_store_blk (o := ⟨none, .store 46 _ _, _, _, _, _⟩) rfl 46 _ _ rfl w.heap.size (TK 0 emv emv nil8) rfl rfl 46 (TK 0 emv emv nil8) HK.out (info_tok _ _ _ _) rfl (tk_all _ _ _ _ _ _) ?_; intro W3 hb3 hbu hsz3; have e1 : W3.cell? ⟨w.heap.size, 0, none⟩ = some (.int .i64 0) := hb3.cell 0; have e2 : W3.cell? ⟨w.heap.size, 1, none⟩ = some emv := hb3.cell 1; have e3 : W3.cell? ⟨w.heap.size, 2, none⟩ = some emv := hb3.cell 2; have e4 : W3.cell? ⟨w.heap.size, 3, none⟩ = some nil8 := hb3.cell 3; have HB3 := Lib.hid hb3; have HBU := Lib.hid hbu; have HSZ := Lib.hid hsz3; clear hb3 hbu hsz3))
            refine bodyPost_ret (v := .tuple #[.agg (TK 0 emv emv nil8), nil8, .bool false]) (by simp [results, Tryz.results85, go_sem, e1, e2, e3, e4]; first | done | exact ⟨rfl, rfl⟩) rfl ⟨by rw [HN.out]; exact rfl, HB2.out.trans (HBU.out.below (Nat.le_refl _) HB2.out.size)⟩
    · have HN := Lib.hid (show clF l = none from by unfold clF; rw [if_neg (by rw [HLN.out]; exact h2), if_pos (by rw [HD.out]; exact h47)])
      have v2 : ((d.toNat : Int) != 47) = true := by
        have : d.toNat ≠ 47 := fun h => h47 (by apply UInt8.toNat_inj.1; exact h)
        simp; omega
      go_enter Tryz.func85, Tryz.ntmps85
      go_wp2_with fail
      refine bodyPost_ret (v := .tuple #[.agg (TK 0 emv emv nil8), nil8, .bool false]) (by simp [results, Tryz.results85, go_sem, TK, emv, nil8]) rfl ⟨by rw [HN.out]; exact rfl, (Below.refl _ _).alloc (Nat.le_refl _) _⟩
end Go.Proofs.YtkjgnkmnngaioaaGreat.Q
namespace Go.Proofs.YtkjgnkmnngaioaaGreat.Q
open Go.RowKit Go.IntWalk Go.Proofs.YtkjgnkmnngaioaaGreat.Mem Go.Proofs.YtkjgnkmnngaioaaGreatW.PrintWords Go.Proofs.YtkjgnkmnngaioaaGreatW.PrintLast Go.Proofs.YtkjgnkmnngaioaaGreatW.PrintMore
set_option linter.unusedVariables false
set_option linter.unusedSimpArgs false
/-- An attribute is put behind the others, if none has its name. -/
def addA (l : List S70) (key : ByteArray) (v : ByteArray) : List S70 := if (l.any fun x => eqS x.f0 key) = true then l else l ++ [⟨key, v⟩]
/-- The attributes from a place on, and how many bytes are taken. -/
def opL (l : List UInt8) : Nat → Nat → List S70 → Option (List S70 × Nat)
  | 0, _, _ => none
  | f + 1, o, at_ =>
    if (l.drop (o + spLen (l.drop o))).head? = some 62 then some (at_, o + spLen (l.drop o) + 1) else
    match nmF (l.drop (o + spLen (l.drop o))) with
    | none => none
    | some k => if spLen (l.drop o) = 0 then none else
      match qF (l.drop (o + spLen (l.drop o) + k)) with
      | some v => opL l f (o + spLen (l.drop o) + k + (v.length + 3)) (addA at_ (st (lows ((l.drop (o + spLen (l.drop o))).take k))) (st (tellF (st v) 0)))
      | none => if (l.drop (o + spLen (l.drop o) + k)).head? = some 61 then none else opL l f (o + spLen (l.drop o) + k) (addA at_ (st (lows ((l.drop (o + spLen (l.drop o))).take k))) (st []))
/-- An opening: how long its name is, its attributes, and how many bytes it takes. -/
def opF (l : List UInt8) : Option (Nat × List S70 × Nat) :=
  match nmF (l.drop 1) with
  | none => none
  | some k => (opL l (l.length + 1) (1 + k) []).map fun (as_, u) => (k, as_, u)
/-- How long a slice is. -/
def slz : Value → Nat
  | .slice _ m _ => m
  | _ => 0
/-- A token that is told in cells of the call's own. -/
def TakeP (g a n : Nat) (w : World) (tok : S46) (u : Nat) (e : Ending) (w' : World) : Prop :=
  ∃ cs a', k46.M w' w.heap.size (fun _ => True) tok cs ∧ (u < n → a' = a + u) ∧ e = .returned (.tuple #[.agg cs.toArray, .slice (some ⟨g, a', none⟩) (n - u) (n - u), .bool true])
def OpPost (g a n : Nat) (l : List UInt8) (w : World) (e : Ending) (w' : World) : Prop :=
  (match opF l with
    | none => NonePost e
    | some (k, as_, u) => TakeP g a n w ⟨1, st (lows ((l.drop 1).take k)), ⟨#[]⟩, as_⟩ u e w') ∧ Below w.heap.size w w'
/-- What stands while an opening is taken. -/
structure OpI (w : World) (ht : Nat) (nm : ByteArray) (av : Value) (as_ : List S70) (y : World) : Prop where
  below : Below w.heap.size w y
  res : Blk y w.heap.size (TK 0 emv emv nil8) 46
  tok : Blk y ht (TK 1 (.string nm) emv av) 46
  row : k70.R 70 y w.heap.size (fun _ => True) av as_
  lt : w.heap.size < ht
theorem OpI.step {w y z : World} {ht : Nat} {nm : ByteArray} {av : Value} {as_ : List S70} (h : OpI w ht nm av as_ y) (hb : Below y.heap.size y z) : OpI w ht nm av as_ z :=
  ⟨h.below.trans (hb.mono h.below.size), h.res.below hb h.res.lt, h.tok.below hb h.tok.lt, Kd.R_below h.row hb, h.lt⟩
/-- Ahead of the store, and behind it. -/
def OpC (w : World) (nm : ByteArray) (av : Value) (as_ : List S70) (w1 : World) : Nat → World → Prop
  | 0, y => y = w1
  | _, y => Blk y w.heap.size (TK 1 (.string nm) emv av) 46 ∧ k70.R 70 y w.heap.size (fun _ => True) av as_ ∧ Below w.heap.size w y
theorem info_attr : (Tryz.prog.info? 70).map (fun i => (i.zero, i.size, i.bytes)) = some (some (.agg #[.string ⟨#[]⟩, .string ⟨#[]⟩]), 2, 32) := by kernel_rfl
theorem typ_attr : ∀ q, q ∈ 70 :: k70.E → q ≠ 46 := by
  intro q hq
  have h : q = 70 := by
    simp [k70, Kd.iso, Kd.pair, Kd.string, Kd.scalar] at hq
    exact hq
  rw [h]; decide
theorem opI_app {w y z : World} {ht : Nat} {nm : ByteArray} {av v1 : Value} {as_ : List S70} {p : S70} (h : OpI w ht nm av as_ y) (hr : k70.R 70 z w.heap.size (fun _ => True) v1 (as_ ++ [p])) (hb : Below w.heap.size w z) (hg : y.grownBy z av.ownBlock) :
    Blk z ht (TK 1 (.string nm) emv av) 46 ∧ OpI w ht nm v1 (as_ ++ [p]) (z.setCell ⟨ht, 3, none⟩ v1) := by
  have h1 : Blk z ht (TK 1 (.string nm) emv av) 46 := h.tok.of_block (hg.block ht h.tok.lt (Kd.R_ne h.row h.tok (by decide)))
  have h2 : Blk z w.heap.size (TK 0 emv emv nil8) 46 := h.res.of_block (hg.block _ h.res.lt (Kd.R_ne h.row h.res (by decide)))
  have hlt := h.lt
  refine ⟨h1, hb.trans ⟨rfl, rfl, rfl, by simp [World.setCell], fun k hk => Below.heap_setCell _ _ _ _ (by show k ≠ ht; omega)⟩, h2.setCell_other _ (by show w.heap.size ≠ ht; omega), h1.set 3 v1, Kd.R_set hr h1 typ_attr 3 v1, h.lt⟩
set_option maxRecDepth 100000 in
set_option maxHeartbeats 16000000 in
theorem opening_calls (g a n c : Nat) (l : List UInt8) (w : World) (hB : Bt w g a n c l) (hn : n ≤ 600000) (hn0 : 0 < n) :
    Calls Tryz.prog 86 #[.slice (some ⟨g, a, none⟩) n c] w (OpPost g a n l w) := by
  have HB := Lib.hid hB
  have HLN := Lib.hid hB.len
  have HCP := Lib.hid hB.cap
  clear hB
  have hc1 : 1 ≤ c := by have := HCP.out; omega
  obtain ⟨a1, ha1⟩ : ∃ a1, a1 = bof a c 1 := ⟨_, rfl⟩
  have hsl : ∀ W : World, (Instr.slice 72 (.slice (some ⟨g, a, none⟩) n c) (some (.int .i64 1)) none none).run Tryz.prog W = .ok (.slice (some ⟨g, a1, none⟩) (n - 1) (c - 1)) W := fun W => by
    have h := slice_l W g a n c 1 (by omega) HCP.out
    rw [← ha1] at h
    exact h
  have HA1 := Lib.hid (show 1 < c → a1 = a + 1 from fun h => by rw [ha1]; exact bof_lt h)
  obtain ⟨W, hW⟩ : ∃ W, W = w.alloc (.cells (TK 0 emv emv nil8) 46) := ⟨_, rfl⟩
  have HBW := Lib.hid (show Below w.heap.size w W from by rw [hW]; exact (Below.refl _ _).alloc (Nat.le_refl _) _)
  have HB1 := Lib.hid (show Bt W g a1 (n - 1) (c - 1) (l.drop 1) from (HB.out.below HBW.out).drop (by omega) (fun h => HA1.out (by have := HCP.out; omega)) (by have := HCP.out; omega))
  have HBK := Lib.hid (show Blk W w.heap.size (TK 0 emv emv nil8) 46 from by rw [hW]; exact Blk.alloc _ _ _)
  have HNM := Lib.hid (name_calls g a1 (n - 1) (c - 1) (l.drop 1) W HB1.out (by omega))
  rw [hW] at HNM
  unfold NmPost at HNM
  clear ha1
  have hmf : ∀ (fn : Fn) (first cap : Array Value) (w : World), (Instr.makeFunc fn first cap).run Tryz.prog w = .ok (.func fn first cap) w := fun _ _ _ _ => rfl
  cases hnm : nmF (l.drop 1) with
  | none =>
    have HN := Lib.hid (show opF l = none from by unfold opF; rw [hnm])
    rw [hnm] at HNM
    dsimp only at HNM
    clear hnm
    go_enter Tryz.func86, Tryz.ntmps86
    go_wp2_with (first | (go_at_call 53; refine HNM.out.mono ?_; rintro e w1 ⟨rfl, hb⟩; have HB2 := Lib.hid (show Below w.heap.size w w1 from by have h1 := HBW.out; rw [hW] at h1; exact h1.trans (hb.mono h1.size)); have HK := Lib.hid (show Blk w1 w.heap.size (TK 0 emv emv nil8) 46 from HBK.out.below (by rw [hW]; exact hb) HBK.out.lt); clear hb) | ((with_reducible refine Mix.at_st (t := 46) ?_); refine Mix.wpList_store_blk (o := ⟨none, .store 46 _ _, _, _, _, _⟩) rfl 46 _ _ rfl w.heap.size (TK 0 emv emv nil8) rfl rfl 46 (TK 0 emv emv nil8) HK.out (info_tok _ _ _ _) rfl (tk_all _ _ _ _ _ _) ?_; intro W3 hb3 hbu hsz3; have e1 : W3.cell? ⟨w.heap.size, 0, none⟩ = some (.int .i64 0) := hb3.cell 0; have e2 : W3.cell? ⟨w.heap.size, 1, none⟩ = some emv := hb3.cell 1; have e3 : W3.cell? ⟨w.heap.size, 2, none⟩ = some emv := hb3.cell 2; have e4 : W3.cell? ⟨w.heap.size, 3, none⟩ = some nil8 := hb3.cell 3; have HB3 := Lib.hid hb3; have HBU := Lib.hid hbu; have HSZ := Lib.hid hsz3; clear hb3 hbu hsz3))
    refine bodyPost_ret (v := .tuple #[.agg (TK 0 emv emv nil8), nil8, .bool false]) (by simp [results, Tryz.results86, go_sem, e1, e2, e3, e4]; first | done | exact ⟨rfl, rfl⟩) rfl ⟨by rw [HN.out]; exact rfl, HB2.out.trans (HBU.out.below (Nat.le_refl _) HB2.out.size)⟩
  | some kn =>
    rw [hnm] at HNM
    dsimp only at HNM
    have hk := nmF_some hnm
    have hkl : kn ≤ n - 1 := by have := hk.2.2.2.1; rw [List.length_drop, HLN.out] at this; exact this
    have hk1 : 0 < kn := hk.2.1
    obtain ⟨R, hR⟩ : ∃ R, opL l (l.length + 1) (1 + kn) [] = R := ⟨_, rfl⟩
    have HOP := Lib.hid (show opF l = R.map fun (as_, u) => (kn, as_, u) from by unfold opF; rw [hnm, ← hR])
    have HR0 := Lib.hid hR
    obtain ⟨a2, ha2⟩ : ∃ a2, a2 = bof a1 (n - 1) kn := ⟨_, rfl⟩
    rw [← ha2] at HNM
    have HA2 := Lib.hid (show 1 + kn < n → a2 = a + (1 + kn) from fun h => by rw [ha2, bof_lt (by omega), HA1.out (by have := HCP.out; omega)]; omega)
    obtain ⟨nm, hnmv⟩ : ∃ nm, nm = st (lows ((l.drop 1).take kn)) := ⟨_, rfl⟩
    rw [← hnmv] at HNM
    have HNV := Lib.hid hnmv
    clear hnm hk ha2 hR hnmv
    have hn1 : n - 1 - kn = n - (1 + kn) := by omega
    rw [hn1] at HNM
    clear hn1
    go_enter Tryz.func86, Tryz.ntmps86
    go_wp2_with (go_at_call 53; refine HNM.out.mono ?_; rintro e w1 ⟨rfl, hb⟩; have HB2 := Lib.hid (show Below w.heap.size w w1 from by have h1 := HBW.out; rw [hW] at h1; exact h1.trans (hb.mono h1.size)); have HK := Lib.hid (show Blk w1 w.heap.size (TK 0 emv emv nil8) 46 from HBK.out.below (by rw [hW]; exact hb) HBK.out.lt); clear hb)
    obtain ⟨ht, hht⟩ : ∃ ht, ht = w1.heap.size := ⟨_, rfl⟩
    have HI0 := Lib.hid (show OpI w ht nm nil8 [] (w1.alloc (.cells (TK 1 (.string nm) emv nil8) 46)) from
      ⟨HB2.out.alloc HB2.out.size _, HK.out.alloc_old _, Blk.alloc_at _ _ _ hht, Kd.R_nil _ _ _ _ _, by rw [hht]; exact HK.out.lt⟩)
    have HHT := Lib.hid hht
    rw [← hht]
    clear hht
    clear hW HBW HB1 HBK HNM HK HB2 hsl HA1 hc1
    go_loopw [6] (fun rv wr => ∃ (f o ar m : Nat) (av : Value) (as_ : List S70), rv = .slice (some ⟨g, ar, none⟩) m m ∧ m ≤ n ∧ Hid (m = n - o ∧ o ≤ n) ∧ Hid (o < n → ar = a + o) ∧ Hid (OpI w ht nm av as_ wr) ∧ Hid (opL l f o as_ = R) ∧ Hid (m < f) ∧ Hid (as_.length ≤ o)) (fun rv _ => slz rv)
    case atStart => exact ⟨l.length + 1, 1 + kn, a2, n - (1 + kn), nil8, [], rfl, by omega, Lib.hid ⟨rfl, by omega⟩, HA2, HI0, HR0, Lib.hid (by have := HLN.out; omega), Lib.hid (Nat.zero_le _)⟩
    case round =>
      clear HI0 HR0 HA2
      obtain ⟨f, o, ar, m, av, as_, rfl, hmn, HO, HAR, HI, HL, HF, HAL⟩ := hrel
      obtain ⟨f, rfl⟩ : ∃ f', f = f' + 1 := ⟨f - 1, by have := HF.out; omega⟩
      have HBR := Lib.hid (show ∀ y, Below w.heap.size w y → Bt y g ar m m (l.drop o) from fun y hy => by
        have h := (HB.out.below hy).drop (k := o) (a' := ar) (c' := m) HO.out.2 HAR.out (by have := HO.out.1; omega)
        rw [← HO.out.1] at h
        exact h)
      obtain ⟨sp, hsp⟩ : ∃ sp, spLen (l.drop o) = sp := ⟨_, rfl⟩
      have hspl : sp ≤ m := by have h := spLen_le (l.drop o); rw [hsp, List.length_drop, HLN.out] at h; have := HO.out; omega
      have HSP := Lib.hid hsp
      obtain ⟨a3, ha3⟩ : ∃ a3, a3 = bof ar m sp := ⟨_, rfl⟩
      obtain ⟨m1, hm1⟩ : ∃ m1, m1 = m - sp := ⟨_, rfl⟩
      obtain ⟨b1, hb1⟩ : ∃ b1, b1 = decide (0 < sp) := ⟨_, rfl⟩
      have HSC := Lib.hid (show Calls Tryz.prog 106 #[.slice (some ⟨g, ar, none⟩) m m] wr fun e w' => e = .returned (.tuple #[.slice (some ⟨g, a3, none⟩) m1 m1, .bool b1]) ∧ wr = w' from by
        have h := space_calls g ar m m (l.drop o) wr (HBR.out _ HI.out.below) (by omega)
        unfold SpPost at h
        rw [hsp, ← ha3, ← hm1, ← hb1] at h
        exact h)
      obtain ⟨o1, ho1⟩ : ∃ o1, o1 = o + sp := ⟨_, rfl⟩
      have HO1 := Lib.hid ho1
      have HA3 := Lib.hid (show o1 < n → a3 = a + o1 from fun h => by have := HO.out; rw [ha3, bof_lt (by omega), HAR.out (by omega)]; omega)
      have HM1 := Lib.hid (show m1 = n - o1 ∧ o1 ≤ n from by have := HO.out; omega)
      have HBR1 := Lib.hid (show ∀ y, Below w.heap.size w y → Bt y g a3 m1 m1 (l.drop o1) from fun y hy => by
        have h2 := (HBR.out y hy).drop (k := sp) (a' := a3) (c' := m1) hspl (fun h => by rw [ha3]; exact bof_lt h) (by omega)
        rw [List.drop_drop, ← hm1, ← ho1] at h2
        exact h2)
      have HBB := Lib.hid hb1
      have hm1n : m1 ≤ n := by omega
      have hL := HL.out
      rw [opL, hsp, ← ho1] at hL
      have HLL := Lib.hid hL
      clear hsp ha3 hm1 hb1 ho1 hL HL
      by_cases hz : 0 < m1 ∧ (l.drop o1).head? = some 62
      · obtain ⟨hz1, hz2⟩ := hz
        have hll : 0 < (l.drop o1).length := by rw [List.length_drop, HLN.out]; have := HM1.out; omega
        have c1 : wr.cell? ⟨g, a3, none⟩ = some (.int .u8 62) := by
          have h := (HBR1.out _ HI.out.below).cell 0 hll
          rw [List.head?_eq_getElem?, List.getElem?_eq_getElem hll] at hz2
          injection hz2 with hz2
          rw [hz2] at h
          exact h
        have hL := HLL.out
        rw [if_pos hz2] at hL
        have HN := Lib.hid (show opF l = some (kn, as_, o1 + 1) from by rw [HOP.out, ← hL]; rfl)
        have v3 : (0 : Int) < (m1 : Int) := by omega
        obtain ⟨a4, ha4⟩ : ∃ a4, a4 = bof a3 m1 1 := ⟨_, rfl⟩
        have hsl2 : ∀ W : World, (Instr.slice 72 (.slice (some ⟨g, a3, none⟩) m1 m1) (some (.int .i64 1)) (some (.int .i64 (m1 : Int))) (some (.int .i64 (m1 : Int)))).run Tryz.prog W = .ok (.slice (some ⟨g, a4, none⟩) (m1 - 1) (m1 - 1)) W := fun W => by
          have h := slice_lhm W g a3 m1 m1 1 (by omega) (Nat.le_refl _)
          rw [← ha4] at h
          exact h
        have HA4 := Lib.hid (show o1 + 1 < n → a4 = a + (o1 + 1) from fun h => by
          have hm := HM1.out
          rw [ha4, bof_lt (by omega), HA3.out (by omega)]
          omega)
        clear ha4 hz2 hL hll
        go_upto_region 7 with (go_at_call 106; refine HSC.out.mono ?_; rintro e w' ⟨rfl, rfl⟩)
        have hC0 : OpC w nm av as_ wr.drew 0 wr.drew := rfl
        have ne : Nonempty (Mix.Wd (OpC w nm av as_ wr.drew) 0) := ⟨⟨wr.drew, 0, Nat.le_refl _, hC0⟩⟩
        have ne0 : Nonempty (Mix.Wx (OpC w nm av as_ wr.drew) 0 0) := ⟨⟨wr.drew, 0, Nat.le_refl _, Nat.le_refl _, hC0⟩⟩
        have hx0 : ∀ x : Mix.Wx (OpC w nm av as_ wr.drew) 0 0, Blk x.1 ht (TK 1 (.string nm) emv av) 46 := fun x => by
          obtain ⟨y, i, h1, h2, h3⟩ := x
          obtain rfl : i = 0 := by omega
          have h3' : y = wr.drew := h3
          subst h3'
          exact HI.out.tok.drew
        obtain ⟨A0, c0, hav⟩ := Kd.R_slice HI.out.row
        subst hav
        have d1 : ∀ x : Mix.Wx (OpC w nm (.slice A0 as_.length c0) as_ wr.drew) 0 0, x.1.cell? ⟨ht, 0, none⟩ = some (.int .i64 1) := fun x => (hx0 x).cell 0
        have d2 : ∀ x : Mix.Wx (OpC w nm (.slice A0 as_.length c0) as_ wr.drew) 0 0, x.1.cell? ⟨ht, 1, none⟩ = some (.string nm) := fun x => (hx0 x).cell 1
        have d3 : ∀ x : Mix.Wx (OpC w nm (.slice A0 as_.length c0) as_ wr.drew) 0 0, x.1.cell? ⟨ht, 2, none⟩ = some (.string ⟨#[]⟩) := fun x => (hx0 x).cell 2
        have d4 : ∀ x : Mix.Wx (OpC w nm (.slice A0 as_.length c0) as_ wr.drew) 0 0, x.1.cell? ⟨ht, 3, none⟩ = some (.slice A0 as_.length c0) := fun x => (hx0 x).cell 3
        refine Mix.wp_region_mix (C := OpC w nm (.slice A0 as_.length c0) as_ wr.drew) [7] (by kernel_rfl) (by kernel_rfl) hC0 ?_
        (refine Mix.mix_in 0 0 (by decide) (by kernel_rfl) (fun K hK => ?_); go_simp; refine hK _ ?_; clear hK K)
        iterate 6 (refine Mix.mix_still (by decide) (fun K hK => ?_); go_simp; refine hK _ ?_; clear hK K)
        refine Mix.mix_store (by decide) rfl 46 _ _ rfl w.heap.size (TK 1 (.string nm) emv (.slice A0 as_.length c0)) rfl rfl (info_tok _ _ _ _) (tk_all _ _ _ _ _ _) (fun y hy => ⟨46, TK 0 emv emv nil8, (by have hy' : y = wr.drew := hy; rw [hy']; exact HI.out.res.drew), rfl, (by have hy' : y = wr.drew := hy; rw [hy']; exact ⟨Mix.blk_setRow HI.out.res.drew, Kd.R_step (Kd.R_types (Kd.R_below HI.out.row (below_drewN (Below.refl _ _) 1)) HI.out.res.drew typ_attr) (fun k hk _ => setRow_other _ _ _ _ hk.2) |> (Kd.R_mono · (fun _ hk => hk.1)), (below_drewN HI.out.below 1).trans ((Mix.but_setRow _ _ _).below (Nat.le_refl _) HI.out.below.size)⟩)⟩) ?_
        iterate 2 (refine Mix.mix_still (by decide) (fun K hK => ?_); go_simp; refine hK _ ?_; clear hK K)
        refine Mix.mix_nil ?_
        intro w6 hw6
        have hw6' : Blk w6 w.heap.size (TK 1 (.string nm) emv (.slice A0 as_.length c0)) 46 ∧ k70.R 70 w6 w.heap.size (fun _ => True) (.slice A0 as_.length c0) as_ ∧ Below w.heap.size w w6 := hw6
        have HW6 := Lib.hid hw6'.2
        have e1 : w6.cell? ⟨w.heap.size, 0, none⟩ = some (.int .i64 1) := hw6'.1.cell 0
        have e2 : w6.cell? ⟨w.heap.size, 1, none⟩ = some (.string nm) := hw6'.1.cell 1
        have e3 : w6.cell? ⟨w.heap.size, 2, none⟩ = some emv := hw6'.1.cell 2
        have e4 : w6.cell? ⟨w.heap.size, 3, none⟩ = some (.slice A0 as_.length c0) := hw6'.1.cell 3
        clear hw6 hw6' ne ne0 hC0 hx0 d1 d2 d3 d4 hsl2 hmf
        show Exit.then _ _ _ _ w6
        go_wp2_with fail
        refine bodyPost_ret (v := .tuple #[.agg (TK 1 (.string nm) emv (.slice A0 as_.length c0)), .slice (some ⟨g, a4, none⟩) (m1 - 1) (m1 - 1), .bool true]) (by simp [results, Tryz.results86, go_sem, e1, e2, e3, e4]; first | done | rfl) rfl ⟨by rw [HN.out]; show TakeP g a n w ⟨1, st (lows ((l.drop 1).take kn)), ⟨#[]⟩, as_⟩ (o1 + 1) _ _; rw [← HNV.out]; exact ⟨[.int .i64 1, .string nm, .string ⟨#[]⟩, .slice A0 as_.length c0], a4, k46_mkM _ _ _ ⟨1, nm, ⟨#[]⟩, as_⟩ HW6.out.1, HA4.out, by have := HM1.out; rw [show m1 - 1 = n - (o1 + 1) by omega]; rfl⟩, HW6.out.2⟩
      · have HZ := Lib.hid (show ¬ (l.drop o1).head? = some 62 from fun h => hz ⟨by
          rcases Nat.eq_zero_or_pos m1 with h0 | h0
          · rw [List.drop_of_length_le (by rw [HLN.out]; have := HM1.out; omega)] at h
            simp at h
          · exact h0, h⟩)
        obtain ⟨A0, c0, hav⟩ := Kd.R_slice HI.out.row
        subst hav
        clear hz
        by_cases hm10 : m1 = 0
        · have v3 : ¬ (0 : Int) < (m1 : Int) := by omega
          have hnm : nmF (l.drop o1) = none := by rw [List.drop_of_length_le (by rw [HLN.out]; have := HM1.out; omega)]; rfl
          clear hm10
          have HNR := Lib.hid (show Calls Tryz.prog 53 #[.slice (some ⟨g, a3, none⟩) m1 m1] wr fun e w' => e = .returned (.tuple #[.string ⟨#[]⟩, .slice none 0 0, .bool false]) ∧ Below wr.heap.size wr w' from by
            have h := name_calls g a3 m1 m1 (l.drop o1) wr (HBR1.out _ HI.out.below) (by omega)
            unfold NmPost at h
            rw [hnm] at h
            exact h)
          have HN := Lib.hid (show opF l = none from by
            have hL := HLL.out
            rw [if_neg HZ.out, hnm] at hL
            rw [HOP.out, ← hL]
            rfl)
          clear hnm
          cases b1 with
          | true =>
            go_wp2_with (first | (go_at_call 106; refine HSC.out.mono ?_; rintro e w' ⟨rfl, rfl⟩) | (go_at_call 53; refine HNR.out.mono ?_; rintro e wn ⟨rfl, hb⟩; have HIn := Lib.hid ((HI.out.step hb).step ((Below.refl _ _).alloc (Nat.le_refl _) (.cells #[.string ⟨#[]⟩] 9))); clear hb) | ((with_reducible refine Mix.at_st (t := 46) ?_); refine Mix.wpList_store_blk (o := ⟨none, .store 46 _ _, _, _, _, _⟩) rfl 46 _ _ rfl w.heap.size (TK 0 emv emv nil8) rfl rfl 46 (TK 0 emv emv nil8) HIn.out.res (info_tok _ _ _ _) rfl (tk_all _ _ _ _ _ _) ?_; intro W3 hb3 hbu hsz3; have e1 : W3.cell? ⟨w.heap.size, 0, none⟩ = some (.int .i64 0) := hb3.cell 0; have e2 : W3.cell? ⟨w.heap.size, 1, none⟩ = some emv := hb3.cell 1; have e3 : W3.cell? ⟨w.heap.size, 2, none⟩ = some emv := hb3.cell 2; have e4 : W3.cell? ⟨w.heap.size, 3, none⟩ = some nil8 := hb3.cell 3; have HB3 := Lib.hid hb3; have HBU := Lib.hid hbu; have HSZ := Lib.hid hsz3; clear hb3 hbu hsz3))
            refine bodyPost_ret (v := .tuple #[.agg (TK 0 emv emv nil8), nil8, .bool false]) (by simp [results, Tryz.results86, go_sem, e1, e2, e3, e4]; first | done | exact ⟨rfl, rfl⟩) rfl ⟨by rw [HN.out]; exact rfl, HIn.out.below.trans (HBU.out.below (Nat.le_refl _) HIn.out.below.size)⟩
          | false =>
            go_wp2_with (first | (go_at_call 106; refine HSC.out.mono ?_; rintro e w' ⟨rfl, rfl⟩) | (go_at_call 53; refine HNR.out.mono ?_; rintro e wn ⟨rfl, hb⟩; have HIn := Lib.hid ((HI.out.step hb).step ((Below.refl _ _).alloc (Nat.le_refl _) (.cells #[.string ⟨#[]⟩] 9))); clear hb) | ((with_reducible refine Mix.at_st (t := 46) ?_); refine Mix.wpList_store_blk (o := ⟨none, .store 46 _ _, _, _, _, _⟩) rfl 46 _ _ rfl w.heap.size (TK 0 emv emv nil8) rfl rfl 46 (TK 0 emv emv nil8) HIn.out.res (info_tok _ _ _ _) rfl (tk_all _ _ _ _ _ _) ?_; intro W3 hb3 hbu hsz3; have e1 : W3.cell? ⟨w.heap.size, 0, none⟩ = some (.int .i64 0) := hb3.cell 0; have e2 : W3.cell? ⟨w.heap.size, 1, none⟩ = some emv := hb3.cell 1; have e3 : W3.cell? ⟨w.heap.size, 2, none⟩ = some emv := hb3.cell 2; have e4 : W3.cell? ⟨w.heap.size, 3, none⟩ = some nil8 := hb3.cell 3; have HB3 := Lib.hid hb3; have HBU := Lib.hid hbu; have HSZ := Lib.hid hsz3; clear hb3 hbu hsz3))
            refine bodyPost_ret (v := .tuple #[.agg (TK 0 emv emv nil8), nil8, .bool false]) (by simp [results, Tryz.results86, go_sem, e1, e2, e3, e4]; first | done | exact ⟨rfl, rfl⟩) rfl ⟨by rw [HN.out]; exact rfl, HIn.out.below.trans (HBU.out.below (Nat.le_refl _) HIn.out.below.size)⟩
        · have v3 : (0 : Int) < (m1 : Int) := by omega
          have hll : 0 < (l.drop o1).length := by rw [List.length_drop, HLN.out]; have := HM1.out; omega
          obtain ⟨d5, hd5⟩ : ∃ d5, d5 = (l.drop o1)[0]'hll := ⟨_, rfl⟩
          have c1 : wr.cell? ⟨g, a3, none⟩ = some (.int .u8 (d5.toNat : Int)) := by rw [hd5]; exact (HBR1.out _ HI.out.below).cell 0 hll
          have v4 : ((d5.toNat : Int) == 62) = false := by
            have : d5.toNat ≠ 62 := fun h => HZ.out (by rw [List.head?_eq_getElem?, List.getElem?_eq_getElem hll, ← hd5]; congr 1; apply UInt8.toNat_inj.1; exact h)
            simp; omega
          clear hd5 hll
          cases hnm : nmF (l.drop o1) with
          | none =>
            have HNR := Lib.hid (show Calls Tryz.prog 53 #[.slice (some ⟨g, a3, none⟩) m1 m1] wr fun e w' => e = .returned (.tuple #[.string ⟨#[]⟩, .slice none 0 0, .bool false]) ∧ Below wr.heap.size wr w' from by
              have h := name_calls g a3 m1 m1 (l.drop o1) wr (HBR1.out _ HI.out.below) (by omega)
              unfold NmPost at h
              rw [hnm] at h
              exact h)
            have HN := Lib.hid (show opF l = none from by
              have hL := HLL.out
              rw [if_neg HZ.out, hnm] at hL
              rw [HOP.out, ← hL]
              rfl)
            clear hnm
            cases b1 with
            | true =>
              go_wp2_with (first | (go_at_call 106; refine HSC.out.mono ?_; rintro e w' ⟨rfl, rfl⟩) | (go_at_call 53; refine HNR.out.mono ?_; rintro e wn ⟨rfl, hb⟩; have HIn := Lib.hid ((HI.out.step hb).step ((Below.refl _ _).alloc (Nat.le_refl _) (.cells #[.string ⟨#[]⟩] 9))); clear hb) | ((with_reducible refine Mix.at_st (t := 46) ?_); refine Mix.wpList_store_blk (o := ⟨none, .store 46 _ _, _, _, _, _⟩) rfl 46 _ _ rfl w.heap.size (TK 0 emv emv nil8) rfl rfl 46 (TK 0 emv emv nil8) HIn.out.res (info_tok _ _ _ _) rfl (tk_all _ _ _ _ _ _) ?_; intro W3 hb3 hbu hsz3; have e1 : W3.cell? ⟨w.heap.size, 0, none⟩ = some (.int .i64 0) := hb3.cell 0; have e2 : W3.cell? ⟨w.heap.size, 1, none⟩ = some emv := hb3.cell 1; have e3 : W3.cell? ⟨w.heap.size, 2, none⟩ = some emv := hb3.cell 2; have e4 : W3.cell? ⟨w.heap.size, 3, none⟩ = some nil8 := hb3.cell 3; have HB3 := Lib.hid hb3; have HBU := Lib.hid hbu; have HSZ := Lib.hid hsz3; clear hb3 hbu hsz3))
              refine bodyPost_ret (v := .tuple #[.agg (TK 0 emv emv nil8), nil8, .bool false]) (by simp [results, Tryz.results86, go_sem, e1, e2, e3, e4]; first | done | exact ⟨rfl, rfl⟩) rfl ⟨by rw [HN.out]; exact rfl, HIn.out.below.trans (HBU.out.below (Nat.le_refl _) HIn.out.below.size)⟩
            | false =>
              go_wp2_with (first | (go_at_call 106; refine HSC.out.mono ?_; rintro e w' ⟨rfl, rfl⟩) | (go_at_call 53; refine HNR.out.mono ?_; rintro e wn ⟨rfl, hb⟩; have HIn := Lib.hid ((HI.out.step hb).step ((Below.refl _ _).alloc (Nat.le_refl _) (.cells #[.string ⟨#[]⟩] 9))); clear hb) | ((with_reducible refine Mix.at_st (t := 46) ?_); refine Mix.wpList_store_blk (o := ⟨none, .store 46 _ _, _, _, _, _⟩) rfl 46 _ _ rfl w.heap.size (TK 0 emv emv nil8) rfl rfl 46 (TK 0 emv emv nil8) HIn.out.res (info_tok _ _ _ _) rfl (tk_all _ _ _ _ _ _) ?_; intro W3 hb3 hbu hsz3; have e1 : W3.cell? ⟨w.heap.size, 0, none⟩ = some (.int .i64 0) := hb3.cell 0; have e2 : W3.cell? ⟨w.heap.size, 1, none⟩ = some emv := hb3.cell 1; have e3 : W3.cell? ⟨w.heap.size, 2, none⟩ = some emv := hb3.cell 2; have e4 : W3.cell? ⟨w.heap.size, 3, none⟩ = some nil8 := hb3.cell 3; have HB3 := Lib.hid hb3; have HBU := Lib.hid hbu; have HSZ := Lib.hid hsz3; clear hb3 hbu hsz3))
              refine bodyPost_ret (v := .tuple #[.agg (TK 0 emv emv nil8), nil8, .bool false]) (by simp [results, Tryz.results86, go_sem, e1, e2, e3, e4]; first | done | exact ⟨rfl, rfl⟩) rfl ⟨by rw [HN.out]; exact rfl, HIn.out.below.trans (HBU.out.below (Nat.le_refl _) HIn.out.below.size)⟩
          | some k =>
            have hk := nmF_some hnm
            have hkm : k ≤ m1 := by have h := hk.2.2.2.1; rw [List.length_drop, HLN.out] at h; have := HM1.out; omega
            have hk0 : 0 < k := hk.2.1
            obtain ⟨key, hkey⟩ : ∃ key, key = st (lows ((l.drop o1).take k)) := ⟨_, rfl⟩
            obtain ⟨a5, ha5⟩ : ∃ a5, a5 = bof a3 m1 k := ⟨_, rfl⟩
            obtain ⟨m2, hm2⟩ : ∃ m2, m2 = m1 - k := ⟨_, rfl⟩
            obtain ⟨o2, ho2⟩ : ∃ o2, o2 = o1 + k := ⟨_, rfl⟩
            have HNR := Lib.hid (show Calls Tryz.prog 53 #[.slice (some ⟨g, a3, none⟩) m1 m1] wr fun e w' => e = .returned (.tuple #[.string key, .slice (some ⟨g, a5, none⟩) m2 m2, .bool true]) ∧ Below wr.heap.size wr w' from by
              have h := name_calls g a3 m1 m1 (l.drop o1) wr (HBR1.out _ HI.out.below) (by omega)
              unfold NmPost at h
              rw [hnm] at h
              dsimp only at h
              rw [← hkey, ← ha5, ← hm2] at h
              exact h)
            have HA5 := Lib.hid (show o2 < n → a5 = a + o2 from fun h => by have := HM1.out; rw [ha5, bof_lt (by omega), HA3.out (by omega)]; omega)
            have HM2 := Lib.hid (show m2 = n - o2 ∧ o2 ≤ n from by have := HM1.out; omega)
            have HBR2 := Lib.hid (show ∀ y, Below w.heap.size w y → Bt y g a5 m2 m2 (l.drop o2) from fun y hy => by
              have h2 := (HBR1.out y hy).drop (k := k) (a' := a5) (c' := m2) hkm (fun h => by rw [ha5]; exact bof_lt h) (by omega)
              rw [List.drop_drop, ← hm2, ← ho2] at h2
              exact h2)
            have HO2 := Lib.hid (show o < o2 from by have := HO1.out; omega)
            have hm2n : m2 ≤ n := by omega
            have hL := HLL.out
            rw [if_neg HZ.out, hnm] at hL
            dsimp only at hL
            rw [← hkey, ← ho2] at hL
            have HLK := Lib.hid hL
            have HALB := Lib.hid (show (as_.length + 1) * 32 ≤ 140737488355328 from by have := HAL.out; have := HO.out.2; omega)
            have HCFA := Lib.hid (show ∀ y b, k70.C y A0 as_.length as_ → y.cell? ⟨b, 0, none⟩ = some (.string key) → b < y.heap.size → Calls Tryz.prog 108 #[.slice A0 as_.length c0, .func (.func 109) #[] #[.pointer (some ⟨b, 0, none⟩)]] y fun e w' => e = .returned (.bool (as_.any fun x => eqS x.f0 key)) ∧ Below y.heap.size y w' from fun y b h1 h2 h3 => hasKey_calls A0 c0 as_ b key y h1 (by have := HAL.out; have := HO.out.2; omega) h2 h3)
            clear hk hkey ha5 hm2 ho2 hL hnm HLL
            by_cases hs0 : sp = 0
            · have HB1F := Lib.hid (show b1 = false from by rw [HBB.out, hs0]; rfl)
              have HN := Lib.hid (show opF l = none from by
                have hL := HLK.out
                rw [if_pos hs0] at hL
                rw [HOP.out, ← hL]
                rfl)
              obtain rfl : b1 = false := HB1F.out
              clear HB1F HBB hs0
              go_wp2_with (first | (go_at_call 106; refine HSC.out.mono ?_; rintro e w' ⟨rfl, rfl⟩) | (go_at_call 53; refine HNR.out.mono ?_; rintro e wn ⟨rfl, hb⟩; have HIn := Lib.hid ((HI.out.step hb).step ((Below.refl _ _).alloc (Nat.le_refl _) (.cells #[.string key] 9))); clear hb) | ((with_reducible refine Mix.at_st (t := 46) ?_); refine Mix.wpList_store_blk (o := ⟨none, .store 46 _ _, _, _, _, _⟩) rfl 46 _ _ rfl w.heap.size (TK 0 emv emv nil8) rfl rfl 46 (TK 0 emv emv nil8) HIn.out.res (info_tok _ _ _ _) rfl (tk_all _ _ _ _ _ _) ?_; intro W3 hb3 hbu hsz3; have e1 : W3.cell? ⟨w.heap.size, 0, none⟩ = some (.int .i64 0) := hb3.cell 0; have e2 : W3.cell? ⟨w.heap.size, 1, none⟩ = some emv := hb3.cell 1; have e3 : W3.cell? ⟨w.heap.size, 2, none⟩ = some emv := hb3.cell 2; have e4 : W3.cell? ⟨w.heap.size, 3, none⟩ = some nil8 := hb3.cell 3; have HB3 := Lib.hid hb3; have HBU := Lib.hid hbu; have HSZ := Lib.hid hsz3; clear hb3 hbu hsz3))
              refine bodyPost_ret (v := .tuple #[.agg (TK 0 emv emv nil8), nil8, .bool false]) (by simp [results, Tryz.results86, go_sem, e1, e2, e3, e4]; first | done | exact ⟨rfl, rfl⟩) rfl ⟨by rw [HN.out]; exact rfl, HIn.out.below.trans (HBU.out.below (Nat.le_refl _) HIn.out.below.size)⟩
            · have HB1T := Lib.hid (show b1 = true from by rw [HBB.out]; simp; omega)
              obtain rfl : b1 = true := HB1T.out
              clear HB1T HBB
              have hL := HLK.out
              rw [if_neg hs0] at hL
              have HLK2 := Lib.hid hL
              clear hL HLK hs0
              cases hq : qF (l.drop o2) with
              | some v =>
                have hqs := (qF_some hq).1
                rw [List.length_drop, HLN.out] at hqs
                obtain ⟨val, hval⟩ : ∃ val, val = st (tellF (st v) 0) := ⟨_, rfl⟩
                obtain ⟨a6, ha6⟩ : ∃ a6, a6 = bof a5 m2 (v.length + 3) := ⟨_, rfl⟩
                obtain ⟨m3, hm3⟩ : ∃ m3, m3 = m2 - (v.length + 3) := ⟨_, rfl⟩
                obtain ⟨o3, ho3⟩ : ∃ o3, o3 = o2 + (v.length + 3) := ⟨_, rfl⟩
                have HQ := Lib.hid (show ∀ y, Below w.heap.size w y → Calls Tryz.prog 107 #[.slice (some ⟨g, a5, none⟩) m2 m2] y fun e w' => e = .returned (.tuple #[.string val, .slice (some ⟨g, a6, none⟩) m3 m3, .bool true]) ∧ Below y.heap.size y w' from fun y hy => by
                  have h := quoted_calls g a5 m2 m2 (l.drop o2) y (HBR2.out y hy) (by omega)
                  unfold QuPost at h
                  rw [hq] at h
                  dsimp only at h
                  rw [← hval, ← ha6, ← hm3] at h
                  exact h)
                have HLQ := Lib.hid (show opL l f o3 (addA as_ key val) = R from by
                  have hL := HLK2.out
                  rw [hq] at hL
                  dsimp only at hL
                  rw [← hval, ← ho3] at hL
                  exact hL)
                have HM3 := Lib.hid (show m3 = n - o3 ∧ o3 ≤ n from by have := HM2.out; omega)
                have HO3 := Lib.hid (show o < o3 from by have := HO2.out; omega)
                have HA6 := Lib.hid (show o3 < n → a6 = a + o3 from fun h => by have := HM2.out; rw [ha6, bof_lt (by omega), HA5.out (by omega)]; omega)
                clear hq hval ha6 hm3 ho3 hqs HLK2
                have HCF0 := HCFA.out
                obtain ⟨bc, hbc⟩ : ∃ bc, (as_.any fun x => eqS x.f0 key) = bc := ⟨_, rfl⟩
                have HBC := Lib.hid hbc
                have HCF := Lib.hid (show ∀ y b, k70.C y A0 as_.length as_ → y.cell? ⟨b, 0, none⟩ = some (.string key) → b < y.heap.size → Calls Tryz.prog 108 #[.slice A0 as_.length c0, .func (.func 109) #[] #[.pointer (some ⟨b, 0, none⟩)]] y fun e w' => e = .returned (.bool bc) ∧ Below y.heap.size y w' from fun y b h1 h2 h3 => by
                  have h := HCF0 y b h1 h2 h3
                  rw [hbc] at h
                  exact h)
                clear hbc HCF0
                cases bc with
                | true =>
                  go_wp2_with (first | (go_at_call 106; refine HSC.out.mono ?_; rintro e w' ⟨rfl, rfl⟩) | (go_at_call 53; refine HNR.out.mono ?_; rintro e wn ⟨rfl, hb⟩; have HIn := Lib.hid ((HI.out.step hb).step ((Below.refl _ _).alloc (Nat.le_refl _) (.cells #[.string key] 9))); clear hb) | (go_at_call 107; refine (HQ.out _ HIn.out.below).mono ?_; rintro e w2 ⟨rfl, hb⟩; have HI2 := Lib.hid (HIn.out.step hb); have ck : w2.cell? ⟨wn.heap.size, 0, none⟩ = some (.string key) := (by rw [hb.cell (p := ⟨wn.heap.size, 0, none⟩) (by simp)]; exact (Blk.alloc wn _ _).cell 0); have hkl2 : wn.heap.size < w2.heap.size := (Nat.lt_of_lt_of_le (by simp) hb.size); have HCK := Lib.hid ck; have HKL2 := Lib.hid hkl2; have c3 : w2.cell? ⟨ht, 3, none⟩ = some (.slice A0 as_.length c0) := HI2.out.tok.cell 3; clear hb ck hkl2) | (go_at_call 108; refine (HCF.out _ _ (Kd.R_reads' HI2.out.row).2.2 HCK.out HKL2.out).mono ?_; rintro e w3 ⟨rfl, hb⟩; have HI3 := Lib.hid (HI2.out.step hb); have ck3 : w3.cell? ⟨wn.heap.size, 0, none⟩ = some (.string key) := (by rw [hb.cell (p := ⟨wn.heap.size, 0, none⟩) HKL2.out]; exact HCK.out); have c33 : w3.cell? ⟨ht, 3, none⟩ = some (.slice A0 as_.length c0) := HI3.out.tok.cell 3; clear hb c3))
                  go_roundw
                  case rel => exact ⟨f, o3, a6, m3, _, as_, rfl, by have := HM3.out; omega, Lib.hid HM3.out, HA6, HI3, Lib.hid (by have h := HLQ.out; unfold addA at h; rw [HBC.out] at h; exact h), Lib.hid (by have := HF.out; have := HM3.out; have := HO3.out; have := HO.out; omega), Lib.hid (by have := HAL.out; have := HO3.out;  omega)⟩
                  case measure => show slz _ < slz _; have := HM3.out; have := HO3.out; have := HO.out; simp only [slz]; omega
                | false =>
                  go_wp2_with (first | (go_at_call 106; refine HSC.out.mono ?_; rintro e w' ⟨rfl, rfl⟩) | (go_at_call 53; refine HNR.out.mono ?_; rintro e wn ⟨rfl, hb⟩; have HIn := Lib.hid ((HI.out.step hb).step ((Below.refl _ _).alloc (Nat.le_refl _) (.cells #[.string key] 9))); clear hb) | (go_at_call 107; refine (HQ.out _ HIn.out.below).mono ?_; rintro e w2 ⟨rfl, hb⟩; have HI2 := Lib.hid (HIn.out.step hb); have ck : w2.cell? ⟨wn.heap.size, 0, none⟩ = some (.string key) := (by rw [hb.cell (p := ⟨wn.heap.size, 0, none⟩) (by simp)]; exact (Blk.alloc wn _ _).cell 0); have hkl2 : wn.heap.size < w2.heap.size := (Nat.lt_of_lt_of_le (by simp) hb.size); have HCK := Lib.hid ck; have HKL2 := Lib.hid hkl2; have c3 : w2.cell? ⟨ht, 3, none⟩ = some (.slice A0 as_.length c0) := HI2.out.tok.cell 3; clear hb ck hkl2) | (go_at_call 108; refine (HCF.out _ _ (Kd.R_reads' HI2.out.row).2.2 HCK.out HKL2.out).mono ?_; rintro e w3 ⟨rfl, hb⟩; have HI3 := Lib.hid (HI2.out.step hb); have ck3 : w3.cell? ⟨wn.heap.size, 0, none⟩ = some (.string key) := (by rw [hb.cell (p := ⟨wn.heap.size, 0, none⟩) HKL2.out]; exact HCK.out); have c33 : w3.cell? ⟨ht, 3, none⟩ = some (.slice A0 as_.length c0) := HI3.out.tok.cell 3; clear hb c3) | (at_builtin; refine Kd.R_append k70 (w0 := w) w.heap.size rfl _ _ 44 70 (.agg #[.string ⟨#[]⟩, .string ⟨#[]⟩]) 32 rfl Tryz.underlying44 info_attr rfl (by decide) (by decide) (.slice A0 as_.length c0) as_ ⟨key, val⟩ [.string key, .string val] (fun _ => True) (fun _ => False) rfl rfl (k70_mkM _ _ _ ⟨key, val⟩) (fun _ h => h.elim) (fun _ _ => trivial) HI3.out.row HI3.out.below HI3.out.below.size HALB.out ?_; intro v1 w4 hr hb4 hg4 hat4; have HI4 := Lib.hid (opI_app HI3.out hr hb4 hg4); obtain ⟨A1, c1', hv1⟩ := Kd.R_slice hr; rw [List.length_append, List.length_singleton] at hv1; subst hv1; have c34 : w4.cell? ⟨ht, 3, none⟩ = some (.slice A0 as_.length c0) := HI4.out.1.cell 3; have f34 := HI4.out.1.free 3; clear hr hb4 hg4 hat4))
                  go_roundw
                  case rel => exact ⟨f, o3, a6, m3, _, as_ ++ [⟨key, val⟩], rfl, by have := HM3.out; omega, Lib.hid HM3.out, HA6, Lib.hid HI4.out.2, Lib.hid (by have h := HLQ.out; unfold addA at h; rw [HBC.out] at h; exact h), Lib.hid (by have := HF.out; have := HM3.out; have := HO3.out; have := HO.out; omega), Lib.hid (by have := HAL.out; have := HO3.out; rw [List.length_append, List.length_singleton]; omega)⟩
                  case measure => show slz _ < slz _; have := HM3.out; have := HO3.out; have := HO.out; simp only [slz]; omega
              | none =>
                have HQ := Lib.hid (show ∀ y, Below w.heap.size w y → Calls Tryz.prog 107 #[.slice (some ⟨g, a5, none⟩) m2 m2] y fun e w' => e = .returned (.tuple #[.string ⟨#[]⟩, .slice (some ⟨g, a5, none⟩) m2 m2, .bool false]) ∧ Below y.heap.size y w' from fun y hy => by
                  have h := quoted_calls g a5 m2 m2 (l.drop o2) y (HBR2.out y hy) (by omega)
                  unfold QuPost at h
                  rw [hq] at h
                  exact h)
                have hL := HLK2.out
                rw [hq] at hL
                dsimp only at hL
                have HLK3 := Lib.hid hL
                clear hq hL HLK2
                by_cases hm0 : m2 = 0
                · have w3 : ¬ (0 : Int) < (m2 : Int) := by omega
                  obtain ⟨val, hval⟩ : ∃ val, val = (⟨#[]⟩ : ByteArray) := ⟨_, rfl⟩
                  obtain ⟨a6, ha6⟩ : ∃ a6, a6 = a5 := ⟨_, rfl⟩
                  obtain ⟨m3, hm3⟩ : ∃ m3, m3 = m2 := ⟨_, rfl⟩
                  obtain ⟨o3, ho3⟩ : ∃ o3, o3 = o2 := ⟨_, rfl⟩
                  have HLQ := Lib.hid (show opL l f o3 (addA as_ key val) = R from by
                    have hL := HLK3.out
                    rw [if_neg (by rw [List.drop_of_length_le (by rw [HLN.out]; have := HM2.out; omega)]; simp)] at hL
                    rw [hval, ho3]
                    exact hL)
                  subst hval ha6 hm3 ho3
                  have HM3 := HM2
                  have HO3 := HO2
                  have HA6 := HA5
                  clear HLK3 hm0
                  have HCF0 := HCFA.out
                  obtain ⟨bc, hbc⟩ : ∃ bc, (as_.any fun x => eqS x.f0 key) = bc := ⟨_, rfl⟩
                  have HBC := Lib.hid hbc
                  have HCF := Lib.hid (show ∀ y b, k70.C y A0 as_.length as_ → y.cell? ⟨b, 0, none⟩ = some (.string key) → b < y.heap.size → Calls Tryz.prog 108 #[.slice A0 as_.length c0, .func (.func 109) #[] #[.pointer (some ⟨b, 0, none⟩)]] y fun e w' => e = .returned (.bool bc) ∧ Below y.heap.size y w' from fun y b h1 h2 h3 => by
                    have h := HCF0 y b h1 h2 h3
                    rw [hbc] at h
                    exact h)
                  clear hbc HCF0
                  cases bc with
                  | true =>
                    go_wp2_with (first | (go_at_call 106; refine HSC.out.mono ?_; rintro e w' ⟨rfl, rfl⟩) | (go_at_call 53; refine HNR.out.mono ?_; rintro e wn ⟨rfl, hb⟩; have HIn := Lib.hid ((HI.out.step hb).step ((Below.refl _ _).alloc (Nat.le_refl _) (.cells #[.string key] 9))); clear hb) | (go_at_call 107; refine (HQ.out _ HIn.out.below).mono ?_; rintro e w2 ⟨rfl, hb⟩; have HI2 := Lib.hid (HIn.out.step hb); have ck : w2.cell? ⟨wn.heap.size, 0, none⟩ = some (.string key) := (by rw [hb.cell (p := ⟨wn.heap.size, 0, none⟩) (by simp)]; exact (Blk.alloc wn _ _).cell 0); have hkl2 : wn.heap.size < w2.heap.size := (Nat.lt_of_lt_of_le (by simp) hb.size); have HCK := Lib.hid ck; have HKL2 := Lib.hid hkl2; have c3 : w2.cell? ⟨ht, 3, none⟩ = some (.slice A0 as_.length c0) := HI2.out.tok.cell 3; clear hb ck hkl2) | (go_at_call 108; refine (HCF.out _ _ (Kd.R_reads' HI2.out.row).2.2 HCK.out HKL2.out).mono ?_; rintro e w3 ⟨rfl, hb⟩; have HI3 := Lib.hid (HI2.out.step hb); have ck3 : w3.cell? ⟨wn.heap.size, 0, none⟩ = some (.string key) := (by rw [hb.cell (p := ⟨wn.heap.size, 0, none⟩) HKL2.out]; exact HCK.out); have c33 : w3.cell? ⟨ht, 3, none⟩ = some (.slice A0 as_.length c0) := HI3.out.tok.cell 3; clear hb c3))
                    go_roundw
                    case rel => exact ⟨f, o3, a6, m3, _, as_, rfl, by have := HM3.out; omega, Lib.hid HM3.out, HA6, HI3, Lib.hid (by have h := HLQ.out; unfold addA at h; rw [HBC.out] at h; exact h), Lib.hid (by have := HF.out; have := HM3.out; have := HO3.out; have := HO.out; omega), Lib.hid (by have := HAL.out; have := HO3.out;  omega)⟩
                    case measure => show slz _ < slz _; have := HM3.out; have := HO3.out; have := HO.out; simp only [slz]; omega
                  | false =>
                    go_wp2_with (first | (go_at_call 106; refine HSC.out.mono ?_; rintro e w' ⟨rfl, rfl⟩) | (go_at_call 53; refine HNR.out.mono ?_; rintro e wn ⟨rfl, hb⟩; have HIn := Lib.hid ((HI.out.step hb).step ((Below.refl _ _).alloc (Nat.le_refl _) (.cells #[.string key] 9))); clear hb) | (go_at_call 107; refine (HQ.out _ HIn.out.below).mono ?_; rintro e w2 ⟨rfl, hb⟩; have HI2 := Lib.hid (HIn.out.step hb); have ck : w2.cell? ⟨wn.heap.size, 0, none⟩ = some (.string key) := (by rw [hb.cell (p := ⟨wn.heap.size, 0, none⟩) (by simp)]; exact (Blk.alloc wn _ _).cell 0); have hkl2 : wn.heap.size < w2.heap.size := (Nat.lt_of_lt_of_le (by simp) hb.size); have HCK := Lib.hid ck; have HKL2 := Lib.hid hkl2; have c3 : w2.cell? ⟨ht, 3, none⟩ = some (.slice A0 as_.length c0) := HI2.out.tok.cell 3; clear hb ck hkl2) | (go_at_call 108; refine (HCF.out _ _ (Kd.R_reads' HI2.out.row).2.2 HCK.out HKL2.out).mono ?_; rintro e w3 ⟨rfl, hb⟩; have HI3 := Lib.hid (HI2.out.step hb); have ck3 : w3.cell? ⟨wn.heap.size, 0, none⟩ = some (.string key) := (by rw [hb.cell (p := ⟨wn.heap.size, 0, none⟩) HKL2.out]; exact HCK.out); have c33 : w3.cell? ⟨ht, 3, none⟩ = some (.slice A0 as_.length c0) := HI3.out.tok.cell 3; clear hb c3) | (at_builtin; refine Kd.R_append k70 (w0 := w) w.heap.size rfl _ _ 44 70 (.agg #[.string ⟨#[]⟩, .string ⟨#[]⟩]) 32 rfl Tryz.underlying44 info_attr rfl (by decide) (by decide) (.slice A0 as_.length c0) as_ ⟨key, ⟨#[]⟩⟩ [.string key, .string ⟨#[]⟩] (fun _ => True) (fun _ => False) rfl rfl (k70_mkM _ _ _ ⟨key, ⟨#[]⟩⟩) (fun _ h => h.elim) (fun _ _ => trivial) HI3.out.row HI3.out.below HI3.out.below.size HALB.out ?_; intro v1 w4 hr hb4 hg4 hat4; have HI4 := Lib.hid (opI_app HI3.out hr hb4 hg4); obtain ⟨A1, c1', hv1⟩ := Kd.R_slice hr; rw [List.length_append, List.length_singleton] at hv1; subst hv1; have c34 : w4.cell? ⟨ht, 3, none⟩ = some (.slice A0 as_.length c0) := HI4.out.1.cell 3; have f34 := HI4.out.1.free 3; clear hr hb4 hg4 hat4))
                    go_roundw
                    case rel => exact ⟨f, o3, a6, m3, _, as_ ++ [⟨key, ⟨#[]⟩⟩], rfl, by have := HM3.out; omega, Lib.hid HM3.out, HA6, Lib.hid HI4.out.2, Lib.hid (by have h := HLQ.out; unfold addA at h; rw [HBC.out] at h; exact h), Lib.hid (by have := HF.out; have := HM3.out; have := HO3.out; have := HO.out; omega), Lib.hid (by have := HAL.out; have := HO3.out; rw [List.length_append, List.length_singleton]; omega)⟩
                    case measure => show slz _ < slz _; have := HM3.out; have := HO3.out; have := HO.out; simp only [slz]; omega
                · have w3 : (0 : Int) < (m2 : Int) := by omega
                  have hll : 0 < (l.drop o2).length := by rw [List.length_drop, HLN.out]; have := HM2.out; omega
                  obtain ⟨d6, hd6⟩ : ∃ d6, d6 = (l.drop o2)[0]'hll := ⟨_, rfl⟩
                  have HD6 := Lib.hid (show (l.drop o2).head? = some d6 from by rw [hd6, List.head?_eq_getElem?, List.getElem?_eq_getElem hll])
                  have HC6 := Lib.hid (show ∀ y, Below w.heap.size w y → y.cell? ⟨g, a5, none⟩ = some (.int .u8 (d6.toNat : Int)) from fun y hy => by rw [hd6]; exact (HBR2.out y hy).cell 0 hll)
                  clear hd6 hll
                  by_cases h61 : d6 = 61
                  · subst h61
                    have HN := Lib.hid (show opF l = none from by
                      have hL := HLK3.out
                      rw [if_pos HD6.out] at hL
                      rw [HOP.out, ← hL]
                      rfl)
                    go_wp2_with (first | (go_at_call 106; refine HSC.out.mono ?_; rintro e w' ⟨rfl, rfl⟩) | (go_at_call 53; refine HNR.out.mono ?_; rintro e wn ⟨rfl, hb⟩; have HIn := Lib.hid ((HI.out.step hb).step ((Below.refl _ _).alloc (Nat.le_refl _) (.cells #[.string key] 9))); clear hb) | (go_at_call 107; refine (HQ.out _ HIn.out.below).mono ?_; rintro e w2 ⟨rfl, hb⟩; have HI2 := Lib.hid (HIn.out.step hb); have ck : w2.cell? ⟨wn.heap.size, 0, none⟩ = some (.string key) := (by rw [hb.cell (p := ⟨wn.heap.size, 0, none⟩) (by simp)]; exact (Blk.alloc wn _ _).cell 0); have hkl2 : wn.heap.size < w2.heap.size := (Nat.lt_of_lt_of_le (by simp) hb.size); have HCK := Lib.hid ck; have HKL2 := Lib.hid hkl2; have c3 : w2.cell? ⟨ht, 3, none⟩ = some (.slice A0 as_.length c0) := HI2.out.tok.cell 3; have c61 := HC6.out w2 HI2.out.below; clear hb ck hkl2) | ((with_reducible refine Mix.at_st (t := 46) ?_); refine Mix.wpList_store_blk (o := ⟨none, .store 46 _ _, _, _, _, _⟩) rfl 46 _ _ rfl w.heap.size (TK 0 emv emv nil8) rfl rfl 46 (TK 0 emv emv nil8) HI2.out.res (info_tok _ _ _ _) rfl (tk_all _ _ _ _ _ _) ?_; intro W3 hb3 hbu hsz3; have e1 : W3.cell? ⟨w.heap.size, 0, none⟩ = some (.int .i64 0) := hb3.cell 0; have e2 : W3.cell? ⟨w.heap.size, 1, none⟩ = some emv := hb3.cell 1; have e3 : W3.cell? ⟨w.heap.size, 2, none⟩ = some emv := hb3.cell 2; have e4 : W3.cell? ⟨w.heap.size, 3, none⟩ = some nil8 := hb3.cell 3; have HB3 := Lib.hid hb3; have HBU := Lib.hid hbu; have HSZ := Lib.hid hsz3; clear hb3 hbu hsz3))
                    refine bodyPost_ret (v := .tuple #[.agg (TK 0 emv emv nil8), nil8, .bool false]) (by simp [results, Tryz.results86, go_sem, e1, e2, e3, e4]; first | done | exact ⟨rfl, rfl⟩) rfl ⟨by rw [HN.out]; exact rfl, HI2.out.below.trans (HBU.out.below (Nat.le_refl _) HI2.out.below.size)⟩
                  · have v61 : ((d6.toNat : Int) == 61) = false := by
                      have : d6.toNat ≠ 61 := fun h => h61 (by apply UInt8.toNat_inj.1; exact h)
                      simp; omega
                    obtain ⟨val, hval⟩ : ∃ val, val = (⟨#[]⟩ : ByteArray) := ⟨_, rfl⟩
                    obtain ⟨a6, ha6⟩ : ∃ a6, a6 = a5 := ⟨_, rfl⟩
                    obtain ⟨m3, hm3⟩ : ∃ m3, m3 = m2 := ⟨_, rfl⟩
                    obtain ⟨o3, ho3⟩ : ∃ o3, o3 = o2 := ⟨_, rfl⟩
                    have HLQ := Lib.hid (show opL l f o3 (addA as_ key val) = R from by
                      have hL := HLK3.out
                      rw [if_neg (by rw [HD6.out]; intro h; injection h with h; exact h61 h)] at hL
                      rw [hval, ho3]
                      exact hL)
                    subst hval ha6 hm3 ho3
                    have HM3 := HM2
                    have HO3 := HO2
                    have HA6 := HA5
                    clear HLK3
                    have HCF0 := HCFA.out
                    obtain ⟨bc, hbc⟩ : ∃ bc, (as_.any fun x => eqS x.f0 key) = bc := ⟨_, rfl⟩
                    have HBC := Lib.hid hbc
                    have HCF := Lib.hid (show ∀ y b, k70.C y A0 as_.length as_ → y.cell? ⟨b, 0, none⟩ = some (.string key) → b < y.heap.size → Calls Tryz.prog 108 #[.slice A0 as_.length c0, .func (.func 109) #[] #[.pointer (some ⟨b, 0, none⟩)]] y fun e w' => e = .returned (.bool bc) ∧ Below y.heap.size y w' from fun y b h1 h2 h3 => by
                      have h := HCF0 y b h1 h2 h3
                      rw [hbc] at h
                      exact h)
                    clear hbc HCF0
                    cases bc with
                    | true =>
                      go_wp2_with (first | (go_at_call 106; refine HSC.out.mono ?_; rintro e w' ⟨rfl, rfl⟩) | (go_at_call 53; refine HNR.out.mono ?_; rintro e wn ⟨rfl, hb⟩; have HIn := Lib.hid ((HI.out.step hb).step ((Below.refl _ _).alloc (Nat.le_refl _) (.cells #[.string key] 9))); clear hb) | (go_at_call 107; refine (HQ.out _ HIn.out.below).mono ?_; rintro e w2 ⟨rfl, hb⟩; have HI2 := Lib.hid (HIn.out.step hb); have ck : w2.cell? ⟨wn.heap.size, 0, none⟩ = some (.string key) := (by rw [hb.cell (p := ⟨wn.heap.size, 0, none⟩) (by simp)]; exact (Blk.alloc wn _ _).cell 0); have hkl2 : wn.heap.size < w2.heap.size := (Nat.lt_of_lt_of_le (by simp) hb.size); have HCK := Lib.hid ck; have HKL2 := Lib.hid hkl2; have c3 : w2.cell? ⟨ht, 3, none⟩ = some (.slice A0 as_.length c0) := HI2.out.tok.cell 3; have c61 := HC6.out w2 HI2.out.below; clear hb ck hkl2) | (go_at_call 108; refine (HCF.out _ _ (Kd.R_reads' HI2.out.row).2.2 HCK.out HKL2.out).mono ?_; rintro e w3 ⟨rfl, hb⟩; have HI3 := Lib.hid (HI2.out.step hb); have ck3 : w3.cell? ⟨wn.heap.size, 0, none⟩ = some (.string key) := (by rw [hb.cell (p := ⟨wn.heap.size, 0, none⟩) HKL2.out]; exact HCK.out); have c33 : w3.cell? ⟨ht, 3, none⟩ = some (.slice A0 as_.length c0) := HI3.out.tok.cell 3; clear hb c3))
                      go_roundw
                      case rel => exact ⟨f, o3, a6, m3, _, as_, rfl, by have := HM3.out; omega, Lib.hid HM3.out, HA6, HI3, Lib.hid (by have h := HLQ.out; unfold addA at h; rw [HBC.out] at h; exact h), Lib.hid (by have := HF.out; have := HM3.out; have := HO3.out; have := HO.out; omega), Lib.hid (by have := HAL.out; have := HO3.out;  omega)⟩
                      case measure => show slz _ < slz _; have := HM3.out; have := HO3.out; have := HO.out; simp only [slz]; omega
                    | false =>
                      go_wp2_with (first | (go_at_call 106; refine HSC.out.mono ?_; rintro e w' ⟨rfl, rfl⟩) | (go_at_call 53; refine HNR.out.mono ?_; rintro e wn ⟨rfl, hb⟩; have HIn := Lib.hid ((HI.out.step hb).step ((Below.refl _ _).alloc (Nat.le_refl _) (.cells #[.string key] 9))); clear hb) | (go_at_call 107; refine (HQ.out _ HIn.out.below).mono ?_; rintro e w2 ⟨rfl, hb⟩; have HI2 := Lib.hid (HIn.out.step hb); have ck : w2.cell? ⟨wn.heap.size, 0, none⟩ = some (.string key) := (by rw [hb.cell (p := ⟨wn.heap.size, 0, none⟩) (by simp)]; exact (Blk.alloc wn _ _).cell 0); have hkl2 : wn.heap.size < w2.heap.size := (Nat.lt_of_lt_of_le (by simp) hb.size); have HCK := Lib.hid ck; have HKL2 := Lib.hid hkl2; have c3 : w2.cell? ⟨ht, 3, none⟩ = some (.slice A0 as_.length c0) := HI2.out.tok.cell 3; have c61 := HC6.out w2 HI2.out.below; clear hb ck hkl2) | (go_at_call 108; refine (HCF.out _ _ (Kd.R_reads' HI2.out.row).2.2 HCK.out HKL2.out).mono ?_; rintro e w3 ⟨rfl, hb⟩; have HI3 := Lib.hid (HI2.out.step hb); have ck3 : w3.cell? ⟨wn.heap.size, 0, none⟩ = some (.string key) := (by rw [hb.cell (p := ⟨wn.heap.size, 0, none⟩) HKL2.out]; exact HCK.out); have c33 : w3.cell? ⟨ht, 3, none⟩ = some (.slice A0 as_.length c0) := HI3.out.tok.cell 3; clear hb c3) | (at_builtin; refine Kd.R_append k70 (w0 := w) w.heap.size rfl _ _ 44 70 (.agg #[.string ⟨#[]⟩, .string ⟨#[]⟩]) 32 rfl Tryz.underlying44 info_attr rfl (by decide) (by decide) (.slice A0 as_.length c0) as_ ⟨key, ⟨#[]⟩⟩ [.string key, .string ⟨#[]⟩] (fun _ => True) (fun _ => False) rfl rfl (k70_mkM _ _ _ ⟨key, ⟨#[]⟩⟩) (fun _ h => h.elim) (fun _ _ => trivial) HI3.out.row HI3.out.below HI3.out.below.size HALB.out ?_; intro v1 w4 hr hb4 hg4 hat4; have HI4 := Lib.hid (opI_app HI3.out hr hb4 hg4); obtain ⟨A1, c1', hv1⟩ := Kd.R_slice hr; rw [List.length_append, List.length_singleton] at hv1; subst hv1; have c34 : w4.cell? ⟨ht, 3, none⟩ = some (.slice A0 as_.length c0) := HI4.out.1.cell 3; have f34 := HI4.out.1.free 3; clear hr hb4 hg4 hat4))
                      go_roundw
                      case rel => exact ⟨f, o3, a6, m3, _, as_ ++ [⟨key, ⟨#[]⟩⟩], rfl, by have := HM3.out; omega, Lib.hid HM3.out, HA6, Lib.hid HI4.out.2, Lib.hid (by have h := HLQ.out; unfold addA at h; rw [HBC.out] at h; exact h), Lib.hid (by have := HF.out; have := HM3.out; have := HO3.out; have := HO.out; omega), Lib.hid (by have := HAL.out; have := HO3.out; rw [List.length_append, List.length_singleton]; omega)⟩
                      case measure => show slz _ < slz _; have := HM3.out; have := HO3.out; have := HO.out; simp only [slz]; omega
end Go.Proofs.YtkjgnkmnngaioaaGreat.Q
namespace Go.Proofs.YtkjgnkmnngaioaaGreat.Q
open Go.RowKit Go.Proofs.YtkjgnkmnngaioaaGreat.Mem
set_option linter.unusedVariables false
set_option linter.unusedSimpArgs false
def os (a : Nat) : ByteArray := ([⟨#[38]⟩, ⟨#[60]⟩, ⟨#[62]⟩, ⟨#[34]⟩] : List ByteArray).getD a ⟨#[]⟩
def ns (a : Nat) : ByteArray := ([⟨#[38, 97, 109, 112, 59]⟩, ⟨#[38, 108, 116, 59]⟩, ⟨#[38, 103, 116, 59]⟩, ⟨#[38, 113, 117, 111, 116, 59]⟩] : List ByteArray).getD a ⟨#[]⟩
/-- The replacer's block: what each byte is replaced by, and the bytes that are. -/
def BSB (f : Nat → Value) (tr : Value) : Array Value := ((List.range 256).map f ++ [tr]).toArray
abbrev nlb : Value := .slice none 0 0
/-- A row of bytes that reads so. -/
def Rp (W : World) (v : Value) (n : ByteArray) : Prop := ∃ (g cap : Nat) (cur : Array Value) (fz : Nat × Nat), v = .slice (some ⟨g, 0, none⟩) n.size cap ∧ W.heap[g]? = some (.cells cur 5 fz) ∧ ∀ j (hj : j < n.size), cur[j]? = some (.int .u8 n[j].toNat)
theorem own_sl {w : World} {base : Nat} {e : TypeId} {v : Value} {n : Nat} {xs : List Value} (h : w.ownsRow base e 1 v n xs) : ∃ A c, v = .slice A n c := by
  rcases h.2 with ⟨rfl, rfl⟩ | ⟨g, cap, cur, rfl, -⟩
  · exact ⟨_, _, rfl⟩
  · exact ⟨_, _, rfl⟩
def oby (a : Nat) : Nat := ([38, 60, 62, 34] : List Nat).getD a 0
/-- What stands when `k` of `np` bytes are put in, the last ones first. -/
structure BsS (q base np k : Nat) (f : Nat → Value) (tr : Value) (W : World) : Prop where
  blk : Blk W q (BSB f tr) 179
  own : W.ownsRow base 9 1 tr k ((List.range k).map fun j => .string (os (np - 1 - j)))
  done : ∀ a, a < np → np - k ≤ a → Rp W (f (oby a)) (ns a)
  rest : ∀ c, c < 256 → (∀ a, a < np → np - k ≤ a → c ≠ oby a) → f c = nlb
  ge : base ≤ q
/-- The replacer of `np` bytes. -/
def Bs (q base np : Nat) (W : World) : Prop := ∃ f tr, BsS q base np np f tr W
end Go.Proofs.YtkjgnkmnngaioaaGreat.Q
namespace Go.Proofs.YtkjgnkmnngaioaaGreat.Q
open Go.RowKit Go.IntWalk Go.Proofs.YtkjgnkmnngaioaaGreat.Mem Go.Proofs.YtkjgnkmnngaioaaGreatW.PrintWords Go.Proofs.YtkjgnkmnngaioaaGreatW.PrintLast Go.Proofs.YtkjgnkmnngaioaaGreatW.PrintMore
set_option linter.unusedVariables false
set_option linter.unusedSimpArgs false
theorem conv_own8 {w : World} {base : Nat} {v : Value} {l : List UInt8} (h : w.ownsRow base 5 1 v l.length (byc l)) : (convert 72 9 v).run Tryz.prog w = .ok (.string (st l)) w := by
  rcases h.2 with ⟨rfl, hl⟩ | ⟨g, cap, cur, rfl, hb, hg, hn, hc, hs, ht⟩
  · have : l = [] := List.length_eq_zero_iff.1 hl
    subst this
    exact run_convert_bytes_nil w 72 5 Tryz.underlying72 Tryz.underlying5 0 0 _ Tryz.underlying9
  · refine run_convert_bytes_back w 72 9 5 ⟨g, 0, none⟩ cap l Tryz.underlying72 Tryz.underlying5 Tryz.underlying9 (fun j hj => ?_)
    refine h.cells (g := g) rfl j _ ?_
    unfold byc
    rw [List.getElem?_map, List.getElem?_eq_getElem hj]
    rfl
/-- The tokens so far, and the text so far. -/
structure EndI (h base : Nat) (ok : Nat → Prop) (ts : List S46) (tx : List UInt8) (lv tv : Value) (y : World) : Prop where
  lc : Blk y h #[lv] 23
  tc : Blk y (h + 1) #[tv] 72
  lr : Kd.S k46 46 y base ok lv ts
  tr : y.ownsRow base 5 1 tv tx.length (byc tx)
/-- The tokens, and the text that ends. -/
def endT (ts : List S46) (tx : List UInt8) : List S46 := if tx = [] then ts else ts ++ [⟨3, ⟨#[]⟩, st (tellF (st tx) 0), []⟩]
/-- Nothing but the cells, and the row of tokens, has changed. -/
structure Chg (h : Nat) (row : Option Nat) (w w' : World) : Prop where
  os : w'.os = w.os
  tape : w'.tape = w.tape
  output : w'.output = w.output
  size : w.heap.size ≤ w'.heap.size
  block : ∀ k, k < w.heap.size → k ≠ h → k ≠ h + 1 → some k ≠ row → w'.heap[k]? = w.heap[k]?
theorem info_token : (Tryz.prog.info? 46).map (fun i => (i.zero, i.size, i.bytes)) = some (some (.agg #[.int .i64 0, .string ⟨#[]⟩, .string ⟨#[]⟩, .slice none 0 0]), 4, 64) := by kernel_rfl
theorem typ_token {T : TypeId} (h1 : 46 ≠ T) (h2 : 70 ≠ T) : ∀ q, q ∈ 46 :: k46.E → q ≠ T := by
  intro q hq
  have h : q = 46 ∨ q = 70 := by
    simp [k46, k70, Kd.iso, Kd.pair, Kd.string, Kd.int, Kd.scalar, Kd.slice] at hq
    omega
  rcases h with rfl | rfl
  · exact h1
  · exact h2
set_option maxRecDepth 100000 in
set_option maxHeartbeats 8000000 in
theorem end_calls (h base : Nat) (ok : Nat → Prop) (ts : List S46) (tx : List UInt8) (lv tv : Value) (w : World) (hI : EndI h base ok ts tx lv tv w) (hok : ∀ k, w.heap.size ≤ k → ok k) (hb : base ≤ h) (hl : ts.length ≤ 600000) (hx : tx.length ≤ 600000) :
    Calls Tryz.prog 48 #[.pointer (some ⟨h + 1, 0, none⟩), .pointer (some ⟨h, 0, none⟩)] w fun e w' => e = .returned (.tuple #[]) ∧ ∃ lv', EndI h base ok (endT ts tx) [] lv' (.slice none 0 0) w' ∧ Chg h lv.ownBlock w w' ∧ (lv'.ownBlock = lv.ownBlock ∨ ∃ b, lv'.ownBlock = some b ∧ w.heap.size ≤ b) := by
  have HI := Lib.hid hI
  have HH := Lib.hid hI.lc.lt
  have HH1 := Lib.hid hI.tc.lt
  obtain ⟨A1, c1, hlv⟩ := Kd.S_slice hI.lr
  obtain ⟨A2, c2, htv⟩ := own_sl hI.tr
  have HOK := Lib.hid hok
  clear hok
  have HX := Lib.hid hx
  have HL := Lib.hid hl
  subst hlv htv
  have d0 : w.cell? ⟨h, 0, none⟩ = some (.slice A1 ts.length c1) := hI.lc.cell 0
  have d1 : w.cell? ⟨h + 1, 0, none⟩ = some (.slice A2 tx.length c2) := hI.tc.cell 0
  have f1 : w.frozen? ⟨h + 1, 0, none⟩ = false := hI.tc.free 0
  have hne : h + 1 ≠ h := by omega
  clear hI
  by_cases ht : tx = []
  · have HE := Lib.hid (show endT ts tx = ts from by unfold endT; rw [if_pos ht])
    have hz : tx.length = 0 := by rw [ht]; rfl
    rw [hz] at d1
    clear ht hz
    go_enter Tryz.func48, Tryz.ntmps48
    go_wp2_with fail
    first | go_end0 | refine bodyPost_ret (results_none rfl _ _ _) rfl ?_
    refine ⟨rfl, .slice A1 ts.length c1, ?_, ⟨rfl, rfl, rfl, by simp [World.setCell], fun k _ h1 h2 _ => Below.heap_setCell _ _ _ _ h2⟩, .inl rfl⟩
    rw [HE.out]
    exact ⟨HI.out.lc.setCell_other _ (by show h ≠ h + 1; omega), HI.out.tc.set 0 _, Kd.S_set HI.out.lr HI.out.tc (typ_token (by decide) (by decide)) 0 _, World.ownsRow_nil _ _ _ _⟩
  · have HE := Lib.hid (show endT ts tx = ts ++ [⟨3, ⟨#[]⟩, st (tellF (st tx) 0), []⟩] from by unfold endT; rw [if_neg ht])
    have hz : 0 < tx.length := List.length_pos_iff.2 ht
    have v1 : (0 : Int) < (tx.length : Int) := by omega
    have HCV := Lib.hid (show ∀ y : World, y.ownsRow base 5 1 (.slice A2 tx.length c2) tx.length (byc tx) → (convert 72 9 (.slice A2 tx.length c2)).run Tryz.prog y = .ok (.string (st tx)) y from fun y hy => conv_own8 hy)
    have HT := Lib.hid (show ∀ y, Calls Tryz.prog 19 #[.string (st tx)] y fun e w' => e = .returned (.string ⟨(tellF (st tx) 0).toArray⟩) ∧ Below y.heap.size y w' from fun y => tell_calls (st tx) y (by show tx.toArray.size ≤ 600000; rw [List.size_toArray]; exact HX.out))
    have hcv := HCV.out _ (World.ownsRow.drew HI.out.tr)
    clear ht hz
    go_enter Tryz.func48, Tryz.ntmps48
    go_upto_region 1 with (fail)
    go_region_law (first
      | (refine Kd.S_append_step k46 (w0 := w) base (by simp [Region.wanted]) _ _ 23 46 (.agg #[.int .i64 0, .string ⟨#[]⟩, .string ⟨#[]⟩, .slice none 0 0]) 64 rfl Tryz.underlying23 info_token rfl (by decide) (by decide) (.slice A1 ts.length c1) ts ⟨3, ⟨#[]⟩, st (tellF (st tx) 0), []⟩ [.int .i64 3, .string ⟨#[]⟩, .string (st (tellF (st tx) 0)), .slice none 0 0] ok (fun _ => False) rfl rfl (k46_mkM _ _ _ ⟨3, ⟨#[]⟩, st (tellF (st tx) 0), []⟩ (Kd.R_nil _ _ _ _ _)) (fun _ h => h.elim) (fun k hk => HOK.out k (Nat.le_trans HB0.out.size hk)) (Kd.S_mono HS1.out (fun _ hk => ⟨hk, fun h => h⟩)) HB1.out HBS1.out (by have := HL.out; omega) ?_; intro v1 w4 hr hb4 hg4 hat4; obtain ⟨A3, c3, hv1⟩ := Kd.S_slice hr; rw [List.length_append, List.length_singleton] at hv1; subst hv1; have HL4 := Lib.hid (show Blk w4 h #[.slice A1 ts.length c1] 23 from HLB.out.of_block (hg4.block h HLB.out.lt (Kd.S_ne HS1.out HLB.out (by decide)))); have HT4 := Lib.hid (show Blk w4 (h + 1) #[.slice A2 tx.length c2] 72 from HTB.out.of_block (hg4.block (h + 1) HTB.out.lt (Kd.S_ne HS1.out HTB.out (by decide)))); have e5 : w4.cell? ⟨h + 1, 0, none⟩ = some (.slice A2 tx.length c2) := HT4.out.cell 0; have f5 : w4.frozen? ⟨h + 1, 0, none⟩ = false := HT4.out.free 0; have HR4 := Lib.hid hr; have HG4 := Lib.hid hg4; have HAT4 := Lib.hid hat4; have e4 : w4.cell? ⟨h, 0, none⟩ = some (.slice A1 ts.length c1) := HL4.out.cell 0; have f4 : w4.frozen? ⟨h, 0, none⟩ = false := HL4.out.free 0; clear hr hb4 hg4 hat4)
      | (go_simp; go_at_call 19; refine (HT.out _).mono ?_; rintro e w1 ⟨rfl, hb1⟩; have HS1 := Lib.hid (Kd.S_below (Kd.S_drew HI.out.lr) hb1); have HB0 := Lib.hid (show Below w.heap.size w w1 from Below.trans (b := w.drew) ⟨rfl, rfl, rfl, Nat.le_refl _, fun _ _ => rfl⟩ hb1); have HB1 := Lib.hid (HB0.out.mono (show base ≤ w.heap.size by have := HH.out; omega)); have HBS1 := Lib.hid (show base ≤ w1.heap.size from Nat.le_trans (show base ≤ w.heap.size by have := HH.out; omega) HB0.out.size); have HLB := Lib.hid (HI.out.lc.below HB0.out HH.out); have HTB := Lib.hid (HI.out.tc.below HB0.out HH1.out); have d0' : w1.cell? ⟨h, 0, none⟩ = some (.slice A1 ts.length c1) := HLB.out.cell 0; have d0'' : ∀ o, (w1.alloc o).cell? ⟨h, 0, none⟩ = some (.slice A1 ts.length c1) := (fun o => (HLB.out.alloc_old o).cell 0); clear hb1))
    all_goals
      show Exit.then _ _ _ _ _
      go_wp2_with fail
      first | go_end0 | refine bodyPost_ret (results_none rfl _ _ _) rfl ?_
      refine ⟨rfl, .slice A3 (ts.length + 1) c3, ?_, ?_, ?_⟩
      · rw [HE.out]
        have hs := Kd.S_set HR4.out HL4.out (typ_token (by decide) (by decide)) 0 (.slice A3 (ts.length + 1) c3)
        have ht4 := HT4.out.setCell_other (a := ⟨h, 0, none⟩) (.slice A3 (ts.length + 1) c3) (by show h + 1 ≠ h; omega)
        exact ⟨(HL4.out.set 0 _).setCell_other _ (by show h ≠ h + 1; omega), ht4.set 0 _, Kd.S_set hs ht4 (typ_token (by decide) (by decide)) 0 _, World.ownsRow_nil _ _ _ _⟩
      · have h0 := HB0.out
        have h4 := HG4.out
        exact ⟨h4.os.trans h0.os, h4.tape.trans h0.tape, h4.output.trans h0.output, by have := h0.size; have := h4.size; simp [World.setCell]; omega, fun k hk h1 h2 h3 => (Below.heap_setCell _ _ _ _ h2).trans ((Below.heap_setCell _ _ _ _ h1).trans ((h4.block k (Nat.lt_of_lt_of_le hk h0.size) h3).trans (h0.block k hk)))⟩
      · rcases HAT4.out with h | ⟨b, h1, h2⟩
        · exact .inl h
        · exact .inr ⟨b, h1, Nat.le_trans HB0.out.size h2⟩
end Go.Proofs.YtkjgnkmnngaioaaGreat.Q
