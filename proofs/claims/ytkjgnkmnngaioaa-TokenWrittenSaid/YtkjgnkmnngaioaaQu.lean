/- 'token.Name', and quoted values ('token.quoted'). -/
import Derived.Test.YtkjgnkmnngaioaaNma
import Derived.Test.YtkjgnkmnngaioaaTel
import Derived.Lib.Strings
import Derived.Lib.Slices
namespace Go.Proofs.Ytkjgnkmnngaioaa.Q
open Go.RowKit Go.IntWalk Go.Proofs.Ytkjgnkmnngaioaa.Mem
set_option linter.unusedVariables false
set_option linter.unusedSimpArgs false

/-- The row that '[]byte(s)' makes. -/
theorem bt_made {w W : World} {g cp : Nat} {fz : Nat × Nat} {s : ByteArray} (hc : s.size ≤ cp) (h : W.heap[g]? = some (.cells (bytesRow s cp) 5 fz)) : Bt W g 0 s.size cp s.data.toList := by
  refine ⟨by simp, hc, fun i hi => ?_⟩
  have h1 : W.cell? ⟨g, 0 + i, none⟩ = (bytesRow s cp)[i]? := by simp [World.cell?, h]
  rw [h1]
  unfold bytesRow
  rw [Array.getElem?_append_left (by simpa using hi)]
  simp at hi
  simp [hi]
/-- A text is a name, and told. -/
def nameB (l : List UInt8) : Bool := decide (nmF l = some l.length) && decide (lows l = l)
set_option maxRecDepth 100000 in
set_option maxHeartbeats 1600000 in
theorem isName_calls (s : ByteArray) (w : World) (hs : s.size ≤ 9223372036854775807) :
    Calls Try.prog 10 #[.string s] w fun e w' => e = .returned (.bool (nameB s.data.toList)) ∧ Below w.heap.size w w' := by
  have hbs : ∀ W : World, (convert 9 45 (.string s)).run Try.prog W = _ := fun W => run_bytes_of_string (P := Try.prog) W 9 45 5 s Try.underlying9 Try.underlying45 Try.underlying5
  obtain ⟨cp, hcp⟩ : ∃ cp, cp = grownCap w s.size 0 5 := ⟨_, rfl⟩
  have hge : s.size ≤ cp := by rw [hcp]; exact grownCap_ge _ _ _ _
  obtain ⟨W, hW⟩ : ∃ W, W = (w.alloc (.cells (bytesRow s cp) 5 ((bytesRow s cp).size, (bytesRow s cp).size + 1))).drew := ⟨_, rfl⟩
  have HBT := Lib.hid (show Bt W w.heap.size 0 s.size cp s.data.toList from bt_made (w := w) hge (by rw [hW]; exact heap_alloc_new w _))
  have HBW := Lib.hid (show Below w.heap.size w W from by rw [hW]; exact below_drewN ((Below.refl _ _).alloc (Nat.le_refl _) _) 1)
  have HNM := Lib.hid (name_calls w.heap.size 0 s.size cp s.data.toList W HBT.out hs)
  have HLL := Lib.hid (show s.data.toList.length = s.size by simp)
  subst hW hcp
  clear hge
  unfold NmPost at HNM
  cases hnm : nmF s.data.toList with
  | none =>
    have HR := Lib.hid (show nameB s.data.toList = false from by unfold nameB; rw [hnm]; rfl)
    rw [hnm] at HNM
    dsimp only at HNM
    clear hnm
    go_enter Try.func10, Try.ntmps10
    go_wp2_with (go_at_call 17; refine HNM.out.mono ?_; rintro e w' ⟨rfl, hb⟩; have HB2 := Lib.hid hb; clear hb)
    go_ret
    exact ⟨by rw [HR.out]; first | rfl | simp, HBW.out.trans (HB2.out.mono HBW.out.size)⟩
  | some k =>
    rw [hnm] at HNM
    dsimp only at HNM
    have hk := nmF_some hnm
    have hkl : k ≤ s.size := by have := HLL.out; omega
    have HNK := Lib.hid hnm
    clear hnm hk
    by_cases hks : s.size = k
    · subst hks
      have HTK := Lib.hid (show s.data.toList.take s.size = s.data.toList from List.take_of_length_le (by simp))
      rw [HTK.out] at HNM
      have v1 : ((s.size - s.size : Nat) : Int) = 0 := by omega
      rw [Nat.sub_self] at HNM
      go_enter Try.func10, Try.ntmps10
      go_wp2_with (go_at_call 17; refine HNM.out.mono ?_; rintro e w' ⟨rfl, hb⟩; have HB2 := Lib.hid hb; clear hb)
      go_ret
      refine ⟨?_, HBW.out.trans (HB2.out.mono HBW.out.size)⟩
      show Ending.returned (.bool ((st (lows s.data.toList)).toList == s.toList)) = _
      rw [ByteArray.toList_eq, ByteArray.toList_eq]
      unfold nameB
      rw [HNK.out, HLL.out]
      simp [st]
      rw [Bool.eq_iff_iff]
      simp
    · have v1 : ((s.size - k : Nat) : Int) ≠ 0 := by omega
      have v2 : (((s.size - k : Nat) : Int) == 0) = false := by simp; omega
      have HR := Lib.hid (show nameB s.data.toList = false from by unfold nameB; rw [HNK.out, HLL.out]; simp; omega)
      clear HNK
      go_enter Try.func10, Try.ntmps10
      go_wp2_with (go_at_call 17; refine HNM.out.mono ?_; rintro e w' ⟨rfl, hb⟩; have HB2 := Lib.hid hb; clear hb)
      go_ret
      exact ⟨by rw [HR.out]; first | rfl | simp, HBW.out.trans (HB2.out.mono HBW.out.size)⟩
set_option maxRecDepth 100000 in
set_option maxHeartbeats 1600000 in
theorem cutp_calls (s p : ByteArray) (w : World) :
    Calls Try.prog 40 #[.string s, .string p] w fun e w' => e = .returned (.tuple #[.string ⟨(Lib.trimPrefix s.data.toList p.data.toList).toArray⟩, .bool (Lib.hasPrefix s.data.toList p.data.toList)]) ∧ w = w' := by
  go_enter Try.func40, Try.ntmps40
  go_wp2
  · have h2 : (!((s.extract 0 p.size).toList == p.toList)) = true := by assumption
    have h3 : (decide (p.size ≤ s.size) && ((s.extract 0 p.size).toList == p.toList)) = false := by
      have : ((s.extract 0 p.size).toList == p.toList) = false := by simpa using h2
      rw [this]
      simp
    go_ret2
    refine ⟨?_, rfl⟩
    rw [Lib.trimPrefix_miss s p h3, ← Lib.hasPrefix_raw, h3]
    rfl
  · have h1 : p.size ≤ s.size := by assumption
    have h2 : (!((s.extract 0 p.size).toList == p.toList)) = false := by assumption
    have h2' : ((s.extract 0 p.size).toList == p.toList) = true := by simpa using h2
    go_ret2
    refine ⟨?_, rfl⟩
    rw [Lib.trimPrefix_hit s p h1 h2', ← Lib.hasPrefix_raw, h2', decide_eq_true h1]
    rfl
  · have h1 : ¬ p.size ≤ s.size := by assumption
    have h3 : (decide (p.size ≤ s.size) && ((s.extract 0 p.size).toList == p.toList)) = false := by simp [h1]
    go_ret2
    refine ⟨?_, rfl⟩
    rw [Lib.trimPrefix_miss s p h3, ← Lib.hasPrefix_raw, h3]
    rfl
set_option maxRecDepth 100000 in
set_option maxHeartbeats 1600000 in
theorem index1_calls (s : ByteArray) (w : World) :
    Calls Try.prog 64 #[.string s, .string ⟨#[34]⟩] w fun e w' => e = .returned (.int .i64 (Lib.indexByte s.data.toList 34)) ∧ w = w' := by
  have HS := Lib.hid (show Calls Try.prog 49 #[.string s, .int .u8 34] w fun e w' => e = .returned (.int .i64 (Lib.indexByte s.data.toList 34)) ∧ w = w' from sidx_calls s 34 w)
  obtain ⟨b, hb⟩ : ∃ b, ([34] == s.toList) = b := ⟨_, rfl⟩
  cases b with
  | true =>
    have HX := Lib.hid (show Lib.indexByte s.data.toList 34 = 0 from by
      have h : [34] = s.toList := by simpa using hb
      rw [← ByteArray.toList_eq, ← h]
      rfl)
    go_enter Try.func64, Try.ntmps64
    go_wp2_with (go_at_call 49; refine HS.out.mono ?_; rintro e w' ⟨rfl, rfl⟩)
    go_ret
    exact ⟨by rw [HX.out]; rfl, rfl⟩
  | false =>
    go_enter Try.func64, Try.ntmps64
    go_wp2_with (go_at_call 49; refine HS.out.mono ?_; rintro e w' ⟨rfl, rfl⟩)
    go_ret
    exact ⟨rfl, rfl⟩
set_option maxRecDepth 100000 in
set_option maxHeartbeats 1600000 in
theorem lcut_miss (s : ByteArray) (w : World) (h : Lib.indexByte s.data.toList 34 = -1) :
    Calls Try.prog 51 #[.string s, .string ⟨#[34]⟩] w fun e w' => e = .returned (.tuple #[.string s, .string ⟨#[]⟩, .bool false]) ∧ w = w' := by
  have HS := Lib.hid (index1_calls s w)
  rw [h] at HS
  clear h
  go_enter Try.func51, Try.ntmps51
  go_wp2_with (go_at_call 64; refine HS.out.mono ?_; rintro e w' ⟨rfl, rfl⟩)
  go_ret3
  exact ⟨rfl, rfl⟩
set_option maxRecDepth 100000 in
set_option maxHeartbeats 1600000 in
theorem lcut_hit (s : ByteArray) (k : Nat) (w : World) (h : Lib.indexByte s.data.toList 34 = k) (hk : k < s.size) (hs : s.size ≤ 600000) :
    Calls Try.prog 51 #[.string s, .string ⟨#[34]⟩] w fun e w' => e = .returned (.tuple #[.string (s.extract 0 k), .string (s.extract (k + 1) s.size), .bool true]) ∧ ∃ n, w' = w.drewN n := by
  have HS := Lib.hid (index1_calls s w)
  rw [h] at HS
  clear h
  have v1 : (k : Int) < (s.size : Int) := by omega
  have v2 : (0 : Int) ≤ (k : Int) := by omega
  have v3 : (s.size : Int) ≤ 600000 := by omega
  have v4 : IntKind.i64.wrap ((k : Int) + 1) = ((k + 1 : Nat) : Int) := by rw [i64_in _ ⟨by omega, by omega⟩]; omega
  have v5 : ((k + 1 : Nat) : Int) ≤ (s.size : Int) := by omega
  have v6 : (0 : Int) ≤ ((k + 1 : Nat) : Int) := by omega
  go_enter Try.func51, Try.ntmps51
  go_upto_region 3 with (go_at_call 64; refine HS.out.mono ?_; rintro e w' ⟨rfl, rfl⟩)
  go_quiet (fail)
  go_wp2_with fail
  go_ret3
  exact ⟨rfl, _, rfl⟩
/-- 'strings.Cut' at a quote, and where it stands. -/
theorem idx_tw (l : List UInt8) : (34 ∈ l → Lib.indexByte l 34 = ((l.takeWhile (· != 34)).length : Int) ∧ (l.takeWhile (· != 34)).length < l.length) ∧ (34 ∉ l → Lib.indexByte l 34 = -1) := by
  induction l with
  | nil => simp [Lib.indexByte]
  | cons c l ih =>
    unfold Lib.indexByte
    by_cases hc : c = 34
    · subst hc
      simp
    · have h1 : (c == 34) = false := by simpa using hc
      have h2 : (c != 34) = true := by simpa using hc
      rw [h1, List.takeWhile_cons, h2]
      refine ⟨fun h => ?_, fun h => ?_⟩
      · have hm : 34 ∈ l := by
          rcases List.mem_cons.1 h with h | h
          · exact absurd h.symm hc
          · exact h
        obtain ⟨h3, h4⟩ := ih.1 hm
        rw [h3]
        have h5 : (((l.takeWhile (· != 34)).length : Int) == -1) = false := by first | (simp; done) | (simp; omega)
        simp only [Bool.false_eq_true, if_false, if_true, h5, List.length_cons]
        omega
      · have hm : 34 ∉ l := fun hm => h (List.mem_cons_of_mem _ hm)
        rw [ih.2 hm]
        rfl
set_option maxRecDepth 100000 in
set_option maxHeartbeats 1600000 in
theorem cut_miss (s : ByteArray) (w : World) (h : 34 ∉ s.data.toList) :
    Calls Try.prog 41 #[.string s, .string ⟨#[34]⟩] w fun e w' => e = .returned (.tuple #[.string s, .string ⟨#[]⟩, .bool false]) ∧ w = w' := by
  have HS := Lib.hid (lcut_miss s w ((idx_tw _).2 h))
  clear h
  go_enter Try.func41, Try.ntmps41
  go_wp2_with (go_at_call 51; refine HS.out.mono ?_; rintro e w' ⟨rfl, rfl⟩)
  go_ret3
  exact ⟨rfl, rfl⟩
set_option maxRecDepth 100000 in
set_option maxHeartbeats 1600000 in
theorem cut_hit (s : ByteArray) (k : Nat) (w : World) (h : 34 ∈ s.data.toList) (hk : (s.data.toList.takeWhile (· != 34)).length = k) (hs : s.size ≤ 600000) :
    Calls Try.prog 41 #[.string s, .string ⟨#[34]⟩] w fun e w' => e = .returned (.tuple #[.string (s.extract 0 k), .string (s.extract (k + 1) s.size), .bool true]) ∧ ∃ n, w' = w.drewN n := by
  have h1 := (idx_tw _).1 h
  rw [hk] at h1
  have HS := Lib.hid (lcut_hit s k w h1.1 (by have := h1.2; simpa using this) hs)
  clear h hk h1
  go_enter Try.func41, Try.ntmps41
  go_wp2_with (go_at_call 51; refine HS.out.mono ?_; rintro e w' ⟨rfl, n, rfl⟩)
  go_ret3
  exact ⟨rfl, _, rfl⟩
/-- What stands quoted behind a sign of equality. -/
def qF (l : List UInt8) : Option (List UInt8) := if Lib.hasPrefix l [61, 34] then (if 34 ∈ l.drop 2 then some ((l.drop 2).takeWhile (· != 34)) else none) else none
theorem qF_some {l v : List UInt8} (h : qF l = some v) : v.length + 3 ≤ l.length ∧ 34 ∈ l.drop 2 ∧ v = (l.drop 2).takeWhile (· != 34) ∧ Lib.hasPrefix l [61, 34] = true := by
  unfold qF at h
  split at h
  · rename_i hp
    split at h
    · rename_i hm
      injection h with h
      have h1 := ((idx_tw _).1 hm).2
      rw [h] at h1
      rw [List.length_drop] at h1
      exact ⟨by omega, hm, h.symm, hp⟩
    · cases h
  · cases h
/-- What 'quoted' tells. -/
def QuPost (g a n c : Nat) (l : List UInt8) (w : World) (e : Ending) (w' : World) : Prop :=
  (match qF l with
    | none => e = .returned (.tuple #[.string ⟨#[]⟩, .slice (some ⟨g, a, none⟩) n c, .bool false])
    | some v => e = .returned (.tuple #[.string (st (tellF (st v) 0)), .slice (some ⟨g, bof a n (v.length + 3), none⟩) (n - (v.length + 3)) (n - (v.length + 3)), .bool true])) ∧ Below w.heap.size w w'
set_option maxRecDepth 100000 in
set_option maxHeartbeats 1600000 in
theorem quoted_calls (g a n c : Nat) (l : List UInt8) (w : World) (hB : Bt w g a n c l) (hn : n ≤ 600000) :
    Calls Try.prog 30 #[.slice (some ⟨g, a, none⟩) n c] w (QuPost g a n c l w) := by
  have HB := Lib.hid hB
  have HLN := Lib.hid hB.len
  have HCP := Lib.hid hB.cap
  have hcv : (convert 45 9 (.slice (some ⟨g, a, none⟩) n c)).run Try.prog w = .ok (.string (st l)) w := by
    have h := conv_bt hB (c' := c) (Nat.le_refl n)
    rw [List.take_of_length_le (by rw [hB.len]; exact Nat.le_refl _)] at h
    exact h
  clear hB
  obtain ⟨b, hb⟩ : ∃ b, Lib.hasPrefix l [61, 34] = b := ⟨_, rfl⟩
  have HP := Lib.hid hb
  obtain ⟨r, hr⟩ : ∃ r, Lib.trimPrefix l [61, 34] = r := ⟨_, rfl⟩
  have HC := Lib.hid (show Calls Try.prog 40 #[.string (st l), .string ⟨#[61, 34]⟩] w fun e w' => e = .returned (.tuple #[.string (st r), .bool b]) ∧ w = w' from by
    have h := cutp_calls (st l) ⟨#[61, 34]⟩ w
    have e1 : (st l).data.toList = l := rfl
    have e2 : (⟨#[61, 34]⟩ : ByteArray).data.toList = [61, 34] := rfl
    rw [e1, e2, hb, hr] at h
    exact h)
  have HR := Lib.hid (show r.length ≤ n from by
    rw [← hr, ← HLN.out]
    unfold Lib.trimPrefix
    split
    · rw [List.length_drop]; omega
    · exact Nat.le_refl _)
  have HRD := Lib.hid (show b = true → r = l.drop 2 from fun h => by rw [← hr]; unfold Lib.trimPrefix; rw [hb, h]; rfl)
  clear hb hr
  have er : (st r).data.toList = r := rfl
  have es : (st r).size = r.length := by unfold st; simp [ByteArray.size]
  by_cases hm : 34 ∈ r
  · obtain ⟨k, hk⟩ : ∃ k, (r.takeWhile (· != 34)).length = k := ⟨_, rfl⟩
    have HK := Lib.hid hk
    have HKL := Lib.hid (show k < r.length from by have := ((idx_tw _).1 hm).2; omega)
    have HM := Lib.hid hm
    have HX := Lib.hid (show (st r).extract 0 k = st (r.takeWhile (· != 34)) from by
      apply ByteArray.ext
      apply Array.toList_inj.1
      rw [Lib.extract_data, er]
      show List.take (k - 0) (r.drop 0) = r.takeWhile (· != 34)
      rw [Nat.sub_zero, List.drop_zero, ← hk]
      exact (List.prefix_iff_eq_take.1 (List.takeWhile_prefix _)).symm)
    have HCU := Lib.hid (cut_hit (st r) k w hm hk (by rw [es]; have := HR.out; omega))
    clear hk hm er es
    cases b with
    | true =>
      have HQ := Lib.hid (show qF l = some (r.takeWhile (· != 34)) from by
        unfold qF
        rw [HP.out, ← HRD.out rfl, if_pos rfl, if_pos HM.out])
      obtain ⟨v, hv⟩ : ∃ v, v = r.takeWhile (· != 34) := ⟨_, rfl⟩
      rw [← hv] at HX HQ HK
      rw [HX.out] at HCU
      have HV := Lib.hid hv
      have HT := Lib.hid (show (st v).size = k from by rw [← HK.out]; unfold st; simp [ByteArray.size])
      have hlen : (st v).size = k := HT.out
      clear hv hlen
      have k1 : (k : Int) ≤ 600000 := by have := HKL.out; have := HR.out; omega
      have k0 : (0 : Int) ≤ (k : Int) := by omega
      have HQL := Lib.hid (qF_some HQ.out)
      have HVL := Lib.hid (show v.length = k from HK.out)
      have hk3 : k + 3 ≤ n := by have := HQL.out.1; have := HVL.out; have := HLN.out; omega
      have HTL := Lib.hid (show Lib.hasPrefix l [61, 34] = true from HP.out)
      rw [← HT.out] at k1 k0
      go_enter Try.func30, Try.ntmps30
      go_upto_region 6 with (first | (go_at_call 40; refine HC.out.mono ?_; rintro e w' ⟨rfl, rfl⟩) | (go_at_call 41; refine HCU.out.mono ?_; rintro e w' ⟨rfl, nd, rfl⟩))
      have hC0 : NmC w (w.drewN (nd + 1)) 0 (w.drewN nd).drew := rfl
      have ne : Nonempty (Mix.Wd (NmC w (w.drewN (nd + 1))) 0) := ⟨⟨(w.drewN nd).drew, 0, Nat.le_refl _, hC0⟩⟩
      have hsl : ∀ W : World, (Instr.slice 45 (.slice (some ⟨g, a, none⟩) n c) (some (.int .i64 (((st v).size : Int) + 3))) (some (.int .i64 (n : Int))) (some (.int .i64 (n : Int)))).run Try.prog W = .ok (.slice (some ⟨g, bof a n (k + 3), none⟩) (n - (k + 3)) (n - (k + 3))) W := fun W => by
        have h := slice_lhm W g a n c (k + 3) hk3 HCP.out
        rw [HT.out]
        exact h
      refine Mix.wp_region_mix (C := NmC w (w.drewN (nd + 1))) [1] (by kernel_rfl) (by kernel_rfl) hC0 ?_
      iterate 1 (refine Mix.mix_still (by decide) (fun K hK => ?_); go_simp; refine hK _ ?_; clear hK K)
      refine Mix.mix_turn (by decide) (fun K hK => ?_)
      go_simp
      refine ⟨_, fun y hy => (tell_calls (st v) y (by rw [HT.out]; have := HKL.out; have := HR.out; omega)).mono fun e w' h => ⟨h.1, by have hy' : y = w.drewN (nd + 1) := hy; rw [hy'] at h; exact (below_drewN (Below.refl w.heap.size w) (nd + 1)).trans h.2⟩, hK _ ?_⟩
      clear hK K
      iterate 10 (refine Mix.mix_still (by decide) (fun K hK => ?_); go_simp; refine hK _ ?_; clear hK K)
      refine Mix.mix_nil ?_
      intro w6 hw6
      have HW6 := Lib.hid (show Below w.heap.size w w6 from hw6)
      clear hw6 ne hC0 hsl
      show Exit.then _ _ _ _ w6
      go_wp2_with fail
      refine bodyPost_ret (v := .tuple #[.string ⟨(tellF (st v) 0).toArray⟩, .slice (some ⟨g, bof a n (k + 3), none⟩) (n - (k + 3)) (n - (k + 3)), .bool true]) (by simp [results, Try.results30, go_sem]) rfl ⟨by rw [HQ.out]; show _ = Ending.returned (.tuple #[.string (st (tellF (st v) 0)), .slice (some ⟨g, bof a n (v.length + 3), none⟩) (n - (v.length + 3)) (n - (v.length + 3)), .bool true]); rw [HVL.out]; rfl, HW6.out⟩
    | false =>
      have HQ := Lib.hid (show qF l = none from by unfold qF; rw [HP.out]; rfl)
      go_enter Try.func30, Try.ntmps30
      go_wp2_with (first | (go_at_call 40; refine HC.out.mono ?_; rintro e w' ⟨rfl, rfl⟩) | (go_at_call 41; refine HCU.out.mono ?_; rintro e w' ⟨rfl, nd, rfl⟩))
      refine bodyPost_ret (v := .tuple #[.string ⟨#[]⟩, .slice (some ⟨g, a, none⟩) n c, .bool false]) (by simp [results, Try.results30, go_sem]) rfl ⟨by rw [HQ.out], below_drewN (Below.refl _ _) _⟩
  · have HCU := Lib.hid (cut_miss (st r) w hm)
    have HQ := Lib.hid (show qF l = none from by
      unfold qF
      rw [HP.out]
      cases b with
      | false => rfl
      | true =>
        rw [← HRD.out rfl, if_neg hm]
        rfl)
    clear hm er es
    cases b with
    | true =>
      go_enter Try.func30, Try.ntmps30
      go_wp2_with (first | (go_at_call 40; refine HC.out.mono ?_; rintro e w' ⟨rfl, rfl⟩) | (go_at_call 41; refine HCU.out.mono ?_; rintro e w' ⟨rfl, rfl⟩))
      refine bodyPost_ret (v := .tuple #[.string ⟨#[]⟩, .slice (some ⟨g, a, none⟩) n c, .bool false]) (by simp [results, Try.results30, go_sem]) rfl ⟨by rw [HQ.out], Below.refl _ _⟩
    | false =>
      go_enter Try.func30, Try.ntmps30
      go_wp2_with (first | (go_at_call 40; refine HC.out.mono ?_; rintro e w' ⟨rfl, rfl⟩) | (go_at_call 41; refine HCU.out.mono ?_; rintro e w' ⟨rfl, rfl⟩))
      refine bodyPost_ret (v := .tuple #[.string ⟨#[]⟩, .slice (some ⟨g, a, none⟩) n c, .bool false]) (by simp [results, Try.results30, go_sem]) rfl ⟨by rw [HQ.out], Below.refl _ _⟩
end Go.Proofs.Ytkjgnkmnngaioaa.Q
