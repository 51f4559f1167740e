/- sync.Once, one goroutine: not yet done, the lock free: the function is called, and the Once is done. -/
import Derived.Test.YtkjgnkmnngaioaaProg
import Derived.WalkKit
import Derived.Defers
import Derived.Laws.Pointers
import Derived.Laws.LoneSync
import Derived.RegionTactic
import Derived.RegionCalls
import Derived.KernelRfl
import Derived.Test.YtkjgnkmnngaioaaMmx
namespace Go.Proofs.Ytkjgnkmnngaioaa.Q
open Go.RowKit Go.Proofs.Ytkjgnkmnngaioaa.Mem
set_option linter.unusedVariables false
set_option linter.unusedSimpArgs false

theorem disable (w : World) : (callFunc 52 #[]).run Try.prog w = .ok (.value (.tuple #[])) w := run_call_mark0 Try.func52 (by kernel_rfl) (by kernel_rfl) (by kernel_rfl) .disable (by kernel_rfl) w
theorem enable (w : World) : (callFunc 54 #[]).run Try.prog w = .ok (.value (.tuple #[])) w := run_call_mark0 Try.func54 (by kernel_rfl) (by kernel_rfl) (by kernel_rfl) .enable (by kernel_rfl) w
theorem acquire (a : Addr) (w : World) : (callFunc 55 #[.pointer (some a)]).run Try.prog w = .ok (.value (.tuple #[])) w := run_call_marked Try.func55 (by kernel_rfl) (by kernel_rfl) (by kernel_rfl) .acquire (by kernel_rfl) a w
theorem releaseMerge (a : Addr) (w : World) : (callFunc 57 #[.pointer (some a)]).run Try.prog w = .ok (.value (.tuple #[])) w := run_call_marked Try.func57 (by kernel_rfl) (by kernel_rfl) (by kernel_rfl) .releaseMerge (by kernel_rfl) a w

theorem store_deferred (a : Addr) (x : Value) (u : FrameMode) (w : World) (hc : w.cell? a = some x) (hz : w.frozen? a = false) :
    CallsD Try.prog 36 #[.pointer (some a), .bool true] u w fun e u' w' => u' = u ∧ (e = .returned (.tuple #[]) ∧ w' = w.drew.setCell a (.int .u32 1)) := by
  have hc' : w.drew.cell? a = some x := by go_simp
  have hz' : w.drew.frozen? a = false := by go_simp
  have hst := run_call_store (P := Try.prog) Try.func45 (by kernel_rfl) (by kernel_rfl) (by kernel_rfl) (by kernel_rfl) (k := .u32) (y := 1) hc' hz'
  go_enter_d Try.func36, Try.ntmps36
  go_wp2
  go_region_calls
  all_goals (go_end0; exact ⟨rfl, rfl⟩)

set_option maxRecDepth 100000 in
theorem unlock_deferred (a : Addr) (u : FrameMode) (w : World) (hc : w.cell? a = some (.int .i32 1)) (hz : w.frozen? a = false) :
    CallsD Try.prog 35 #[.pointer (some a)] u w fun e u' w' => u' = u ∧ (e = .returned (.tuple #[]) ∧ w' = w.setCell a (.int .i32 0)) := by
  have hd := disable
  have he := enable
  have hr := releaseMerge
  have hadd := run_call_add (P := Try.prog) Try.func58 (by kernel_rfl) (by kernel_rfl) (by kernel_rfl) .i32 (by kernel_rfl) (y := -1) (s := 0) hc hz (by simp [go_sem]; rfl)
  have hcv := run_convert_to_unsafe (P := Try.prog) (src := 114) (dst := 118) Try.underlying114 Try.underlying118 (by kernel_rfl) hc
  go_enter_d Try.func35, Try.ntmps35
  go_wp2
  go_end0
  go_wp2
  go_end0
  exact ⟨rfl, rfl⟩

set_option maxRecDepth 100000 in
theorem lock_free (a : Addr) (w : World) (hc : w.cell? a = some (.int .i32 0)) (hz : w.frozen? a = false) :
    Calls Try.prog 34 #[.pointer (some a)] w fun e w' => e = .returned (.tuple #[]) ∧ w' = w.setCell a (.int .i32 1) := by
  have hd := disable
  have he := enable
  have ha := acquire
  have hcas := run_call_cas_hit (P := Try.prog) Try.func53 (by kernel_rfl) (by kernel_rfl) (by kernel_rfl) .i32 (by kernel_rfl) (y := 1) hc hz
  have hc' : (w.setCell a (.int .i32 1)).cell? a = some (.int .i32 1) := World.cell?_setCell_same w a _ hc
  have hcv := run_convert_to_unsafe (P := Try.prog) (src := 114) (dst := 118) Try.underlying114 Try.underlying118 (by kernel_rfl) hc'
  go_enter Try.func34, Try.ntmps34
  go_wp2
  first | go_end0 | (simp only [Exit.inBlock, Exit.then]; refine bodyPost_ret (results_none rfl _ _ _) rfl ?_) | refine bodyPost_ret (results_none rfl _ _ _) rfl ?_
  go_wp2
  go_end0
  exact ⟨rfl, rfl⟩

/-- The Replacer's block. -/
abbrev RB (d m : Int) (c3 c4 : Value) : Array Value := #[.int .u32 d, .int .i32 m, .int .u32 0, c3, c4]
set_option maxRecDepth 100000 in
set_option maxHeartbeats 1600000 in
/-- '(*sync.Once).doSlow': 'Q' is what buildOnce leaves. -/
theorem slow_build (b : Nat) (c3 c4 : Value) (Q : World → Prop) (w : World) (hB : Blk w b (RB 0 0 c3 c4) 70)
    (hQ : ∀ w', Q w' → ∃ d3 d4, Blk w' b (RB 0 1 d3 d4) 70)
    (hF : Calls Try.prog 20 #[.pointer (some ⟨b, 0, none⟩)] (w.setCell ⟨b, 1, none⟩ (.int .i32 1)) fun e w' => e = .returned (.tuple #[]) ∧ Q w') :
    Calls Try.prog 27 #[.pointer (some ⟨b, 0, none⟩), .func (.func 20) #[.pointer (some ⟨b, 0, none⟩)] #[]] w fun e w' => e = .returned (.tuple #[]) ∧
      ∃ w2, Q w2 ∧ w' = (w2.drew.setCell ⟨b, 0, none⟩ (.int .u32 1)).setCell ⟨b, 1, none⟩ (.int .i32 0) := by
  have h0 : w.cell? ⟨b, 0, none⟩ = some (.int .u32 0) := hB.cell 0
  have h1 : w.cell? ⟨b, 1, none⟩ = some (.int .i32 0) := hB.cell 1
  have f0 := hB.free 0
  have f1 := hB.free 1
  have hl := run_call_load (P := Try.prog) Try.func33 (by kernel_rfl) (by kernel_rfl) (by kernel_rfl) .u32 (by kernel_rfl) (w := w.setCell ⟨b, 1, none⟩ (.int .i32 1)) (a := ⟨b, 0, none⟩) (x := 0) ((World.cell?_setCell_other _ ⟨b, 1, none⟩ ⟨b, 0, none⟩ _ (by simp)).trans h0)
  have hnot : ∀ (x : Bool) (w : World), (Op.unary .not (.bool x)).run Try.prog w = .ok (.bool (!x)) w := fun _ _ => rfl
  go_enter_defers Try.func27, Try.ntmps27
  go_wp2_with (first | (go_at_call 34; refine (lock_free ⟨b, 1, none⟩ _ (by go_simp) (by go_simp)).mono ?_; rintro e w' ⟨rfl, rfl⟩) | (go_at_call 26; go_in) | (go_at_call 20; refine hF.mono ?_; rintro e w2 ⟨rfl, hq⟩))
  obtain ⟨d3, d4, hB2⟩ := hQ _ hq
  have hB3 : Blk w2.drew b (RB 0 1 d3 d4) 70 := hB2.drew
  have hB4 := hB3.set 0 (.int .u32 1)
  refine leaves_cons (f := 36) (args := #[.pointer (some ⟨b, 0, none⟩), .bool true]) (by simp) (by simp [go_sem]) ?_
  refine (store_deferred ⟨b, 0, none⟩ (.int .u32 0) .returning _ (hB2.cell 0) (hB2.free 0)).mono ?_
  rintro e u' w'' ⟨rfl, rfl, rfl⟩
  refine leaves_cons (f := 35) (args := #[.pointer (some ⟨b, 1, none⟩)]) (by simp [settle]) (by simp [go_sem]) ?_
  refine (unlock_deferred ⟨b, 1, none⟩ _ _ (hB4.cell 1) (hB4.free 1)).mono ?_
  rintro e u' w'' ⟨rfl, rfl, rfl⟩
  simp [Leaves, settle, results, Try.results27]
  exact ⟨w2, hq, rfl⟩

set_option maxRecDepth 100000 in
set_option maxHeartbeats 1600000 in
/-- '(*sync.Once).Do', not yet done. -/
theorem do_build (b : Nat) (c3 c4 : Value) (Q : World → Prop) (w : World) (hB : Blk w b (RB 0 0 c3 c4) 70)
    (hQ : ∀ w', Q w' → ∃ d3 d4, Blk w' b (RB 0 1 d3 d4) 70)
    (hF : Calls Try.prog 20 #[.pointer (some ⟨b, 0, none⟩)] (w.setCell ⟨b, 1, none⟩ (.int .i32 1)) fun e w' => e = .returned (.tuple #[]) ∧ Q w') :
    Calls Try.prog 19 #[.pointer (some ⟨b, 0, none⟩), .func (.func 20) #[.pointer (some ⟨b, 0, none⟩)] #[]] w fun e w' => e = .returned (.tuple #[]) ∧
      ∃ w2, Q w2 ∧ w' = (w2.drew.setCell ⟨b, 0, none⟩ (.int .u32 1)).setCell ⟨b, 1, none⟩ (.int .i32 0) := by
  have h0 : w.cell? ⟨b, 0, none⟩ = some (.int .u32 0) := hB.cell 0
  have hl := run_call_load (P := Try.prog) Try.func33 (by kernel_rfl) (by kernel_rfl) (by kernel_rfl) .u32 (by kernel_rfl) h0
  have hnot : ∀ (x : Bool) (w : World), (Op.unary .not (.bool x)).run Try.prog w = .ok (.bool (!x)) w := fun _ _ => rfl
  have hQ' := Lib.hid hQ
  clear hQ
  go_enter Try.func19, Try.ntmps19
  go_wp2_with (first | (go_at_call 27; refine (slow_build b c3 c4 Q _ hB hQ'.out hF).mono ?_; rintro e w' ⟨rfl, h⟩; have H := Lib.hid h; clear h) | (go_at_call 26; go_in))
  go_end0
  exact ⟨rfl, H.out⟩
end Go.Proofs.Ytkjgnkmnngaioaa.Q
