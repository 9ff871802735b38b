import Derived.Test.YthdialbnlnjgpaaGreatDoorEngL
import Derived.Laws.BitsLemmas
import Derived.Test.YthdialbnlnjgpaaGreatDoorPure
import Derived.Test.YthdialbnlnjgpaaGreatDoorProg
import Derived.Test.YthdialbnlnjgpaaGreatDoorP1
import Derived.Test.YthdialbnlnjgpaaGreatDoorLib
import Derived.Tactics
import Derived.Tactics2
import Derived.Defers
import Derived.Laws.Pointers
import Derived.Laws.LoneSync
import Derived.RegionTactic
import Derived.RegionCalls
import Derived.ChangeAlike
set_option linter.unusedVariables false
set_option linter.unusedSimpArgs false
namespace Go.Proofs.YthdialbnlnjgpaaGreatDoor
open Go.Eng

theorem once_disable (w : World) : (callFunc 157 #[]).run Tryz.prog w = .ok (.value (.tuple #[])) w := run_call_mark0 Tryz.func157 (by kernel_rfl) (by kernel_rfl) (by kernel_rfl) .disable (by kernel_rfl) w
theorem once_enable (w : World) : (callFunc 159 #[]).run Tryz.prog w = .ok (.value (.tuple #[])) w := run_call_mark0 Tryz.func159 (by kernel_rfl) (by kernel_rfl) (by kernel_rfl) .enable (by kernel_rfl) w
theorem once_acquire (a : Addr) (w : World) : (callFunc 160 #[.pointer (some a)]).run Tryz.prog w = .ok (.value (.tuple #[])) w := run_call_marked Tryz.func160 (by kernel_rfl) (by kernel_rfl) (by kernel_rfl) .acquire (by kernel_rfl) a w
theorem once_release (a : Addr) (w : World) : (callFunc 162 #[.pointer (some a)]).run Tryz.prog w = .ok (.value (.tuple #[])) w := run_call_marked Tryz.func162 (by kernel_rfl) (by kernel_rfl) (by kernel_rfl) .releaseMerge (by kernel_rfl) a w
set_option maxRecDepth 100000 in
theorem store_deferred (a : Addr) (x : Value) (u : FrameMode) (w : World) (hc : w.cell? a = some x) (hz : w.frozen? a = false) :
    CallsD Tryz.prog 119 #[.pointer (some a), .bool true] u w fun e u' w' => u' = u ∧ (e = .returned (.tuple #[]) ∧ w' = w.drew.setCell a (.int .u32 1)) := by
  have hc' : w.drew.cell? a = some x := by go_simp
  have hz' : w.drew.frozen? a = false := by go_simp
  have hst := run_call_store (P := Tryz.prog) Tryz.func141 (by kernel_rfl) (by kernel_rfl) (by kernel_rfl) (by kernel_rfl) (k := .u32) (y := 1) hc' hz'
  go_enter_d Tryz.func119, Tryz.ntmps119
  go_wp2
  go_region_calls
  all_goals (go_end0; exact ⟨rfl, rfl⟩)
set_option maxRecDepth 100000 in
theorem unlock_deferred (a : Addr) (u : FrameMode) (w : World) (hc : w.cell? a = some (.int .i32 1)) (hz : w.frozen? a = false) :
    CallsD Tryz.prog 118 #[.pointer (some a)] u w fun e u' w' => u' = u ∧ (e = .returned (.tuple #[]) ∧ w' = w.setCell a (.int .i32 0)) := by
  have hd := once_disable
  have he := once_enable
  have hr := once_release
  have hadd := run_call_add (P := Tryz.prog) Tryz.func163 (by kernel_rfl) (by kernel_rfl) (by kernel_rfl) .i32 (by kernel_rfl) (y := -1) (s := 0) hc hz (by simp [go_sem]; rfl)
  have hcv := run_convert_to_unsafe (P := Tryz.prog) (src := 194) (dst := 134) Tryz.underlying194 Tryz.underlying134 (by kernel_rfl) hc
  go_enter_d Tryz.func118, Tryz.ntmps118
  go_wp2
  go_end0
  go_wp2
  go_end0
  exact ⟨rfl, rfl⟩
set_option maxRecDepth 100000 in
theorem lock_free (a : Addr) (w : World) (hc : w.cell? a = some (.int .i32 0)) (hz : w.frozen? a = false) :
    Calls Tryz.prog 117 #[.pointer (some a)] w fun e w' => e = .returned (.tuple #[]) ∧ w' = w.setCell a (.int .i32 1) := by
  have hd := once_disable
  have he := once_enable
  have ha := once_acquire
  have hcas := run_call_cas_hit (P := Tryz.prog) Tryz.func158 (by kernel_rfl) (by kernel_rfl) (by kernel_rfl) .i32 (by kernel_rfl) (y := 1) hc hz
  have hc' : (w.setCell a (.int .i32 1)).cell? a = some (.int .i32 1) := World.cell?_setCell_same w a _ hc
  have hcv := run_convert_to_unsafe (P := Tryz.prog) (src := 194) (dst := 134) Tryz.underlying194 Tryz.underlying134 (by kernel_rfl) hc'
  go_enter Tryz.func117, Tryz.ntmps117
  go_wp2
  first | go_end0 | (simp only [Exit.inBlock, Exit.then]; refine bodyPost_ret (results_none rfl _ _ _) rfl ?_) | refine bodyPost_ret (results_none rfl _ _ _) rfl ?_
  go_wp2
  go_end0
  exact ⟨rfl, rfl⟩

set_option maxRecDepth 100000 in
set_option maxHeartbeats 1600000 in
/-- The slow road, not yet done and the lock free: what the function leaves, marked as done. -/
theorem slow_c (g : Nat) (fv : Array Value) (b : Nat) (w : World) (R : World → Prop) (cg : ∀ args w, (callFunc g args).run Tryz.prog w = .ok (.enter g args) w)
    (h0 : w.cell? ⟨b, 0, none⟩ = some (.int .u32 0)) (h1 : w.cell? ⟨b, 1, none⟩ = some (.int .i32 0)) (f1 : w.frozen? ⟨b, 1, none⟩ = false)
    (hclo : Calls Tryz.prog g fv (w.setCell ⟨b, 1, none⟩ (.int .i32 1)) fun e w' => e = .returned (.tuple #[]) ∧ w'.cell? ⟨b, 0, none⟩ = some (.int .u32 0) ∧ w'.frozen? ⟨b, 0, none⟩ = false ∧ w'.cell? ⟨b, 1, none⟩ = some (.int .i32 1) ∧ w'.frozen? ⟨b, 1, none⟩ = false ∧ R w') :
    Calls Tryz.prog 86 #[.pointer (some ⟨b, 0, none⟩), .func (.func g) #[] fv] w fun e w' => e = .returned (.tuple #[]) ∧ ∃ w1, R w1 ∧ w1.cell? ⟨b, 0, none⟩ = some (.int .u32 0) ∧ w1.frozen? ⟨b, 0, none⟩ = false ∧ w1.cell? ⟨b, 1, none⟩ = some (.int .i32 1) ∧ w1.frozen? ⟨b, 1, none⟩ = false ∧ w' = (w1.drew.setCell ⟨b, 0, none⟩ (.int .u32 1)).setCell ⟨b, 1, none⟩ (.int .i32 0) := by
  have hl := run_call_load (P := Tryz.prog) Tryz.func116 (by kernel_rfl) (by kernel_rfl) (by kernel_rfl) .u32 (by kernel_rfl) (w := w.setCell ⟨b, 1, none⟩ (.int .i32 1)) (a := ⟨b, 0, none⟩) (x := 0) ((World.cell?_setCell_other _ ⟨b, 1, none⟩ ⟨b, 0, none⟩ _ (by simp)).trans h0)
  have hnot : ∀ (x : Bool) (w : World), (Op.unary .not (.bool x)).run Tryz.prog w = .ok (.bool (!x)) w := fun _ _ => rfl
  go_enter_defers Tryz.func86, Tryz.ntmps86
  go_wp2_with (first | (go_at_call 117; refine (lock_free ⟨b, 1, none⟩ _ (by go_simp) (by go_simp)).mono ?_; rintro e w' ⟨rfl, rfl⟩) | (go_at_call 85; go_in))
  refine hclo.mono ?_
  rintro e w' ⟨rfl, c0, z0, c1, z1, hR⟩
  rename_i hk
  refine hk _ _ ?_
  go_wp2
  refine leaves_cons (f := 119) (args := #[.pointer (some ⟨b, 0, none⟩), .bool true]) (by simp) (by simp [go_sem]) ?_
  refine (store_deferred ⟨b, 0, none⟩ (.int .u32 0) .returning _ c0 z0).mono ?_
  rintro e u' w'' ⟨rfl, rfl, rfl⟩
  refine leaves_cons (f := 118) (args := #[.pointer (some ⟨b, 1, none⟩)]) (by simp [settle]) (by simp [go_sem]) ?_
  refine (unlock_deferred ⟨b, 1, none⟩ _ _ ?_ (by simp [z1])).mono ?_
  · refine (World.cell?_setCell_other _ ⟨b, 0, none⟩ ⟨b, 1, none⟩ _ (by simp)).trans ?_
    rw [World.cell?_drew]; exact c1
  rintro e u' w'' ⟨rfl, rfl, rfl⟩
  have hfin : (Ending.returned (.tuple #[]) = Ending.returned (.tuple #[])) ∧ ∃ w1, R w1 ∧ w1.cell? ⟨b, 0, none⟩ = some (.int .u32 0) ∧ w1.frozen? ⟨b, 0, none⟩ = false ∧ w1.cell? ⟨b, 1, none⟩ = some (.int .i32 1) ∧ w1.frozen? ⟨b, 1, none⟩ = false ∧ (w'.drew.setCell ⟨b, 0, none⟩ (.int .u32 1)).setCell ⟨b, 1, none⟩ (.int .i32 0) = (w1.drew.setCell ⟨b, 0, none⟩ (.int .u32 1)).setCell ⟨b, 1, none⟩ (.int .i32 0) := ⟨rfl, w', hR, c0, z0, c1, z1, rfl⟩
  simpa [Leaves, settle, results, Tryz.results86] using hfin

set_option maxRecDepth 100000 in
set_option maxHeartbeats 1600000 in
theorem do_first (g : Nat) (fv : Array Value) (b : Nat) (w : World) (R : World → Prop) (cg : ∀ args w, (callFunc g args).run Tryz.prog w = .ok (.enter g args) w)
    (h0 : w.cell? ⟨b, 0, none⟩ = some (.int .u32 0)) (h1 : w.cell? ⟨b, 1, none⟩ = some (.int .i32 0)) (f1 : w.frozen? ⟨b, 1, none⟩ = false)
    (hclo : Calls Tryz.prog g fv (w.setCell ⟨b, 1, none⟩ (.int .i32 1)) fun e w' => e = .returned (.tuple #[]) ∧ w'.cell? ⟨b, 0, none⟩ = some (.int .u32 0) ∧ w'.frozen? ⟨b, 0, none⟩ = false ∧ w'.cell? ⟨b, 1, none⟩ = some (.int .i32 1) ∧ w'.frozen? ⟨b, 1, none⟩ = false ∧ R w') :
    Calls Tryz.prog 59 #[.pointer (some ⟨b, 0, none⟩), .func (.func g) #[] fv] w fun e w' => e = .returned (.tuple #[]) ∧ ∃ w1, R w1 ∧ w1.cell? ⟨b, 0, none⟩ = some (.int .u32 0) ∧ w1.frozen? ⟨b, 0, none⟩ = false ∧ w1.cell? ⟨b, 1, none⟩ = some (.int .i32 1) ∧ w1.frozen? ⟨b, 1, none⟩ = false ∧ w' = (w1.drew.setCell ⟨b, 0, none⟩ (.int .u32 1)).setCell ⟨b, 1, none⟩ (.int .i32 0) := by
  have hl := run_call_load (P := Tryz.prog) Tryz.func116 (by kernel_rfl) (by kernel_rfl) (by kernel_rfl) .u32 (by kernel_rfl) h0
  have hnot : ∀ (x : Bool) (w : World), (Op.unary .not (.bool x)).run Tryz.prog w = .ok (.bool (!x)) w := fun _ _ => rfl
  go_enter Tryz.func59, Tryz.ntmps59
  go_wp2_with (first | (go_at_call 86; refine (slow_c g fv b _ R cg h0 h1 f1 hclo).mono ?_; rintro e w' ⟨rfl, hw⟩) | (go_at_call 85; go_in))
  go_end0
  exact ⟨rfl, hw⟩
set_option maxRecDepth 100000 in
theorem do_done (a : Addr) (d : Int) (hd : ¬ d = 0) (fv : Value) (w : World) (h0 : w.cell? a = some (.int .u32 d)) :
    Calls Tryz.prog 59 #[.pointer (some a), fv] w fun e w' => e = .returned (.tuple #[]) ∧ w' = w := by
  have hl := run_call_load (P := Tryz.prog) Tryz.func116 (by kernel_rfl) (by kernel_rfl) (by kernel_rfl) .u32 (by kernel_rfl) h0
  have hnot : ∀ (x : Bool) (w : World), (Op.unary .not (.bool x)).run Tryz.prog w = .ok (.bool (!x)) w := fun _ _ => rfl
  have hd' : (d != 0) = true := by simp [hd]
  go_enter Tryz.func59, Tryz.ntmps59
  go_wp2
  go_end0
  exact ⟨rfl, rfl⟩

end Go.Proofs.YthdialbnlnjgpaaGreatDoor
