/- sync/atomic.Int64's methods, each by a contract: what the cell holds is added to, stored, loaded. -/
import Derived.Test.YtnhceomdjlocaaaPAllx0
import Derived.WalkSpells
import Derived.WalkMore
import Derived.Outline
import Derived.BigRegion
import Derived.Laws.LoneSync
import Derived.RegionCalls
namespace Go.Proofs.Ytnhceomdjlocaaa.Clock
open Go.RowKit Go.Proofs.YtnhceomdjlocaaaW.PrintWords Go.Proofs.YtnhceomdjlocaaaW.PrintLast Go.Proofs.YtnhceomdjlocaaaW.PrintMore
set_option linter.unusedVariables false
set_option linter.unusedSimpArgs false

theorem load64 (b j : Nat) (v : Int) (w : World) (hc : w.cell? ⟨b, j, none⟩ = some (.int .i64 v)) :
    Calls Try.prog 31 #[.pointer (some ⟨b, j, none⟩)] w fun e w' => e = .returned (.int .i64 v) ∧ w' = w := by
  have h1 := run_call_load (P := Try.prog) Try.func37 (by kernel_rfl) (by kernel_rfl) (by kernel_rfl) .i64 (by kernel_rfl) hc
  go_enter Try.func31, Try.ntmps31
  go_wp2
  go_ret
  exact ⟨rfl, rfl⟩
theorem add64 (b j : Nat) (v : Int) (w : World) (hc : w.cell? ⟨b, j, none⟩ = some (.int .i64 v)) (hz : w.frozen? ⟨b, j, none⟩ = false) (h0 : 0 ≤ v) (h1 : v ≤ 1000000) :
    Calls Try.prog 23 #[.pointer (some ⟨b, j, none⟩), .int .i64 1] w fun e w' => e = .returned (.int .i64 (v + 1)) ∧ w' = w.setCell ⟨b, j, none⟩ (.int .i64 (v + 1)) := by
  have h2 := run_call_add (P := Try.prog) Try.func32 (by kernel_rfl) (by kernel_rfl) (by kernel_rfl) .i64 (by kernel_rfl) (y := 1) (s := v + 1) hc hz (by simp [go_sem]; exact IntWalk.i64_in _ (by omega))
  go_enter Try.func23, Try.ntmps23
  go_wp2
  go_ret
  exact ⟨rfl, rfl⟩
theorem store64 (b j : Nat) (v : Int) (w : World) (hc : w.cell? ⟨b, j, none⟩ = some (.int .i64 v)) (hz : w.frozen? ⟨b, j, none⟩ = false) :
    Calls Try.prog 24 #[.pointer (some ⟨b, j, none⟩), .int .i64 0] w fun e w' => e = .returned (.tuple #[]) ∧ w' = w.setCell ⟨b, j, none⟩ (.int .i64 0) := by
  have h2 := run_call_store (P := Try.prog) Try.func33 (by kernel_rfl) (by kernel_rfl) (by kernel_rfl) (by kernel_rfl) (k := .i64) (y := 0) hc hz
  go_enter Try.func24, Try.ntmps24
  go_wp2
  all_goals trace_state
  all_goals (go_end0; exact ⟨rfl, rfl⟩)
end Go.Proofs.Ytnhceomdjlocaaa.Clock
