/- The plain law of ClockAlike. -/
import Derived.Test.YtnhceomdjlocaaaPAllx37
namespace Go.Proofs.Ytnhceomdjlocaaa.Pure
open Go.RowKit Go.Proofs.Ytnhceomdjlocaaa.PAll Go.Proofs.Ytnhceomdjlocaaa.Clock Go.Proofs.YtnhceomdjlocaaaW.PrintWords Go.Proofs.YtnhceomdjlocaaaW.PrintLast
set_option linter.unusedVariables false
set_option linter.unusedSimpArgs false
theorem alike_rows : L_alike.f = some true := by decide +kernel
theorem clock_alike_f (l0 l1 : List Int) (h0 : l0.length ≤ 1000000) (h1 : l1.length ≤ 100000) : clock_Alike.f l0 l1 = some (alikeR l0 l1) := by unfold clock_Alike.f; rw [if_pos ⟨h0, h1⟩]
theorem clockAlike (l0 l1 : List Int) : ∃ k, L_ClockAlike.f k l0 l1 = some true := by
  have hj : ∀ k, L_ClockAlike.j0 (k + 1) l0 l1 true = some true := fun k => by rw [L_ClockAlike.j0, if_pos rfl]
  by_cases g0 : (l0.length : Int) > 300
  · exact ⟨1, by rw [L_ClockAlike.f, if_pos g0]; exact hj 0⟩
  by_cases g1 : (l1.length : Int) > 300
  · exact ⟨1, by rw [L_ClockAlike.f, if_neg g0, decide_eq_true g1]; exact hj 0⟩
  have hE : Ev (fun k => L_ClockAlike.f k l0 l1) true := by
    refine Ev.step (f := fun k => (some (alikeR l0 l1)).bind fun t145 => ((r18_Alike.f k l0 l1).bind fun t146 => (some (t145 == t146)))) (fun k => ?_) ?_
    · rw [L_ClockAlike.f, if_neg g0, decide_eq_false g1, L_ClockAlike.j0, if_neg (by simp), alike_rows, Option.bind_some, if_pos rfl, clock_alike_f l0 l1 (by omega) (by omega)]
    · refine Ev.bind (f := fun k t145 => (r18_Alike.f k l0 l1).bind fun t146 => (some (t145 == t146))) (Ev.now _) (Ev.bind (alike_ref l0 l1 (by omega) (by omega)) ?_)
      simpa using Ev.now true
  exact hE.rounds
end Go.Proofs.Ytnhceomdjlocaaa.Pure
