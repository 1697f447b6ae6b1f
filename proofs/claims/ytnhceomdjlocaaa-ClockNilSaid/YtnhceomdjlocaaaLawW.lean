/- ClockWatches and ClockNil answer true. -/
import Derived.Test.YtnhceomdjlocaaaCW
import Derived.Test.YtnhceomdjlocaaaKinds
namespace Go.Proofs.Ytnhceomdjlocaaa.PAll
open Go.RowKit Go.Proofs.Ytnhceomdjlocaaa.Clock Go.Proofs.YtnhceomdjlocaaaW.PrintWords Go.Proofs.YtnhceomdjlocaaaW.PrintLast Go.Proofs.YtnhceomdjlocaaaW.PrintMore
set_option linter.unusedVariables false
theorem bounds64 (n : Int) (h : (Lit.int .i64 n).wf = true) : -9223372036854775808 ≤ n ∧ n ≤ 9223372036854775807 := by
  simp [Lit.wf, IntKind.min, IntKind.max, IntKind.signed, IntKind.bits] at h
  omega
theorem L_ClockWatches.calls (A0 : Option Addr) (c0 : Nat) (l0 : List Int) (A1 : Option Addr) (c1 : Nat) (l1 : List Int) (r : Bool) (w : World) (hr0 : Kd.C (Kd.int .i64) w A0 l0.length l0) (hc0 : l0.length ≤ c0) (hr1 : Kd.C (Kd.int .i64) w A1 l1.length l1) (hc1 : l1.length ≤ c1)
    (h : r = true ∧ ∀ x ∈ l1, (Lit.int .i64 x).wf = true) : Calls Try.prog 5 #[.slice A0 l0.length c0, .slice A1 l1.length c1] w fun e w' => e = .returned (.bool r) ∧ Below w.heap.size w w' := by
  obtain ⟨rfl, hwf⟩ := h
  by_cases g : l0.length > 300 ∨ l1.length > 300 ∨ nodesB l0 = false
  · exact watches_short A0 c0 l0 A1 c1 l1 w hr0 hc0 g
  · refine watches_long A0 c0 l0 A1 c1 l1 w hr0 hc0 hr1 hc1 (by omega) (by omega) ?_ (fun j hj => ?_)
    · cases h : nodesB l0 with
      | true => rfl
      | false => exact absurd (.inr (.inr h)) g
    · rw [getElem!_pos l1 j hj]
      exact bounds64 _ (hwf _ (List.getElem_mem hj))
theorem L_ClockNil.calls (a0 : Int) (r : Bool) (w : World) (h : r = true) : Calls Try.prog 6 #[.int .i64 a0] w fun e w' => e = .returned (.bool r) ∧ Below w.heap.size w w' := by
  subst h
  exact nil_c a0 w
end Go.Proofs.Ytnhceomdjlocaaa.PAll
namespace Go.Proofs.Ytnhceomdjlocaaa.Pure
theorem clockWatches (l0 l1 : List Int) (h : ∀ x ∈ l1, (Lit.int .i64 x).wf = true) : true = true ∧ ∀ x ∈ l1, (Lit.int .i64 x).wf = true := ⟨rfl, h⟩
theorem clockNil (a0 : Int) : true = true := rfl
end Go.Proofs.Ytnhceomdjlocaaa.Pure
