/- The kinds of the clock seat's arguments. -/
import Derived.Test.YtnhceomdjlocaaaOpen
import Derived.Test.YtnhceomdjlocaaaProg
namespace Go.Proofs.Ytnhceomdjlocaaa.Kinds
open Go.RowKit Go.Proofs.YtnhceomdjlocaaaW.PrintWords Go.Proofs.Ytnhceomdjlocaaa.Open
set_option linter.unusedVariables false
abbrev WI : Int → Prop := fun n => (Lit.int .i64 n).wf = true
abbrev WFints : List Int → Prop := fun xs => xs.length ≤ 9223372036854775807 ∧ ∀ x ∈ xs, WI x
theorem oInt : Opens Try.prog 3 (Kd.int .i64) WI := opens_int Try.underlying3 (by kernel_rfl)
abbrev kInts : Kd (List Int) := Kd.slice 3 (Kd.int .i64)
theorem oInts : Opens Try.prog 22 kInts WFints := opens_slice Try.underlying22 (by kernel_rfl) oInt
end Go.Proofs.Ytnhceomdjlocaaa.Kinds
