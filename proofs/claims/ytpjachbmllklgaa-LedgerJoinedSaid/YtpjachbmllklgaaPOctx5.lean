-- Written by a program of the session.
import Derived.Test.YtpjachbmllklgaaPOctx0
namespace Go.Proofs.Ytpjachbmllklgaa.POct
open Go.RowKit Go.Proofs.YtpjachbmllklgaaW.PrintWords Go.Proofs.YtpjachbmllklgaaW.PrintLast Go.Proofs.YtpjachbmllklgaaW.PrintMore
attribute [local go_sem] max2_int min2_int max_two min_two max_three min_three max_four min_four   -- for this text's walks alone
set_option linter.unusedVariables false
set_option linter.unusedSimpArgs false

/-! ### r13_far: function 54 -/
def r13_far.f (a0 : Int) : Option (Bool) := some (decide (a0 > 900000000))
set_option maxHeartbeats 8000000 in
set_option maxRecDepth 100000 in
theorem r13_far.calls (a0 : Int) (r : Bool) (w : World) (h : r13_far.f a0 = some r) :
    Calls Try.prog 54 #[.int .i64 a0] w fun e w' => e = .returned (.bool r) ∧ Drawn0 w w' := by
  have H : (some (decide (a0 > 900000000))) = some r := h
  clear h
  obtain rfl := Option.some.inj H
  go_enter Try.func54, Try.ntmps54
  go_wp2
  go_ret
  exact ⟨by first | rfl | (simp; done) | (simp [*]; done), by repeat (first | exact Drawn0.refl _ | apply Drawn0.step)⟩

/-- THE ONE PURE STATEMENT of r13_far: yours. -/
def r13_far.Pure : Prop := ∀ (a0 : Int), (Lit.int .i64 a0).wf = true → r13_far.f a0 = some true
theorem r13_far.walk (P : r13_far.Pure) (a0 : Int) (w : World) (w0 : (Lit.int .i64 a0).wf = true) :
    Calls Try.prog 54 #[.int .i64 a0] w fun e w' => e = .returned (.bool true) ∧ Below w.heap.size w w' := by
  have h := P a0 w0
  refine (r13_far.calls a0 true w h).mono ?_
  rintro e w' ⟨rfl, hd⟩
  exact ⟨rfl, hd.below⟩

end Go.Proofs.Ytpjachbmllklgaa.POct
