/- What the document's L answers: asks. -/
import Derived.Test.YtpjachbmllklgaaOne
namespace Go.Proofs.Ytpjachbmllklgaa.Rng
open Go.RowKit Go.Proofs.YtpjachbmllklgaaW.PrintWords
set_option linter.unusedVariables false
set_option linter.unusedSimpArgs false
attribute [local go_sem] Oper.semAt_some

theorem one_check (b : Nat) : checkB (oneSv b).si (its oneE) = true := by
  show checkB 2 (its oneE) = true
  decide
theorem one_sound (b : Nat) : (oneSv b).sound oneE = oneSv b ∧ soundE (oneSv b) oneE = oneE := by
  unfold Sv.sound soundE
  rw [one_check]
  exact ⟨rfl, rfl⟩
theorem one_last_c (b : Nat) (w : World) (h : Lg w (oneSv b) b 0 oneE) : Calls Try.prog 11 #[.agg (oneSv b).cells] w fun e w' => e = .returned (.tuple #[.int .i64 5, .int .i64 2]) ∧ Below w.heap.size w w' := by
  have := last_c (oneSv b) b 0 oneE w h
  rw [(one_sound b).1, (one_sound b).2] at this
  exact this
theorem one_term_c (b : Nat) (w : World) (h : Lg w (oneSv b) b 0 oneE) (i : Int) (hi : -9223372036854775808 ≤ i ∧ i ≤ 9223372036854775807) (t : Int) (ok : Bool) (hv : termV 2 1 (its oneE) i = (t, ok)) :
    Calls Try.prog 13 #[.agg (oneSv b).cells, .int .i64 i] w fun e w' => e = .returned (.tuple #[.int .i64 t, .bool ok]) ∧ Below w.heap.size w w' := by
  have := term_c (oneSv b) b 0 oneE w h i hi
  rw [(one_sound b).1, (one_sound b).2] at this
  have e : termV (oneSv b).si (oneSv b).st (its oneE) i = (t, ok) := hv
  rw [e] at this
  exact this
theorem one_check_c (b : Nat) (w : World) (h : Lg w (oneSv b) b 0 oneE) : Calls Try.prog 10 #[.agg (oneSv b).cells] w fun e w' => e = .returned (.int .i64 0) ∧ Below w.heap.size w w' := by
  have := check_c (oneSv b) b 0 oneE w h
  rw [one_check b] at this
  exact this

set_option maxHeartbeats 2000000 in
set_option maxRecDepth 100000 in
theorem asks_c (w : World) : Calls Try.prog 15 #[] w fun e w' => e = .returned (.bool true) ∧ Below w.heap.size w w' := by
  have e42 : ∀ args w, (callFunc 42 args).run Try.prog w = .ok (.enter 42 args) w := enters_of Try.func42 (by kernel_rfl) rfl
  have e11 : ∀ args w, (callFunc 11 args).run Try.prog w = .ok (.enter 11 args) w := enters_of Try.func11 (by kernel_rfl) rfl
  have e13 : ∀ args w, (callFunc 13 args).run Try.prog w = .ok (.enter 13 args) w := enters_of Try.func13 (by kernel_rfl) rfl
  have e10 : ∀ args w, (callFunc 10 args).run Try.prog w = .ok (.enter 10 args) w := enters_of Try.func10 (by kernel_rfl) rfl
  go_enter Try.func15, Try.ntmps15
  go_wp2_with fail
  refine (one_c w).mono ?_
  rintro e w1 ⟨b1, rfl, hb1, hL1⟩
  have q1 : Below w.heap.size w w1 := hb1
  clear hb1
  go_wp2_with fail
  refine (one_last_c b1 w1 hL1).mono ?_
  rintro e w2 ⟨rfl, hb2⟩
  have q2 : Below w.heap.size w w2 := q1.trans (hb2.mono q1.size)
  clear hb2 q1 hL1
  go_wp2_with fail
  refine (one_c w2).mono ?_
  rintro e w3 ⟨b3, rfl, hb3, hL3⟩
  have q3 : Below w.heap.size w w3 := q2.trans (hb3.mono q2.size)
  clear hb3 q2
  go_wp2_with fail
  refine (one_term_c b3 w3 hL3 2 (by decide) 1 true (by decide)).mono ?_
  rintro e w4 ⟨rfl, hb4⟩
  have q4 : Below w.heap.size w w4 := q3.trans (hb4.mono q3.size)
  clear hb4 q3 hL3
  go_wp2_with fail
  refine (one_c w4).mono ?_
  rintro e w5 ⟨b5, rfl, hb5, hL5⟩
  have q5 : Below w.heap.size w w5 := q4.trans (hb5.mono q4.size)
  clear hb5 q4
  go_wp2_with fail
  refine (one_term_c b5 w5 hL5 1 (by decide) 0 false (by decide)).mono ?_
  rintro e w6 ⟨rfl, hb6⟩
  have q6 : Below w.heap.size w w6 := q5.trans (hb6.mono q5.size)
  clear hb6 q5 hL5
  go_wp2_with fail
  refine (one_c w6).mono ?_
  rintro e w7 ⟨b7, rfl, hb7, hL7⟩
  have q7 : Below w.heap.size w w7 := q6.trans (hb7.mono q6.size)
  clear hb7 q6
  go_wp2_with fail
  refine (one_check_c b7 w7 hL7).mono ?_
  rintro e w8 ⟨rfl, hb8⟩
  have q8 : Below w.heap.size w w8 := q7.trans (hb8.mono q7.size)
  clear hb8 q7 hL7
  go_wp2
  go_ret
  exact ⟨rfl, q8⟩
end Go.Proofs.Ytpjachbmllklgaa.Rng
