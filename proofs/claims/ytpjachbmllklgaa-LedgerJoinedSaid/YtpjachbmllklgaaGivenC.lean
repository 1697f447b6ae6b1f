/- The given contract of slices.Clone[[]int], in the printed form. -/
import Derived.Test.YtpjachbmllklgaaPCoux0
import Derived.WalkSpells
import Derived.WalkMore
import Derived.Deep.LoopGhost
namespace Go.Proofs.Ytpjachbmllklgaa.PCou
open Go.RowKit Go.Proofs.YtpjachbmllklgaaW.PrintWords Go.Proofs.YtpjachbmllklgaaW.PrintLast Go.Proofs.YtpjachbmllklgaaW.PrintMore
open Go.Lib (run_eql_slice_nil)
attribute [local go_sem] max2_int min2_int max_two min_two max_three min_three max_four min_four
set_option linter.unusedVariables false
set_option linter.unusedSimpArgs false

/-! ### slices_Clone_int_int: function 66 -/
def slices_Clone_int_int.f (l0 : List Int) : Option (List Int) := if l0.length < 17592186044416 then some l0 else none

set_option maxHeartbeats 8000000 in
set_option maxRecDepth 100000 in
theorem slices_Clone_int_int.calls (A0 : Option Addr) (c0 : Nat) (l0 : List Int) (r : List Int) (w : World) (hr0 : Kd.C (Kd.int .i64) w A0 l0.length l0) (hc0 : l0.length ≤ c0) (h : slices_Clone_int_int.f l0 = some r) :
    Calls Try.prog 66 #[.slice A0 l0.length c0] w fun e w' => ∃ v0_ : Value, e = .returned (v0_) ∧ Kd.R (Kd.int .i64) 3 w' w.heap.size (fun _ => True) v0_ r ∧ Below w.heap.size w w' := by
  have q22 : ∀ (w : World) (a : Option Addr) (n c n' c' : Nat), (binOp .eql 22 (.slice a n c) (.slice none n' c')).run Try.prog w = .ok (.bool a.isNone) w := fun w a n c n' c' => Lib.run_eql_slice_nil w _ _ a n c n' c' Try.underlying22
  have hu22 := Try.underlying22
  unfold slices_Clone_int_int.f at h
  by_cases hl : l0.length < 17592186044416
  · rw [if_pos hl] at h
    obtain rfl := Option.some.inj h
    clear h
    have LM := Aside0.mk hl
    clear hl
    have HR0 := Aside0.mk hr0
    clear hr0 hc0
    cases A0 with
    | none =>
      have hn : l0 = [] := by
        obtain ⟨h1, _, h3⟩ := HR0.out
        cases l0 with
        | nil => rfl
        | cons x xs =>
          obtain ⟨ad, h4, _⟩ := h3 (by simp)
          cases h4
      subst hn
      go_enter Try.func66, Try.ntmps66
      go_wp2
      go_ret
      exact ⟨_, rfl, Kd.R_nil _ _ _ _ _, Below.refl _ _⟩
    | some ad =>
      go_enter Try.func66, Try.ntmps66
      go_wp2_with (at_builtin; refine Kd.R_append_rows (Kd.int .i64) (w0 := w) w.heap.size rfl (.tmp 5) (.tmp 6) 22 3 (.int .i64 0) 8 rfl Try.underlying22 info3 rfl (by decide) (by omega) (.slice (some ⟨w.heap.size, 0, none⟩) 0 0) ([] : List Int) l0 _ _ _ (fun _ => True) (fun _ => False) rfl rfl ?aO ?aR (fun _ _ h => h) (fun _ h => h.elim) (fun _ _ => trivial) ?aB ?aS ?aL ?_)
      case aO => exact ⟨fun _ _ => trivial, [], World.ownsRow_made w #[] 0 (Nat.le_refl _) (Nat.zero_le _) rfl, by simp [Reps]⟩
      case aR => exact Kd.C_alloc HR0.out _
      case aB => exact below_alloc (Below.refl _ _) _
      case aS => simp
      case aL => have := LM.out; simp; omega
      intro v1 w1 ho hb hg hat
      go_wp2
      go_ret
      exact ⟨_, rfl, ho, hb⟩
  · rw [if_neg hl] at h
    exact absurd h (by simp)

end Go.Proofs.Ytpjachbmllklgaa.PCou
