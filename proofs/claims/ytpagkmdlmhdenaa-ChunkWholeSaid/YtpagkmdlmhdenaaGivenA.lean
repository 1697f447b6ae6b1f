/- The given contracts of chunk.size and slices.Clone[[]int], in the printed form. -/
import Derived.Test.YtpagkmdlmhdenaaPAllx0
import Derived.WalkSpells
import Derived.WalkMore
import Derived.Deep.LoopGhost
namespace Go.Proofs.Ytpagkmdlmhdenaa.PAll
open Go.RowKit Go.Proofs.YtpagkmdlmhdenaaW.PrintWords Go.Proofs.YtpagkmdlmhdenaaW.PrintLast Go.Proofs.YtpagkmdlmhdenaaW.PrintMore
open Go.Lib (run_eql_slice_nil)
attribute [local go_sem] max2_int min2_int max_two min_two max_three min_three max_four min_four
set_option linter.unusedVariables false
set_option linter.unusedSimpArgs false

/-! ### slices_Clone_int_int: function 39 -/
def slices_Clone_int_int.f (l0 : List Int) : Option (List Int) := if l0.length < 17592186044416 then some l0 else none

set_option maxHeartbeats 8000000 in
set_option maxRecDepth 100000 in
theorem slices_Clone_int_int.calls (A0 : Option Addr) (c0 : Nat) (l0 : List Int) (r : List Int) (w : World) (hr0 : Kd.C (Kd.int .i64) w A0 l0.length l0) (hc0 : l0.length ≤ c0) (h : slices_Clone_int_int.f l0 = some r) :
    Calls Try.prog 39 #[.slice A0 l0.length c0] w fun e w' => ∃ v0_ : Value, e = .returned (v0_) ∧ Kd.R (Kd.int .i64) 3 w' w.heap.size (fun _ => True) v0_ r ∧ Below w.heap.size w w' := by
  have q22 : ∀ (w : World) (a : Option Addr) (n c n' c' : Nat), (binOp .eql 22 (.slice a n c) (.slice none n' c')).run Try.prog w = .ok (.bool a.isNone) w := fun w a n c n' c' => Lib.run_eql_slice_nil w _ _ a n c n' c' Try.underlying22
  have hu22 := Try.underlying22
  unfold slices_Clone_int_int.f at h
  by_cases hl : l0.length < 17592186044416
  · rw [if_pos hl] at h
    obtain rfl := Option.some.inj h
    clear h
    have LM := Aside0.mk hl
    clear hl
    have HR0 := Aside0.mk hr0
    clear hr0 hc0
    cases A0 with
    | none =>
      have hn : l0 = [] := by
        obtain ⟨h1, _, h3⟩ := HR0.out
        cases l0 with
        | nil => rfl
        | cons x xs =>
          obtain ⟨ad, h4, _⟩ := h3 (by simp)
          cases h4
      subst hn
      go_enter Try.func39, Try.ntmps39
      go_wp2
      go_ret
      exact ⟨_, rfl, Kd.R_nil _ _ _ _ _, Below.refl _ _⟩
    | some ad =>
      go_enter Try.func39, Try.ntmps39
      go_wp2_with (at_builtin; refine Kd.R_append_rows (Kd.int .i64) (w0 := w) w.heap.size rfl (.tmp 5) (.tmp 6) 22 3 (.int .i64 0) 8 rfl Try.underlying22 info3 rfl (by decide) (by omega) (.slice (some ⟨w.heap.size, 0, none⟩) 0 0) ([] : List Int) l0 _ _ _ (fun _ => True) (fun _ => False) rfl rfl ?aO ?aR (fun _ _ h => h) (fun _ h => h.elim) (fun _ _ => trivial) ?aB ?aS ?aL ?_)
      case aO => exact ⟨fun _ _ => trivial, [], World.ownsRow_made w #[] 0 (Nat.le_refl _) (Nat.zero_le _) rfl, by simp [Reps]⟩
      case aR => exact Kd.C_alloc HR0.out _
      case aB => exact below_alloc (Below.refl _ _) _
      case aS => simp
      case aL => have := LM.out; simp; omega
      intro v1 w1 ho hb hg hat
      go_wp2
      go_ret
      exact ⟨_, rfl, ho, hb⟩
  · rw [if_neg hl] at h
    exact absurd h (by simp)

/-! ### chunk_size: function 27 -/
def isPart (a0 a1 : Int) : Bool := decide (a1 = 0 ∨ (0 < a1 ∧ a1 < a0 ∧ a1 % 96 = 0))
def chunk_size.f (a0 : Int) (a1 : Int) : Option (Int × Bool) := if 0 ≤ a0 ∧ a0 ≤ 4611686018427387904 then some (if isPart a0 a1 then (mn 96 (a0 - a1), true) else (0, false)) else none

theorem mn_lt {x : Int} (h : x < 96) : mn 96 x = x := by unfold mn; rw [if_pos h]
theorem mn_ge {x : Int} (h : ¬ x < 96) : mn 96 x = 96 := by unfold mn; rw [if_neg h]
theorem size_yes {a0 a1 j : Int} (h0 : 0 ≤ a0) (hj : 0 ≤ j) (hj1 : j = 0 ∨ 96 * j < a0) (he : 96 * j = a1) : (if isPart a0 a1 = true then (mn 96 (a0 - a1), true) else (0, false)) = (mn 96 (a0 - a1), true) ∧ a0 - a1 = a0 - 96 * j := by
  refine ⟨?_, by omega⟩
  rw [if_pos]
  unfold isPart
  rw [decide_eq_true_eq]
  omega
theorem size_no {a0 a1 j : Int} (h0 : 0 ≤ a0) (hj : 0 ≤ j) (hj1 : a0 ≤ 96 * j + 96) (he : ¬ 96 * j = a1) (hno : ∀ m : Int, 0 ≤ m → m < j → a1 ≠ 96 * m) : (if isPart a0 a1 = true then (mn 96 (a0 - a1), true) else (0, false)) = ((0 : Int), false) := by
  rw [if_neg]
  unfold isPart
  rw [decide_eq_true_eq]
  rintro (h | ⟨h, h2, h3⟩)
  · by_cases hz : j = 0
    · subst hz; omega
    · exact hno 0 (by omega) (by omega) (by omega)
  · by_cases hz : a1 / 96 < j
    · exact hno (a1 / 96) (by omega) hz (by omega)
    · omega
set_option maxHeartbeats 8000000 in
set_option maxRecDepth 100000 in
theorem chunk_size.calls (a0 : Int) (a1 : Int) (r1 : Int) (r2 : Bool) (w : World) (h : chunk_size.f a0 a1 = some (r1, r2)) :
    Calls Try.prog 27 #[.int .i64 a0, .int .i64 a1] w fun e w' => e = .returned (.tuple #[.int .i64 r1, .bool r2]) ∧ Below w.heap.size w w' := by
  unfold chunk_size.f at h
  by_cases hb : 0 ≤ a0 ∧ a0 ≤ 4611686018427387904
  · rw [if_pos hb] at h
    have H := Aside0.mk (Option.some.inj h)
    clear h
    obtain ⟨h0, h1⟩ := hb
    go_enter Try.func27, Try.ntmps27
    go_wp2
    go_step3
    go_wp2
    go_step3
    go_wp2
    go_loop [4, 5, 6, 7] (fun n ok at_ z => ∃ j : Int, 0 ≤ j ∧ (j = 0 ∨ 96 * j < a0) ∧ at_ = .int .i64 (96 * j) ∧ Aside0 (∀ m : Int, 0 ≤ m → m < j → a1 ≠ 96 * m)) (fun _ _ at_ _ => (a0 - intOf at_).toNat)
    case atStart => exact ⟨0, by omega, .inl rfl, rfl, Aside0.mk (fun m h h2 => by omega)⟩
    case round =>
      obtain ⟨j, hj0, hj1, rfl, hno⟩ := hrel
      have hw : IntKind.i64.wrap (a0 - 96 * j) = a0 - 96 * j := IntWalk.i64_in _ (by omega)
      by_cases hm : a0 - 96 * j < 96
      · by_cases he : 96 * j = a1
        · go_wp2
          go_ret2
          refine ⟨?_, Below.refl _ _⟩
          have z := size_yes h0 (j := j) hj0 hj1 he
          rw [z.1] at H
          rw [mn_lt (by omega)] at H
          have H2 := H.out
          injection H2 with h2 h3
          subst h2 h3
          rfl
        · go_wp2
          go_ret2
          refine ⟨?_, Below.refl _ _⟩
          have z := size_no h0 (j := j) hj0 (by omega) he hno.out
          rw [z] at H
          have H2 := H.out
          injection H2 with h2 h3
          subst h2 h3
          rfl
      · by_cases he : 96 * j = a1
        · go_wp2
          go_ret2
          refine ⟨?_, Below.refl _ _⟩
          have z := size_yes h0 (j := j) hj0 hj1 he
          rw [z.1] at H
          rw [mn_ge (by omega)] at H
          have H2 := H.out
          injection H2 with h2 h3
          subst h2 h3
          rfl
        · go_wp2
          · go_ret2
            refine ⟨?_, Below.refl _ _⟩
            have z := size_no h0 (j := j) hj0 (by omega) he hno.out
            rw [z] at H
            have H2 := H.out
            injection H2 with h2 h3
            subst h2 h3
            rfl
          · go_round
            case rel =>
              refine ⟨j + 1, by omega, by omega, by congr 1; omega, Aside0.mk (fun m h2 h3 => ?_)⟩
              by_cases hmj : m = j
              · subst hmj
                exact fun e => he e.symm
              · exact hno.out m h2 (by omega)
            case measure => simp [intOf]; omega
  · rw [if_neg hb] at h
    exact absurd h (by simp)

end Go.Proofs.Ytpagkmdlmhdenaa.PAll
