/- The plain law of the chunk seat, first part: what the printed functions answer. -/
import Derived.Test.YtpagkmdlmhdenaaPAllx13
import Derived.Test.YtpagkmdlmhdenaaPAllx14
import Derived.Test.YtpagkmdlmhdenaaPAllx15
import Derived.Test.YtpagkmdlmhdenaaPAllx18
import Derived.Test.YtpagkmdlmhdenaaPAllx19
import Derived.Test.YtpagkmdlmhdenaaPAllx26
import Derived.Test.YtpagkmdlmhdenaaPAllx27
import Derived.Test.YtpagkmdlmhdenaaPureA0
namespace Go.Proofs.Ytpagkmdlmhdenaa.Pure
open Go.RowKit Go.Proofs.Ytpagkmdlmhdenaa.PAll Go.Proofs.YtpagkmdlmhdenaaW.PrintWords Go.Proofs.YtpagkmdlmhdenaaW.PrintLast
set_option linter.unusedVariables false
set_option linter.unusedSimpArgs false

/-! ### zero, right -/
def zeroB (a0 a1 a2 a3 : Int) (l4 l5 : List Int) (a6 : Int) (a7 : ByteArray) (a8 : Bool) : Bool :=
  decide (a0 = 0 ∧ a1 = 0 ∧ a2 = 0 ∧ a3 = 0 ∧ a6 = 0 ∧ a7.toList = [] ∧ a8 = false ∧ l4.length = 0 ∧ l5.length = 0)
theorem none_eq (a0 a1 a2 a3 : Int) (l4 l5 : List Int) (a6 : Int) (a7 : ByteArray) (a8 : Bool) (h4 : l4.length ≤ 5000) (h5 : l5.length ≤ 5000) : chunk_none.f a0 a1 a2 a3 l4 l5 a6 a7 a8 = some (zeroB a0 a1 a2 a3 l4 l5 a6 a7 a8) := by
  unfold chunk_none.f zeroB
  rw [wrap_id (by omega) (by omega)]
  by_cases h : (a0 == 0 && (a1 == 0 && (a2 == 0 && (a3 == 0 && (a6 == 0 && (a7.toList.isEmpty && (!a8))))))) = true
  · rw [if_pos h]
    simp only [Bool.and_eq_true, beq_iff_eq, List.isEmpty_iff, Bool.not_eq_true'] at h
    obtain ⟨h0, h1, h2, h3, h6, h7, h8⟩ := h
    congr 1
    rw [Bool.eq_iff_iff, beq_iff_eq, decide_eq_true_eq]
    constructor
    · intro e; exact ⟨h0, h1, h2, h3, h6, h7, h8, by omega, by omega⟩
    · rintro ⟨_, _, _, _, _, _, _, e, e'⟩; omega
  · rw [if_neg h]
    congr 1
    symm
    rw [decide_eq_false_iff_not]
    rintro ⟨h0, h1, h2, h3, h6, h7, h8, _, _⟩
    apply h
    simp [h0, h1, h2, h3, h6, h7, h8]
theorem zero_eq (a0 a1 a2 a3 : Int) (l4 l5 : List Int) (a6 : Int) (a7 : ByteArray) (a8 : Bool) : r16_Zero.f a0 a1 a2 a3 l4 l5 a6 a7 a8 = some (zeroB a0 a1 a2 a3 l4 l5 a6 a7 a8) := by
  unfold r16_Zero.f zeroB
  by_cases h0 : a0 = 0
  · by_cases h1 : a1 = 0
    · by_cases h2 : a2 = 0
      · by_cases h3 : a3 = 0
        · by_cases h6 : a6 = 0
          · by_cases h7 : a7.toList = []
            · cases a8 with
              | true => simp [h0, h1, h2, h3, h6, h7]
              | false =>
                by_cases h4 : (l4.length : Int) = 0
                · have h4' : l4 = [] := by cases l4 with
                    | nil => rfl
                    | cons x xs => simp at h4; omega
                  subst h4'
                  simp [h0, h1, h2, h3, h6, h7]
                  rw [Bool.eq_iff_iff, beq_iff_eq, decide_eq_true_eq]
                  constructor
                  · intro e; cases l5 with
                    | nil => rfl
                    | cons x xs => simp at e; omega
                  · intro e; simp [e]
                · have h4' : ¬ l4.length = 0 := by omega
                  rw [if_pos h0, if_pos h1, if_pos h2, if_pos h3, if_pos h6, if_pos h7, if_neg (by simp), if_neg h4]
                  congr 1; symm; rw [decide_eq_false_iff_not]; rintro ⟨_, _, _, _, _, _, _, e, _⟩; exact h4' e
            · simp [h0, h1, h2, h3, h6, h7]
          · simp [h0, h1, h2, h3, h6]
        · simp [h0, h1, h2, h3]
      · simp [h0, h1, h2]
    · simp [h0, h1]
  · simp [h0]

def okB (a0 a1 a2 a3 : Int) : Bool := decide ((1 ≤ a0 ∧ a0 ≤ 7) ∧ (1 ≤ a1 ∧ a1 ≤ 900000000) ∧ (1 ≤ a2 ∧ a2 ≤ 900000000) ∧ (1 ≤ a3 ∧ a3 ≤ 900000000))
def restB (a6 : Int) (n : Nat) (a8 : Bool) : Bool := decide (0 ≤ a6 ∧ a6 ≤ 65536 ∧ (n : Int) ≤ a6 ∧ (if (n : Int) < a6 then a8 = true ∧ (n : Int) % 96 = 0 else (a8 = false ∨ a6 = 0)))
def rightB (a0 a1 a2 a3 : Int) (l4 l5 : List Int) (a6 : Int) (a7 : ByteArray) (a8 : Bool) : Bool := zeroB a0 a1 a2 a3 l4 l5 a6 a7 a8 || (okB a0 a1 a2 a3 && restB a6 a7.size a8)

theorem within_eq (a b : Int) : chunk_within.f a b = some (decide (1 ≤ a ∧ a ≤ b)) := by
  unfold chunk_within.f
  by_cases h : a ≥ 1
  · rw [if_pos h]; congr 1; rw [Bool.eq_iff_iff, decide_eq_true_eq, decide_eq_true_eq]; omega
  · rw [if_neg h]; congr 1; symm; rw [decide_eq_false_iff_not]; omega
theorem node_eq (a : Int) : r16_node.f a = some (decide (1 ≤ a ∧ a ≤ 7)) := within_eq a 7
theorem number_eq (a : Int) : r16_number.f a = some (decide (1 ≤ a ∧ a ≤ 900000000)) := within_eq a 900000000

section
variable (a0 a1 a2 a3 : Int) (l4 l5 : List Int) (a6 : Int) (a7 : ByteArray) (a8 : Bool)
theorem cj2 (k : Nat) (b : Bool) : chunk_Check.j2 (k + 1) b a0 a1 a2 a3 l4 l5 a6 a7 a8 = if b = true then (if a6 < 0 then some 150 else some 0) else some 150 := rfl
theorem cj0_false (k : Nat) : chunk_Check.j0 (k + 3) false a0 a1 a2 a3 l4 l5 a6 a7 a8 = some 150 := by
  simp only [chunk_Check.j0, chunk_Check.j1, cj2]
  repeat' split
  all_goals first | rfl | contradiction
theorem cj0_true (k : Nat) (h6 : -9223372036854775808 ≤ a6 ∧ a6 ≤ 9223372036854775807) (h7 : (a7.size : Int) ≤ 1000000) : chunk_Check.j0 (k + 3) true a0 a1 a2 a3 l4 l5 a6 a7 a8 = some (if restB a6 a7.size a8 then 0 else 150) := by
  by_cases hneg : a6 < 0
  · have hr : restB a6 a7.size a8 = false := by unfold restB; rw [decide_eq_false_iff_not]; omega
    rw [hr]
    simp only [chunk_Check.j0, chunk_Check.j1, cj2]
    repeat' split
    all_goals first | rfl | contradiction | omega
  · have hw : wrap64 (a6 - (a7.size : Int)) = a6 - (a7.size : Int) := wrap_id (by omega) (by omega)
    simp only [chunk_Check.j0, chunk_Check.j1, cj2, hw]
    by_cases hb : a6 ≤ 65536
    · rw [if_pos trivial, if_pos hb]
      by_cases hl : a6 - (a7.size : Int) > 0
      · rw [if_pos hl, if_pos (by rw [decide_eq_true_eq]; omega)]
        cases a8 with
        | true =>
          rw [if_pos rfl]
          by_cases hm : (a7.size : Int) % 96 = 0
          · rw [if_pos (by simp [hm]), if_neg hneg, if_pos]
            unfold restB; rw [decide_eq_true_eq]
            rw [if_pos (by omega)]
            exact ⟨by omega, by omega, by omega, rfl, hm⟩
          · rw [if_neg (by simp [hm]), if_neg]
            unfold restB; rw [decide_eq_true_eq, if_pos (by omega)]
            rintro ⟨_, _, _, _, h⟩; exact hm h
        | false =>
          rw [if_neg (by decide), if_neg (by decide), if_neg]
          unfold restB; rw [decide_eq_true_eq, if_pos (by omega)]
          rintro ⟨_, _, _, h, _⟩; cases h
      · rw [if_neg hl]
        by_cases hle : (a7.size : Int) ≤ a6
        · have hd : decide (a6 - (a7.size : Int) ≥ 0) = true := by rw [decide_eq_true_eq]; omega
          rw [hd]
          by_cases hp : a6 > 0
          · rw [if_pos hp, if_pos rfl]
            cases a8 with
            | true =>
              rw [if_neg (by decide), if_neg]
              unfold restB; rw [decide_eq_true_eq, if_neg (by omega)]
              rintro ⟨_, _, _, h | h⟩
              · cases h
              · omega
            | false =>
              rw [if_pos (show (!false) = true from rfl), if_neg hneg, if_pos]
              unfold restB; rw [decide_eq_true_eq, if_neg (by omega)]
              exact ⟨by omega, by omega, by omega, .inl rfl⟩
          · rw [if_neg hp, if_pos rfl, if_neg hneg, if_pos]
            unfold restB; rw [decide_eq_true_eq, if_neg (by omega)]
            exact ⟨by omega, by omega, by omega, .inr (by omega)⟩
        · have hd : decide (a6 - (a7.size : Int) ≥ 0) = false := by rw [decide_eq_false_iff_not]; omega
          have hr : restB a6 a7.size a8 = false := by unfold restB; rw [decide_eq_false_iff_not]; rintro ⟨_, _, h, _⟩; exact hle h
          rw [hd, hr]
          repeat' split
          all_goals first | rfl | contradiction
    · have hr : restB a6 a7.size a8 = false := by unfold restB; rw [decide_eq_false_iff_not]; rintro ⟨_, h, _⟩; exact hb h
      rw [hr, if_pos trivial, if_neg hb]
      repeat' split
      all_goals first | rfl | contradiction
theorem check_eq (k : Nat) (hk : 3 ≤ k) (h4 : l4.length ≤ 5000) (h5 : l5.length ≤ 5000) (h6 : -9223372036854775808 ≤ a6 ∧ a6 ≤ 9223372036854775807) (h7 : (a7.size : Int) ≤ 1000000) :
    chunk_Check.f k a0 a1 a2 a3 l4 l5 a6 a7 a8 = some (if rightB a0 a1 a2 a3 l4 l5 a6 a7 a8 then 0 else 150) := by
  obtain ⟨k, rfl⟩ : ∃ m, k = m + 3 := ⟨k - 3, by omega⟩
  unfold chunk_Check.f
  rw [none_eq _ _ _ _ _ _ _ _ _ h4 h5]
  simp only [Option.bind_some, within_eq, cj0_false]
  unfold rightB okB
  by_cases hz : zeroB a0 a1 a2 a3 l4 l5 a6 a7 a8 = true
  · simp [hz]
  · rw [if_neg hz]
    simp only [Bool.not_eq_true] at hz
    rw [hz]
    by_cases c0 : 1 ≤ a0 ∧ a0 ≤ 7
    · by_cases c1 : 1 ≤ a1 ∧ a1 ≤ 900000000
      · by_cases c2 : 1 ≤ a2 ∧ a2 ≤ 900000000
        · by_cases c3 : 1 ≤ a3 ∧ a3 ≤ 900000000
          · rw [if_pos (by simpa using c0), if_pos (by simpa using c1), if_pos (by simpa using c2), decide_eq_true c3, cj0_true _ _ _ _ _ _ _ _ _ _ h6 h7]
            simp [c0, c1, c2, c3]
          · rw [decide_eq_false c3, cj0_false]
            simp [c0, c1, c2, c3]
        · simp [c0, c1, c2]
      · simp [c0, c1]
    · simp [c0]
theorem rj0_true (k : Nat) : r16_Right.j0 (k + 1) true a0 a1 a2 a3 l4 l5 a6 a7 a8 = some false := rfl
theorem right_eq (k : Nat) (hk : 1 ≤ k) : r16_Right.f k a0 a1 a2 a3 l4 l5 a6 a7 a8 = some (rightB a0 a1 a2 a3 l4 l5 a6 a7 a8) := by
  obtain ⟨k, rfl⟩ : ∃ m, k = m + 1 := ⟨k - 1, by omega⟩
  unfold r16_Right.f
  rw [zero_eq]
  simp only [Option.bind_some, node_eq, number_eq, rj0_true]
  unfold rightB okB
  by_cases hz : zeroB a0 a1 a2 a3 l4 l5 a6 a7 a8 = true
  · simp [hz]
  · rw [if_neg hz]
    simp only [Bool.not_eq_true] at hz
    rw [hz]
    by_cases c0 : 1 ≤ a0 ∧ a0 ≤ 7
    · by_cases c1 : 1 ≤ a1 ∧ a1 ≤ 900000000
      · by_cases c2 : 1 ≤ a2 ∧ a2 ≤ 900000000
        · by_cases c3 : 1 ≤ a3 ∧ a3 ≤ 900000000
          · rw [if_pos (by simpa using c0), if_pos (by simpa using c1), if_pos (by simpa using c2), if_pos (by simpa using c3)]
            have hok : decide ((1 ≤ a0 ∧ a0 ≤ 7) ∧ (1 ≤ a1 ∧ a1 ≤ 900000000) ∧ (1 ≤ a2 ∧ a2 ≤ 900000000) ∧ (1 ≤ a3 ∧ a3 ≤ 900000000)) = true := by rw [decide_eq_true_eq]; exact ⟨c0, c1, c2, c3⟩
            rw [hok, Bool.false_or, Bool.true_and]
            unfold restB
            simp only [r16_Right.j0]
            by_cases d0 : a6 < 0
            · rw [if_pos d0]; congr 1; symm; rw [decide_eq_false_iff_not]; omega
            · rw [if_neg d0]
              by_cases d1 : a6 > 65536
              · rw [if_pos d1]; congr 1; symm; rw [decide_eq_false_iff_not]; omega
              · rw [if_neg d1]
                by_cases d2 : (a7.size : Int) > a6
                · rw [if_pos (by simpa using d2)]; congr 1; symm; rw [decide_eq_false_iff_not]; omega
                · rw [if_neg (by simpa using d2)]
                  by_cases d3 : (a7.size : Int) < a6
                  · rw [if_pos d3]
                    simp only [if_pos d3]
                    cases a8 with
                    | true =>
                      rw [if_pos rfl]; congr 1; rw [Bool.eq_iff_iff, beq_iff_eq, decide_eq_true_eq]
                      exact ⟨fun h => ⟨by omega, by omega, by omega, rfl, h⟩, fun h => h.2.2.2.2⟩
                    | false =>
                      rw [if_neg (by decide)]; congr 1; symm; rw [decide_eq_false_iff_not]; rintro ⟨_, _, _, h, _⟩; cases h
                  · rw [if_neg d3]
                    simp only [if_neg d3]
                    cases a8 with
                    | true =>
                      rw [if_pos rfl]; congr 1; rw [Bool.eq_iff_iff, beq_iff_eq, decide_eq_true_eq]
                      exact ⟨fun h => ⟨by omega, by omega, by omega, .inr h⟩, fun h => by rcases h.2.2.2 with h | h; (· cases h); exact h⟩
                    | false =>
                      rw [if_neg (by decide)]; congr 1; symm; rw [decide_eq_true_eq]; exact ⟨by omega, by omega, by omega, .inl rfl⟩
          · simp [c0, c1, c2, c3]
        · simp [c0, c1, c2]
      · simp [c0, c1]
    · simp [c0]
end
end Go.Proofs.Ytpagkmdlmhdenaa.Pure
