/- The plain law of the chunk seat, second part: Begin, Take, Whole, what is the same; the document's examples. -/
import Derived.Test.YtpagkmdlmhdenaaPAllx10
import Derived.Test.YtpagkmdlmhdenaaPAllx11
import Derived.Test.YtpagkmdlmhdenaaPAllx12
import Derived.Test.YtpagkmdlmhdenaaPAllx16
import Derived.Test.YtpagkmdlmhdenaaPAllx17
import Derived.Test.YtpagkmdlmhdenaaPAllx20
import Derived.Test.YtpagkmdlmhdenaaPAllx21
import Derived.Test.YtpagkmdlmhdenaaPAllx22
import Derived.Test.YtpagkmdlmhdenaaPAllx23
import Derived.Test.YtpagkmdlmhdenaaPAllx24
import Derived.Test.YtpagkmdlmhdenaaPAllx25
import Derived.Test.YtpagkmdlmhdenaaPAllx29
import Derived.Test.YtpagkmdlmhdenaaPAllx30
import Derived.Test.YtpagkmdlmhdenaaPAllx31
import Derived.Test.YtpagkmdlmhdenaaPAllx32
import Derived.Test.YtpagkmdlmhdenaaPAllx33
import Derived.Test.YtpagkmdlmhdenaaPureA
namespace Go.Proofs.Ytpagkmdlmhdenaa.Pure
open Go.RowKit Go.Proofs.Ytpagkmdlmhdenaa.PAll Go.Proofs.YtpagkmdlmhdenaaW.PrintWords Go.Proofs.YtpagkmdlmhdenaaW.PrintLast
set_option linter.unusedVariables false
set_option linter.unusedSimpArgs false

/-! ### memory of its own -/
theorem clone_eq (l : List Int) (h : l.length ≤ 5000) : slices_Clone_int_int.f l = some l := by
  unfold slices_Clone_int_int.f; rw [if_pos (by omega)]
theorem own_eq (l m : List Int) (h : l.length ≤ 5000) (h2 : m.length ≤ 5000) : chunk_own.f l m = some (l, m) := by
  unfold chunk_own.f; rw [clone_eq l h, clone_eq m h2]; rfl
theorem numbers_eq (l : List Int) (h : l.length ≤ 5000) : r08_numbers.f l = some l := by
  unfold r08_numbers.f; rw [if_pos (by simp only [List.length_nil]; omega)]; rfl
theorem ownc_eq (l m : List Int) (h : l.length ≤ 5000) (h2 : m.length ≤ 5000) : r08_OwnCouncil.f l m = some (l, m) := by
  unfold r08_OwnCouncil.f; rw [numbers_eq l h, numbers_eq m h2]; rfl
theorem owns_eq (a b : Int) (l m : List Int) (s : ByteArray) (h : l.length ≤ 5000) (h2 : m.length ≤ 5000) : r08_OwnSnap.f a b l m s = some (a, b, l, m, s) := by
  unfold r08_OwnSnap.f; rw [ownc_eq l m h h2]; rfl
theorem ownp_eq (a0 a1 a2 a3 : Int) (l4 l5 : List Int) (a6 : Int) (a7 : ByteArray) (a8 : Bool) (h : l4.length ≤ 5000) (h2 : l5.length ≤ 5000) : r16_Own.f a0 a1 a2 a3 l4 l5 a6 a7 a8 = some (a0, a1, a2, a3, l4, l5, a6, a7, a8) := by
  unfold r16_Own.f; rw [ownc_eq l4 l5 h h2]; rfl

/-! ### the same -/
theorem ints_l0 (l : List Int) (hl : l.length ≤ 5000) : ∀ (d k : Nat) (i : Int), 0 ≤ i → (l.length : Int) - i = d → d < k → r08_ints.l0 k l l i = some true := by
  intro d
  induction d with
  | zero =>
    intro k i h0 hd hk
    obtain ⟨k, rfl⟩ : ∃ m, k = m + 1 := ⟨k - 1, by omega⟩
    simp only [r08_ints.l0]; rw [if_neg (by omega)]
  | succ d ih =>
    intro k i h0 hd hk
    obtain ⟨k, rfl⟩ : ∃ m, k = m + 1 := ⟨k - 1, by omega⟩
    simp only [r08_ints.l0]
    rw [if_pos (by omega), if_pos h0, if_pos (by omega), if_pos trivial]
    rw [wrap_id (by omega) (by omega)]
    exact ih k (i + 1) (by omega) (by omega) (by omega)
theorem ints_refl (l : List Int) (k : Nat) (hl : l.length ≤ 5000) (hk : 5001 ≤ k) : r08_ints.f k l l = some true := by
  unfold r08_ints.f
  rw [if_pos rfl]
  exact ints_l0 l hl l.length k 0 (by omega) (by omega) (by omega)
theorem samec_refl (l m : List Int) (k : Nat) (hl : l.length ≤ 5000) (hm : m.length ≤ 5000) (hk : 5001 ≤ k) : r08_SameCouncil.f k l m l m = some true := by
  unfold r08_SameCouncil.f
  rw [ints_refl l k hl hk]; simp only [Option.bind_some, if_true]; rw [ints_refl m k hm hk]; rfl
theorem samesnap_refl (a b : Int) (l m : List Int) (s s' : ByteArray) (k : Nat) (hs : s = s') (hl : l.length ≤ 5000) (hm : m.length ≤ 5000) (hk : 5001 ≤ k) : r08_SameSnap.f k a b l m s a b l m s' = some true := by
  subst hs
  unfold r08_SameSnap.f
  rw [if_pos rfl, if_pos rfl, if_pos rfl, samec_refl l m k hl hm hk]; rfl
theorem same_refl (a0 a1 a2 a3 : Int) (l4 l5 : List Int) (a6 : Int) (a7 : ByteArray) (a8 : Bool) (k : Nat) (hl : l4.length ≤ 5000) (hm : l5.length ≤ 5000) (hk : 5001 ≤ k) : r16_Same.f k a0 a1 a2 a3 l4 l5 a6 a7 a8 a0 a1 a2 a3 l4 l5 a6 a7 a8 = some true := by
  unfold r16_Same.f
  rw [if_pos rfl, if_pos rfl, if_pos rfl, if_pos rfl, if_pos rfl, if_pos rfl, if_pos (by simp), samec_refl l4 l5 k hl hm hk]; rfl

/-! ### Begin -/
def beginB (a0 a1 i t : Int) (data : ByteArray) : Bool := okB a0 a1 i t && decide ((data.size : Int) ≤ 65536)
def beginV (a0 a1 i t : Int) (l2 l3 : List Int) (data : ByteArray) : Int × Int × Int × Int × List Int × List Int × Int × ByteArray × Bool × Int :=
  if beginB a0 a1 i t data then (a0, a1, i, t, l2, l3, (data.size : Int), ⟨#[]⟩, true, 0) else (0, 0, 0, 0, [], [], 0, ⟨#[]⟩, false, 150)
theorem zero_more (a0 a1 a2 a3 : Int) (l4 l5 : List Int) (a6 : Int) (a7 : ByteArray) : zeroB a0 a1 a2 a3 l4 l5 a6 a7 true = false := by
  unfold zeroB; rw [decide_eq_false_iff_not]; rintro ⟨_, _, _, _, _, _, h, _⟩; cases h
theorem right_begun (a0 a1 i t : Int) (l2 l3 : List Int) (data : ByteArray) : rightB a0 a1 i t l2 l3 (data.size : Int) ⟨#[]⟩ true = beginB a0 a1 i t data := by
  unfold rightB beginB
  rw [zero_more, Bool.false_or]
  congr 1
  unfold restB
  rw [show (⟨#[]⟩ : ByteArray).size = 0 from rfl]
  by_cases h : (data.size : Int) ≤ 65536
  · rw [decide_eq_true h, decide_eq_true_eq]
    refine ⟨by omega, h, by omega, ?_⟩
    by_cases h2 : ((0 : Nat) : Int) < (data.size : Int)
    · rw [if_pos h2]; exact ⟨rfl, by omega⟩
    · rw [if_neg h2]; exact .inr (by omega)
  · rw [decide_eq_false h, decide_eq_false_iff_not]; rintro ⟨_, h2, _⟩; exact h h2
theorem begin_eq (a0 a1 i t : Int) (l2 l3 : List Int) (data : ByteArray) (k : Nat) (hk : 3 ≤ k) (h2 : l2.length ≤ 5000) (h3 : l3.length ≤ 5000) (hd : (data.size : Int) ≤ 262144) : chunk_Begin.f k a0 a1 i t l2 l3 data = some (beginV a0 a1 i t l2 l3 data) := by
  unfold chunk_Begin.f beginV
  rw [own_eq l2 l3 h2 h3]
  simp only [Option.bind_some]
  rw [check_eq a0 a1 i t l2 l3 (data.size : Int) ⟨#[]⟩ true k hk h2 h3 (by omega) (by rw [show (⟨#[]⟩ : ByteArray).size = 0 from rfl]; omega), right_begun]
  simp only [Option.bind_some]
  obtain ⟨k, rfl⟩ : ∃ m, k = m + 1 := ⟨k - 1, by omega⟩
  simp only [chunk_Begin.j0]
  by_cases h : beginB a0 a1 i t data = true
  · rw [if_pos h, if_pos h, if_neg (by decide)]
  · rw [if_neg h, if_neg h, if_pos (by decide)]
theorem rb0 (k : Nat) (a0 a1 i t : Int) (l2 l3 : List Int) (data : ByteArray) : r16_Begin.j0 (k + 1) a0 a1 true i t l2 l3 data = some (0, 0, 0, 0, [], [], 0, ⟨#[]⟩, false, 150) := rfl
theorem refbegin_eq (a0 a1 i t : Int) (l2 l3 : List Int) (data : ByteArray) (k : Nat) (hk : 3 ≤ k) (h2 : l2.length ≤ 5000) (h3 : l3.length ≤ 5000) : r16_Begin.f k a0 a1 i t l2 l3 data = some (beginV a0 a1 i t l2 l3 data) := by
  obtain ⟨k, rfl⟩ : ∃ m, k = m + 1 := ⟨k - 1, by omega⟩
  unfold r16_Begin.f beginV beginB okB
  simp only [Option.bind_some, node_eq, number_eq, rb0]
  by_cases c0 : 1 ≤ a0 ∧ a0 ≤ 7
  · by_cases c1 : 1 ≤ a1 ∧ a1 ≤ 900000000
    · by_cases c2 : 1 ≤ i ∧ i ≤ 900000000
      · by_cases c3 : 1 ≤ t ∧ t ≤ 900000000
        · rw [if_pos (by simpa using c0), if_pos (by simpa using c1), if_pos (by simpa using c2), if_pos (by simpa using c3)]
          have hok : decide ((1 ≤ a0 ∧ a0 ≤ 7) ∧ (1 ≤ a1 ∧ a1 ≤ 900000000) ∧ (1 ≤ i ∧ i ≤ 900000000) ∧ (1 ≤ t ∧ t ≤ 900000000)) = true := by rw [decide_eq_true_eq]; exact ⟨c0, c1, c2, c3⟩
          rw [hok, Bool.true_and]
          by_cases hd : (data.size : Int) ≤ 65536
          · rw [decide_eq_false (show ¬ (data.size : Int) > 65536 by omega), decide_eq_true hd, if_pos rfl]
            simp only [r16_Begin.j0]
            rw [if_neg (by decide), ownc_eq l2 l3 h2 h3]; rfl
          · rw [decide_eq_true (show (data.size : Int) > 65536 by omega), decide_eq_false hd, if_neg (by decide), rb0]
        · simp [c0, c1, c2, c3]
      · simp [c0, c1, c2]
    · simp [c0, c1]
  · simp [c0]

/-! ### Take -/
section
variable (a0 a1 a2 a3 : Int) (l4 l5 : List Int) (a6 : Int) (a7 : ByteArray) (a8 : Bool)
def liveB : Bool := rightB a0 a1 a2 a3 l4 l5 a6 a7 a8 && !zeroB a0 a1 a2 a3 l4 l5 a6 a7 a8
def fitsB (off : Int) (data : ByteArray) : Bool := a8 && decide (off = (a7.size : Int)) && decide ((data.size : Int) = (partV a6 (a7.size : Int)).1)
def takeV (off : Int) (data : ByteArray) : Int × Int × Int × Int × List Int × List Int × Int × ByteArray × Bool × Bool × Int :=
  if liveB a0 a1 a2 a3 l4 l5 a6 a7 a8 then
    (if fitsB a6 a7 a8 off data then (a0, a1, a2, a3, l4, l5, a6, a7 ++ data, decide ((a7.size : Int) + (data.size : Int) < a6), true, 0) else (a0, a1, a2, a3, l4, l5, a6, a7, a8, false, 0))
  else (0, 0, 0, 0, [], [], 0, ⟨#[]⟩, false, false, 150)
theorem live_rest (h : liveB a0 a1 a2 a3 l4 l5 a6 a7 a8 = true) : okB a0 a1 a2 a3 = true ∧ restB a6 a7.size a8 = true := by
  unfold liveB rightB at h
  cases hz : zeroB a0 a1 a2 a3 l4 l5 a6 a7 a8 <;> simp [hz] at h
  exact h
theorem live_bounds (h : liveB a0 a1 a2 a3 l4 l5 a6 a7 a8 = true) : 0 ≤ a6 ∧ a6 ≤ 65536 ∧ (a7.size : Int) ≤ a6 := by
  have := (live_rest a0 a1 a2 a3 l4 l5 a6 a7 a8 h).2
  unfold restB at this
  rw [decide_eq_true_eq] at this
  exact ⟨this.1, this.2.1, this.2.2.1⟩
theorem tj1 (k : Nat) (data : ByteArray) (b : Bool) : chunk_Take.j1 (k + 1) data b a0 a1 a2 a3 l4 l5 a6 a7 a8 = if b = true then some (a0, a1, a2, a3, l4, l5, a6, a7, a8, false, 0) else if a7.size + data.size ≤ 9223372036854775807 then some (a0, a1, a2, a3, l4, l5, a6, a7 ++ data, decide ((a7.size : Int) + (data.size : Int) < a6), true, 0) else none := rfl
theorem tj0t (k : Nat) (off : Int) (data : ByteArray) : chunk_Take.j0 (k + 1) off data true a0 a1 a2 a3 l4 l5 a6 a7 a8 = some (0, 0, 0, 0, [], [], 0, ⟨#[]⟩, false, false, 150) := rfl
theorem tj0f (k : Nat) (off : Int) (data : ByteArray) (h4 : l4.length ≤ 5000) (h5 : l5.length ≤ 5000) (h6 : 0 ≤ a6 ∧ a6 ≤ 65536) (h7 : (a7.size : Int) ≤ 1000000) (hd : (data.size : Int) ≤ 1000000) :
    chunk_Take.j0 (k + 2) off data false a0 a1 a2 a3 l4 l5 a6 a7 a8 = some (if fitsB a6 a7 a8 off data then (a0, a1, a2, a3, l4, l5, a6, a7 ++ data, decide ((a7.size : Int) + (data.size : Int) < a6), true, 0) else (a0, a1, a2, a3, l4, l5, a6, a7, a8, false, 0)) := by
  unfold fitsB
  simp only [chunk_Take.j0]
  rw [if_neg (by decide), own_eq l4 l5 h4 h5, Option.bind_some, size_eq (by omega) (by omega)]
  simp only [Option.bind_some, tj1]
  cases a8 with
  | false => rw [if_neg (by decide), if_pos trivial]; rfl
  | true =>
    rw [if_pos rfl]
    by_cases ho : off = (a7.size : Int)
    · rw [if_pos ho, decide_eq_true ho]
      by_cases hs : (data.size : Int) = (partV a6 (a7.size : Int)).1
      · rw [decide_eq_true hs, if_neg (by simp [hs]), if_pos (by omega)]; rfl
      · rw [decide_eq_false hs, if_pos (by simpa using hs)]; rfl
    · rw [if_neg ho, decide_eq_false ho]; rfl
theorem take_eq (k : Nat) (off : Int) (data : ByteArray) (hk : 3 ≤ k) (h4 : l4.length ≤ 5000) (h5 : l5.length ≤ 5000) (h6 : -9223372036854775808 ≤ a6 ∧ a6 ≤ 9223372036854775807) (h7 : (a7.size : Int) ≤ 1000000) (hd : (data.size : Int) ≤ 1000000) :
    chunk_Take.f k a0 a1 a2 a3 l4 l5 a6 a7 a8 off data = some (takeV a0 a1 a2 a3 l4 l5 a6 a7 a8 off data) := by
  have hlive := live_bounds a0 a1 a2 a3 l4 l5 a6 a7 a8
  obtain ⟨k, rfl⟩ : ∃ m, k = m + 2 := ⟨k - 2, by omega⟩
  unfold chunk_Take.f takeV
  rw [check_eq a0 a1 a2 a3 l4 l5 a6 a7 a8 (k + 2) hk h4 h5 h6 h7, none_eq _ _ _ _ _ _ _ _ _ h4 h5]
  simp only [Option.bind_some, tj0t]
  unfold liveB at hlive ⊢
  cases hr : rightB a0 a1 a2 a3 l4 l5 a6 a7 a8 with
  | false => simp
  | true =>
    rw [hr] at hlive
    simp only [if_true]
    cases hz : zeroB a0 a1 a2 a3 l4 l5 a6 a7 a8 with
    | true => rw [tj0t]; rfl
    | false =>
      rw [hz] at hlive
      have hb := hlive rfl
      rw [tj0f a0 a1 a2 a3 l4 l5 a6 a7 a8 k off data h4 h5 (by omega) h7 hd]; rfl
theorem rj1 (k : Nat) (data : ByteArray) (b : Bool) : r16_Take.j1 (k + 1) data b a0 a1 a2 a3 l4 l5 a6 a7 a8 a0 a1 a2 a3 l4 l5 a6 a7 a8 = if b = true then some (a0, a1, a2, a3, l4, l5, a6, a7, a8, false, 0) else if a7.size + data.size ≤ 9223372036854775807 then some (a0, a1, a2, a3, l4, l5, a6, a7 ++ data, decide ((a7.size : Int) + (data.size : Int) < a6), true, 0) else none := rfl
theorem rj0t (k : Nat) (off : Int) (data : ByteArray) : r16_Take.j0 (k + 1) off data true a0 a1 a2 a3 l4 l5 a6 a7 a8 = some (0, 0, 0, 0, [], [], 0, ⟨#[]⟩, false, false, 150) := rfl
theorem rj0f (k : Nat) (off : Int) (data : ByteArray) (h4 : l4.length ≤ 5000) (h5 : l5.length ≤ 5000) (h6 : 0 ≤ a6 ∧ a6 ≤ 65536) (h7 : (a7.size : Int) ≤ 1000000) (hd : (data.size : Int) ≤ 1000000) :
    r16_Take.j0 (k + 2) off data false a0 a1 a2 a3 l4 l5 a6 a7 a8 = some (if fitsB a6 a7 a8 off data then (a0, a1, a2, a3, l4, l5, a6, a7 ++ data, decide ((a7.size : Int) + (data.size : Int) < a6), true, 0) else (a0, a1, a2, a3, l4, l5, a6, a7, a8, false, 0)) := by
  unfold fitsB
  simp only [r16_Take.j0]
  rw [if_neg (by decide), ownp_eq a0 a1 a2 a3 l4 l5 a6 a7 a8 h4 h5, Option.bind_some, part_eq (k + 1) (by omega) (by omega) (by omega)]
  simp only [Option.bind_some, rj1]
  cases a8 with
  | false => rw [if_neg (by decide), if_pos trivial]; rfl
  | true =>
    rw [if_pos rfl]
    by_cases ho : off = (a7.size : Int)
    · rw [if_pos ho, decide_eq_true ho]
      by_cases hs : (data.size : Int) = (partV a6 (a7.size : Int)).1
      · rw [decide_eq_true hs, if_neg (by simp [hs]), if_pos (by omega)]; rfl
      · rw [decide_eq_false hs, if_pos (by simpa using hs)]; rfl
    · rw [if_neg ho, decide_eq_false ho]; rfl
theorem reftake_eq (k : Nat) (off : Int) (data : ByteArray) (hk : 3 ≤ k) (h4 : l4.length ≤ 5000) (h5 : l5.length ≤ 5000) (h7 : (a7.size : Int) ≤ 1000000) (hd : (data.size : Int) ≤ 1000000) :
    r16_Take.f k a0 a1 a2 a3 l4 l5 a6 a7 a8 off data = some (takeV a0 a1 a2 a3 l4 l5 a6 a7 a8 off data) := by
  have hlive := live_bounds a0 a1 a2 a3 l4 l5 a6 a7 a8
  obtain ⟨k, rfl⟩ : ∃ m, k = m + 2 := ⟨k - 2, by omega⟩
  unfold r16_Take.f takeV
  rw [right_eq a0 a1 a2 a3 l4 l5 a6 a7 a8 (k + 2) (by omega), zero_eq]
  simp only [Option.bind_some, rj0t]
  unfold liveB at hlive ⊢
  cases hr : rightB a0 a1 a2 a3 l4 l5 a6 a7 a8 with
  | false => simp
  | true =>
    rw [hr] at hlive
    simp only [if_true]
    cases hz : zeroB a0 a1 a2 a3 l4 l5 a6 a7 a8 with
    | true => rw [rj0t]; rfl
    | false =>
      rw [hz] at hlive
      have hb := hlive rfl
      rw [rj0f a0 a1 a2 a3 l4 l5 a6 a7 a8 k off data h4 h5 (by omega) h7 hd]; rfl

/-! ### Whole -/
def wholeV : Int × Int × List Int × List Int × ByteArray × Int :=
  if liveB a0 a1 a2 a3 l4 l5 a6 a7 a8 && !a8 then (a2, a3, l4, l5, a7, 0) else (0, 0, [], [], ⟨#[]⟩, 150)
theorem wj0 (k : Nat) (b : Bool) (h4 : l4.length ≤ 5000) (h5 : l5.length ≤ 5000) : chunk_Whole.j0 (k + 1) b a0 a1 a2 a3 l4 l5 a6 a7 a8 = some (if b = true then (0, 0, [], [], ⟨#[]⟩, 150) else (a2, a3, l4, l5, a7, 0)) := by
  simp only [chunk_Whole.j0]; rw [own_eq l4 l5 h4 h5]; cases b <;> rfl
theorem rwj0 (k : Nat) (b : Bool) (h4 : l4.length ≤ 5000) (h5 : l5.length ≤ 5000) : r16_Whole.j0 (k + 1) b a0 a1 a2 a3 l4 l5 a6 a7 a8 = some (if b = true then (0, 0, [], [], ⟨#[]⟩, 150) else (a2, a3, l4, l5, a7, 0)) := by
  simp only [r16_Whole.j0]; rw [ownc_eq l4 l5 h4 h5]; cases b <;> rfl
theorem whole_eq (k : Nat) (hk : 3 ≤ k) (h4 : l4.length ≤ 5000) (h5 : l5.length ≤ 5000) (h6 : -9223372036854775808 ≤ a6 ∧ a6 ≤ 9223372036854775807) (h7 : (a7.size : Int) ≤ 1000000) : chunk_Whole.f k a0 a1 a2 a3 l4 l5 a6 a7 a8 = some (wholeV a0 a1 a2 a3 l4 l5 a6 a7 a8) := by
  obtain ⟨k, rfl⟩ : ∃ m, k = m + 1 := ⟨k - 1, by omega⟩
  unfold chunk_Whole.f wholeV liveB
  rw [check_eq a0 a1 a2 a3 l4 l5 a6 a7 a8 (k + 1) hk h4 h5 h6 h7, none_eq _ _ _ _ _ _ _ _ _ h4 h5]
  simp only [Option.bind_some, wj0 _ _ _ _ _ _ _ _ _ _ _ h4 h5]
  cases rightB a0 a1 a2 a3 l4 l5 a6 a7 a8 <;> cases zeroB a0 a1 a2 a3 l4 l5 a6 a7 a8 <;> cases a8 <;> rfl
theorem refwhole_eq (k : Nat) (hk : 3 ≤ k) (h4 : l4.length ≤ 5000) (h5 : l5.length ≤ 5000) : r16_Whole.f k a0 a1 a2 a3 l4 l5 a6 a7 a8 = some (wholeV a0 a1 a2 a3 l4 l5 a6 a7 a8) := by
  obtain ⟨k, rfl⟩ : ∃ m, k = m + 1 := ⟨k - 1, by omega⟩
  unfold r16_Whole.f wholeV liveB
  rw [right_eq a0 a1 a2 a3 l4 l5 a6 a7 a8 (k + 1) (by omega), zero_eq]
  simp only [Option.bind_some, rwj0 _ _ _ _ _ _ _ _ _ _ _ h4 h5]
  cases rightB a0 a1 a2 a3 l4 l5 a6 a7 a8 <;> cases zeroB a0 a1 a2 a3 l4 l5 a6 a7 a8 <;> cases a8 <;> rfl
end

/-! ### the document's examples -/
theorem begins_eq (k : Nat) (hk : 3 ≤ k) : L_begins.f k = some true := by
  have hb : beginV 1 5 3 2 [] [] S0 = (1, 5, 3, 2, [], [], 100, ⟨#[]⟩, true, 0) := by unfold beginV beginB; rw [S0_size]; rfl
  have hb2 : beginV 0 5 3 2 [] [] S0 = (0, 0, 0, 0, [], [], 0, ⟨#[]⟩, false, 150) := by unfold beginV beginB; rw [S0_size]; rfl
  unfold L_begins.f
  rw [some_eq]
  simp only [Option.bind_some]
  rw [begin_eq 1 5 3 2 [] [] S0 k hk (by simp) (by simp) (by rw [S0_size]; omega), begin_eq 0 5 3 2 [] [] S0 k hk (by simp) (by simp) (by rw [S0_size]; omega), hb, hb2]
  simp only [Option.bind_some]
  rw [if_pos trivial, if_pos trivial, if_pos trivial, if_pos (by exact ByteArray.toList_empty), check_eq 1 5 3 2 [] [] 100 ⟨#[]⟩ true k hk (by simp) (by simp) (by omega) (by decide)]
  rfl
end Go.Proofs.Ytpagkmdlmhdenaa.Pure
