/- The plain law of the chunk seat, second part: the document's example of Take. -/
import Derived.Test.YtpagkmdlmhdenaaPAllx34
import Derived.Test.YtpagkmdlmhdenaaPureB1
namespace Go.Proofs.Ytpagkmdlmhdenaa.Pure
open Go.RowKit Go.Proofs.Ytpagkmdlmhdenaa.PAll Go.Proofs.YtpagkmdlmhdenaaW.PrintWords Go.Proofs.YtpagkmdlmhdenaaW.PrintLast
set_option linter.unusedVariables false
set_option linter.unusedSimpArgs false

theorem takes_eq (k : Nat) (hk : 5004 ≤ k) : L_takes.f k = some true := by
  have hb : beginV 1 5 3 2 [] [] S0 = (1, 5, 3, 2, [], [], 100, ⟨#[]⟩, true, 0) := by unfold beginV beginB; rw [S0_size]; rfl
  have s1 : (S0.extract 0 96).size = 96 := by rw [ByteArray.size_extract, S0_size]; rfl
  have s2 : (S0.extract 96 100).size = 4 := by rw [ByteArray.size_extract, S0_size]; rfl
  have e1 : (⟨#[]⟩ : ByteArray) ++ S0.extract 0 96 = S0.extract 0 96 := ByteArray.empty_append
  have e2 : S0.extract 0 96 ++ S0.extract 96 100 = S0 := by
    rw [ByteArray.extract_append_extract, show min 0 96 = 0 from rfl, show max 96 100 = S0.size by rw [S0_size]; rfl]
    exact ByteArray.extract_zero_size
  have z : (⟨#[]⟩ : ByteArray).size = 0 := rfl
  have t1 : takeV 1 5 3 2 [] [] 100 ⟨#[]⟩ true 0 (S0.extract 0 96) = (1, 5, 3, 2, [], [], 100, S0.extract 0 96, true, true, 0) := by
    have hl : liveB 1 5 3 2 [] [] 100 ⟨#[]⟩ true = true := by unfold liveB rightB; rw [zero_more]; rfl
    have hf : fitsB 100 ⟨#[]⟩ true 0 (S0.extract 0 96) = true := by unfold fitsB; rw [s1]; rfl
    unfold takeV; rw [hl, hf, s1, z, e1]; rfl
  have t2 : takeV 1 5 3 2 [] [] 100 (S0.extract 0 96) true 0 (S0.extract 0 96) = (1, 5, 3, 2, [], [], 100, S0.extract 0 96, true, false, 0) := by
    have hl : liveB 1 5 3 2 [] [] 100 (S0.extract 0 96) true = true := by unfold liveB rightB; rw [zero_more, s1]; rfl
    have hf : fitsB 100 (S0.extract 0 96) true 0 (S0.extract 0 96) = false := by unfold fitsB; rw [s1]; rfl
    unfold takeV; rw [hl, hf]; rfl
  have t3 : takeV 1 5 3 2 [] [] 100 (S0.extract 0 96) true 96 (S0.extract 96 100) = (1, 5, 3, 2, [], [], 100, S0, false, true, 0) := by
    have hl : liveB 1 5 3 2 [] [] 100 (S0.extract 0 96) true = true := by unfold liveB rightB; rw [zero_more, s1]; rfl
    have hf : fitsB 100 (S0.extract 0 96) true 96 (S0.extract 96 100) = true := by unfold fitsB; rw [s1, s2]; rfl
    unfold takeV; rw [hl, hf, s1, s2, e2]; rfl
  have w1 : wholeV 1 5 3 2 [] [] 100 (S0.extract 0 96) true = (0, 0, [], [], ⟨#[]⟩, 150) := by unfold wholeV; rw [show (liveB 1 5 3 2 [] [] 100 (S0.extract 0 96) true && !true) = false by simp]; rfl
  have w2 : wholeV 1 5 3 2 [] [] 100 S0 false = (3, 2, [], [], S0, 0) := by
    have hz : zeroB 1 5 3 2 [] [] 100 S0 false = false := by unfold zeroB; rw [decide_eq_false_iff_not]; rintro ⟨h, _⟩; cases h
    have hl : liveB 1 5 3 2 [] [] 100 S0 false = true := by unfold liveB rightB; rw [hz, S0_size]; rfl
    unfold wholeV; rw [hl]; rfl
  unfold L_takes.f
  obtain ⟨k, rfl⟩ : ∃ m, k = m + 3 := ⟨k - 3, by omega⟩
  simp only [L_takes.j0, L_takes.j1, L_takes.j2]
  rw [some_eq]
  simp only [Option.bind_some, S0_size]
  rw [begin_eq 1 5 3 2 [] [] S0 (k + 3) (by omega) (by simp) (by simp) (by rw [S0_size]; omega), hb]
  simp only [Option.bind_some]
  rw [if_pos (by omega), if_pos (by omega)]
  try simp only [show ((96 : Int).toNat) = 96 from rfl]
  rw [take_eq 1 5 3 2 [] [] 100 ⟨#[]⟩ true (k + 3) 0 (S0.extract 0 96) (by omega) (by simp) (by simp) (by omega) (by rw [z]; omega) (by rw [s1]; omega), t1]
  simp only [Option.bind_some]
  rw [if_pos (by omega), if_pos (by omega)]
  rw [take_eq 1 5 3 2 [] [] 100 (S0.extract 0 96) true (k + 2) 0 (S0.extract 0 96) (by omega) (by simp) (by simp) (by omega) (by rw [s1]; omega) (by rw [s1]; omega), t2]
  simp only [Option.bind_some]
  rw [whole_eq 1 5 3 2 [] [] 100 (S0.extract 0 96) true (k + 1) (by omega) (by simp) (by simp) (by omega) (by rw [s1]; omega), w1]
  simp only [Option.bind_some]
  rw [if_pos (by omega)]
  rw [take_eq 1 5 3 2 [] [] 100 (S0.extract 0 96) true (k + 1) 96 (S0.extract 96 100) (by omega) (by simp) (by simp) (by omega) (by rw [s1]; omega) (by rw [s2]; omega), t3]
  simp only [Option.bind_some]
  rw [whole_eq 1 5 3 2 [] [] 100 S0 false k (by omega) (by simp) (by simp) (by omega) (by rw [S0_size]; omega), w2]
  simp only [Option.bind_some]
  rw [samesnap_refl 3 2 [] [] S0 S0 k rfl (by simp) (by simp) (by omega)]
  rfl
end Go.Proofs.Ytpagkmdlmhdenaa.Pure
