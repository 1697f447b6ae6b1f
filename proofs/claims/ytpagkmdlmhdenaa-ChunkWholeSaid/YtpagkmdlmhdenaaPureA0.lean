/- The plain law of the chunk seat: parts of a snapshot. -/
import Derived.Test.YtpagkmdlmhdenaaPAllx2
import Derived.Test.YtpagkmdlmhdenaaPAllx3
import Derived.Test.YtpagkmdlmhdenaaPAllx4
import Derived.Test.YtpagkmdlmhdenaaPAllx5
import Derived.Test.YtpagkmdlmhdenaaPAllx6
import Derived.Test.YtpagkmdlmhdenaaPAllx7
import Derived.Test.YtpagkmdlmhdenaaPAllx8
import Derived.Test.YtpagkmdlmhdenaaPAllx9
namespace Go.Proofs.Ytpagkmdlmhdenaa.Pure
open Go.RowKit Go.Proofs.Ytpagkmdlmhdenaa.PAll Go.Proofs.YtpagkmdlmhdenaaW.PrintWords Go.Proofs.YtpagkmdlmhdenaaW.PrintLast
set_option linter.unusedVariables false
set_option linter.unusedSimpArgs false

theorem wrap_id {x : Int} (h0 : -9223372036854775808 ≤ x) (h1 : x ≤ 9223372036854775807) : wrap64 x = x := by unfold wrap64; omega

/-! ### parts -/
def partV (total offset : Int) : Int × Bool := if isPart total offset then (mn 96 (total - offset), true) else (0, false)
theorem size_eq {total offset : Int} (h0 : 0 ≤ total) (h1 : total ≤ 4611686018427387904) : chunk_size.f total offset = some (partV total offset) := by
  unfold chunk_size.f partV
  rw [if_pos ⟨h0, h1⟩]
theorem isPart_iff {total offset : Int} : isPart total offset = true ↔ (offset = 0 ∨ (0 < offset ∧ offset < total ∧ offset % 96 = 0)) := by
  unfold isPart; rw [decide_eq_true_eq]
theorem partV_yes {total offset : Int} (h : offset = 0 ∨ (0 < offset ∧ offset < total ∧ offset % 96 = 0)) : partV total offset = (mn 96 (total - offset), true) := by
  unfold partV; rw [if_pos (isPart_iff.2 h)]
theorem partV_no {total offset : Int} (h : ¬ (offset = 0 ∨ (0 < offset ∧ offset < total ∧ offset % 96 = 0))) : partV total offset = (0, false) := by
  unfold partV; rw [if_neg (fun e => h (isPart_iff.1 e))]
theorem j0_part (k : Nat) (total offset : Int) (b : Bool) : r16_Part.j0 (k + 1) total offset b = if b = true then some (0, false) else some (mn 96 (wrap64 (total - offset)), true) := rfl
theorem part_eq {total offset : Int} (k : Nat) (hk : 1 ≤ k) (h0 : 0 ≤ total) (h1 : total ≤ 4611686018427387904) : r16_Part.f k total offset = some (partV total offset) := by
  obtain ⟨k, rfl⟩ : ∃ m, k = m + 1 := ⟨k - 1, by omega⟩
  unfold r16_Part.f
  simp only [j0_part]
  by_cases hneg : offset < 0
  · rw [if_pos hneg, partV_no (by omega)]; rfl
  · rw [if_neg hneg]
    have ht : Int.tmod offset 96 = offset % 96 := Int.tmod_eq_emod_of_nonneg (by omega)
    rw [ht]
    by_cases hm : offset % 96 = 0
    · rw [if_pos hm]
      by_cases hg : offset > total
      · rw [if_pos hg, partV_no (by omega)]; rfl
      · rw [if_neg hg]
        have hw : wrap64 (total - offset) = total - offset := wrap_id (by omega) (by omega)
        rw [hw]
        by_cases he : offset = total
        · rw [if_pos he]
          by_cases hp : total > 0
          · rw [if_pos (decide_eq_true hp), partV_no (by omega)]
          · rw [if_neg (fun e => hp (of_decide_eq_true e)), partV_yes (by omega)]
        · rw [if_neg he, partV_yes (by omega)]; rfl
    · rw [if_neg hm, partV_no (by omega)]; rfl

/-! ### Cut -/
def cutV (data : ByteArray) (offset : Int) : ByteArray × Int :=
  if (data.size : Int) > 65536 then (⟨#[]⟩, 150) else if isPart data.size offset then (data.extract offset.toNat (offset + mn 96 (data.size - offset)).toNat, 0) else (⟨#[]⟩, 150)
theorem mn_96 {x : Int} : mn 96 x ≤ x ∧ mn 96 x ≤ 96 ∧ (mn 96 x = x ∨ mn 96 x = 96) := by unfold mn; split <;> omega
theorem cut_eq (a0 a1 : Int) (l2 l3 : List Int) (data : ByteArray) (offset : Int) : chunk_Cut.f a0 a1 l2 l3 data offset = some (cutV data offset) := by
  unfold chunk_Cut.f cutV
  by_cases hb : (data.size : Int) > 65536
  · rw [if_pos hb, if_pos hb]
  · rw [if_neg hb, if_neg hb, size_eq (by omega) (by omega)]
    simp only [Option.bind_some]
    by_cases hp : isPart data.size offset = true
    · have hq := isPart_iff.1 hp
      have hm := @mn_96 ((data.size : Int) - offset)
      have h0 : 0 ≤ mn 96 ((data.size : Int) - offset) := by rcases hm.2.2 with h | h <;> rw [h] <;> omega
      rw [partV_yes hq, if_pos hp]
      simp only
      rw [wrap_id (by omega) (by omega), if_pos trivial, if_pos (by omega), if_pos (by omega), if_pos (by omega)]
    · rw [partV_no (fun e => hp (isPart_iff.2 e)), if_neg hp]
      rfl
theorem refcut_eq (k : Nat) (hk : 1 ≤ k) (a0 a1 : Int) (l2 l3 : List Int) (data : ByteArray) (hd : (data.size : Int) ≤ 262144) (offset : Int) : r16_Cut.f k a0 a1 l2 l3 data offset = some (cutV data offset) := by
  unfold r16_Cut.f cutV
  rw [part_eq k hk (by omega) (by omega)]
  simp only [Option.bind_some]
  by_cases hb : (data.size : Int) > 65536
  · rw [if_pos hb, if_pos hb]
  · rw [if_neg hb, if_neg hb]
    by_cases hp : isPart data.size offset = true
    · have hq := isPart_iff.1 hp
      have hm := @mn_96 ((data.size : Int) - offset)
      have h0 : 0 ≤ mn 96 ((data.size : Int) - offset) := by rcases hm.2.2 with h | h <;> rw [h] <;> omega
      rw [partV_yes hq, if_pos hp]
      simp only
      rw [wrap_id (by omega) (by omega), if_pos trivial, if_pos (by omega), if_pos (by omega), if_pos (by omega)]
    · rw [partV_no (fun e => hp (isPart_iff.2 e)), if_neg hp]
      rfl

/-! ### the document's examples -/
def S0 : ByteArray := strOfNums (List.replicate 100 0)
theorem S0_size : S0.size = 100 := by decide +kernel
theorem some_eq : L_some.f = some (3, 2, [], [], S0) := by unfold L_some.f; rw [if_pos (by omega)]; rfl
theorem cuts_eq : L_cuts.f = some true := by
  unfold L_cuts.f
  simp only [some_eq, Option.bind_some, cut_eq]
  have h0 : cutV S0 0 = (S0.extract 0 96, 0) := by
    unfold cutV; rw [S0_size, if_neg (by decide), if_pos (by decide)]; rfl
  have h1 : cutV S0 96 = (S0.extract 96 100, 0) := by
    unfold cutV; rw [S0_size, if_neg (by decide), if_pos (by decide)]; rfl
  have h2 : cutV S0 4 = (⟨#[]⟩, 150) := by
    unfold cutV; rw [S0_size, if_neg (by decide), if_neg (by decide)]
  rw [h0, h1, h2]
  simp only
  rw [if_pos trivial, if_pos (by rw [ByteArray.size_extract, S0_size]; rfl), if_pos trivial, if_pos (by rw [ByteArray.size_extract, S0_size]; rfl)]
  rfl
theorem large_cases (a0 a1 : Int) (l2 l3 : List Int) (data : ByteArray) : L_large.f a0 a1 l2 l3 data = some true ∨ (L_large.f a0 a1 l2 l3 data = some false ∧ (data.size : Int) ≤ 262144 ∧ l2.length ≤ 5000 ∧ l3.length ≤ 5000) := by
  unfold L_large.f r08_BigCouncil.f
  by_cases h : (data.size : Int) > 262144
  · rw [if_pos h]; exact .inl rfl
  · rw [if_neg h]
    by_cases h2 : (l2.length : Int) > 5000
    · rw [if_pos h2]; exact .inl rfl
    · rw [if_neg h2]
      by_cases h3 : (l3.length : Int) > 5000
      · rw [decide_eq_true h3]; exact .inl rfl
      · rw [decide_eq_false h3]; exact .inr ⟨rfl, by omega, by omega, by omega⟩
theorem big_cases (l2 l3 : List Int) : r08_BigCouncil.f l2 l3 = some true ∨ (r08_BigCouncil.f l2 l3 = some false ∧ l2.length ≤ 5000 ∧ l3.length ≤ 5000) := by
  unfold r08_BigCouncil.f
  by_cases h2 : (l2.length : Int) > 5000
  · rw [if_pos h2]; exact .inl rfl
  · rw [if_neg h2]
    by_cases h3 : (l3.length : Int) > 5000
    · rw [decide_eq_true h3]; exact .inl rfl
    · rw [decide_eq_false h3]; exact .inr ⟨rfl, by omega, by omega⟩
/-- A snapshot's part at an offset is just this. -/
theorem chunkCuts (a0 a1 : Int) (l2 l3 : List Int) (data : ByteArray) (off : Int) : ∃ k, L_ChunkCuts.f k a0 a1 l2 l3 data off = some true := by
  refine ⟨1, ?_⟩
  unfold L_ChunkCuts.f
  rcases large_cases a0 a1 l2 l3 data with h | ⟨h, hd, _⟩
  · rw [h]; rfl
  · rw [h, cut_eq, refcut_eq 1 (Nat.le_refl _) a0 a1 l2 l3 data hd off, cuts_eq]
    simp
end Go.Proofs.Ytpagkmdlmhdenaa.Pure
