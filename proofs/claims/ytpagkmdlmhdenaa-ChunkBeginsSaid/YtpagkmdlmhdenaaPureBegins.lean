/- ChunkBegins' plain law. -/
import Derived.Test.YtpagkmdlmhdenaaPAllx28
import Derived.Test.YtpagkmdlmhdenaaPureB1
namespace Go.Proofs.Ytpagkmdlmhdenaa.Pure
open Go.RowKit Go.Proofs.Ytpagkmdlmhdenaa.PAll Go.Proofs.YtpagkmdlmhdenaaW.PrintWords Go.Proofs.YtpagkmdlmhdenaaW.PrintLast
set_option linter.unusedVariables false
set_option linter.unusedSimpArgs false

theorem begins_loop (b0 b1 : Int) (l2 l3 : List Int) (data : ByteArray) (p0 p1 p2 p3 : Int) (p4 p5 : List Int) (p6 : Int) (p7 : ByteArray) (p8 : Bool) (x0 x1 x2 x3 : Int) (x5 : List Int) (x6 : Int) (x7 : ByteArray) (x8 : Bool)
    (h2 : l2.length ≤ 5000) (h3 : l3.length ≤ 5000) (h4 : p4.length ≤ 5000) (h5 : p5.length ≤ 5000) (h6 : -9223372036854775808 ≤ p6 ∧ p6 ≤ 9223372036854775807) (h7 : (p7.size : Int) ≤ 262144) :
    ∀ (d k : Nat) (i : Int) (x4 : List Int), 0 ≤ i → x4.length ≤ 5000 → (x4.length : Int) - i = d → d + 6000 ≤ k →
      L_ChunkBegins.l0 k true i b0 b1 l2 l3 data p0 p1 p2 p3 p4 p5 p6 p7 p8 b0 b1 l2 l3 data x0 x1 x2 x3 x4 x5 x6 x7 x8 = some true := by
  intro d
  induction d with
  | zero =>
    intro k i x4 h0 hx hd hk
    obtain ⟨k, rfl⟩ : ∃ m, k = m + 1 := ⟨k - 1, by omega⟩
    simp only [L_ChunkBegins.l0]
    rw [if_neg (by omega), check_eq p0 p1 p2 p3 p4 p5 p6 p7 p8 k (by omega) h4 h5 h6 (by omega), begins_eq k (by omega), samesnap_refl b0 b1 l2 l3 data data k rfl h2 h3 (by omega), right_eq p0 p1 p2 p3 p4 p5 p6 p7 p8 k (by omega)]
    cases rightB p0 p1 p2 p3 p4 p5 p6 p7 p8 <;> rfl
  | succ d ih =>
    intro k i x4 h0 hx hd hk
    obtain ⟨k, rfl⟩ : ∃ m, k = m + 1 := ⟨k - 1, by omega⟩
    simp only [L_ChunkBegins.l0]
    rw [if_pos (by omega), if_pos h0, wrap_id (by omega) (by omega)]
    exact ih k (i + 1) _ (by omega) (by rw [List.length_set]; exact hx) (by rw [List.length_set]; omega) (by omega)
theorem begins_j0 (x0 x1 b0 b1 : Int) (l2 l3 : List Int) (data : ByteArray) (p0 p1 p2 p3 : Int) (p4 p5 : List Int) (p6 : Int) (p7 : ByteArray) (p8 : Bool) (k : Nat) :
    L_ChunkBegins.j0 (k + 1) x0 x1 true b0 b1 l2 l3 data p0 p1 p2 p3 p4 p5 p6 p7 p8 = some true := rfl
theorem chunkBegins (a0 a1 b0 b1 : Int) (l2 l3 : List Int) (data : ByteArray) (p0 p1 p2 p3 : Int) (p4 p5 : List Int) (p6 : Int) (p7 : ByteArray) (p8 : Bool) (h6 : -9223372036854775808 ≤ p6 ∧ p6 ≤ 9223372036854775807) :
    ∃ k, L_ChunkBegins.f k a0 a1 b0 b1 l2 l3 data p0 p1 p2 p3 p4 p5 p6 p7 p8 = some true := by
  refine ⟨12001, ?_⟩
  unfold L_ChunkBegins.f
  rcases large_cases b0 b1 l2 l3 data with h | ⟨h, hd, h2, h3⟩
  · rw [h]; rfl
  · rw [h]
    simp only [Option.bind_some]
    rw [if_neg (by decide)]
    by_cases h7 : (p7.size : Int) > 262144
    · rw [if_pos h7]; rfl
    · rw [if_neg h7]
      rcases big_cases p4 p5 with hb | ⟨hb, h4, h5⟩
      · rw [hb]; rfl
      · rw [hb]
        simp only [Option.bind_some, L_ChunkBegins.j0]
        rw [if_neg (by decide), owns_eq b0 b1 l2 l3 data h2 h3, begin_eq a0 a1 b0 b1 l2 l3 data 12000 (by omega) h2 h3 hd]
        simp only [Option.bind_some]
        rw [refbegin_eq a0 a1 b0 b1 l2 l3 data 12000 (by omega) h2 h3]
        simp only [Option.bind_some]
        rw [if_pos trivial]
        have hv : ∃ y0 y1 y2 y3 y4 y5 y6 y7 y8 y9, beginV a0 a1 b0 b1 l2 l3 data = (y0, y1, y2, y3, y4, y5, y6, y7, y8, y9) ∧ y4.length ≤ 5000 ∧ y5.length ≤ 5000 := by
          unfold beginV
          split
          · exact ⟨_, _, _, _, _, _, _, _, _, _, rfl, h2, h3⟩
          · exact ⟨_, _, _, _, _, _, _, _, _, _, rfl, by simp, by simp⟩
        obtain ⟨y0, y1, y2, y3, y4, y5, y6, y7, y8, y9, hv, e4, e5⟩ := hv
        rw [hv]
        simp only
        rw [same_refl y0 y1 y2 y3 y4 y5 y6 y7 y8 12000 e4 e5 (by omega)]
        simp only [Option.bind_some]
        exact begins_loop b0 b1 l2 l3 data p0 p1 p2 p3 p4 p5 p6 p7 p8 y0 y1 y2 y3 y5 y6 y7 y8 h2 h3 h4 h5 h6 (by omega) y4.length 12000 0 y4 (by omega) e4 (by omega) (by omega)
end Go.Proofs.Ytpagkmdlmhdenaa.Pure
