/- ChunkTakes' plain law. -/
import Derived.Test.YtpagkmdlmhdenaaPAllx35
import Derived.Test.YtpagkmdlmhdenaaPureB
namespace Go.Proofs.Ytpagkmdlmhdenaa.Pure
open Go.RowKit Go.Proofs.Ytpagkmdlmhdenaa.PAll Go.Proofs.YtpagkmdlmhdenaaW.PrintWords Go.Proofs.YtpagkmdlmhdenaaW.PrintLast
set_option linter.unusedVariables false
set_option linter.unusedSimpArgs false

theorem takes_l1 (p0 p1 p2 p3 : Int) (p4 p5 : List Int) (p6 : Int) (p7 : ByteArray) (p8 : Bool) (t0 t1 : Int) (t3 : List Int) (t4 : ByteArray) (h4 : p4.length ≤ 5000) (h5 : p5.length ≤ 5000) :
    ∀ (d k : Nat) (i : Int) (t2 : List Int), 0 ≤ i → t2.length ≤ 5000 → (t2.length : Int) - i = d → d + 6000 ≤ k →
      L_ChunkTakes.l1 k true i p0 p1 p2 p3 p4 p5 p6 p7 p8 p0 p1 p2 p3 p4 p5 p6 p7 p8 t0 t1 t2 t3 t4 = some true := by
  intro d
  induction d with
  | zero =>
    intro k i t2 h0 hx hd hk
    obtain ⟨k, rfl⟩ : ∃ m, k = m + 1 := ⟨k - 1, by omega⟩
    simp only [L_ChunkTakes.l1]
    rw [if_neg (by omega), takes_eq k (by omega), same_refl p0 p1 p2 p3 p4 p5 p6 p7 p8 k h4 h5 (by omega)]
    rfl
  | succ d ih =>
    intro k i t2 h0 hx hd hk
    obtain ⟨k, rfl⟩ : ∃ m, k = m + 1 := ⟨k - 1, by omega⟩
    simp only [L_ChunkTakes.l1]
    rw [if_pos (by omega), if_pos h0, wrap_id (by omega) (by omega)]
    exact ih k (i + 1) _ (by omega) (by rw [List.length_set]; exact hx) (by rw [List.length_set]; omega) (by omega)
theorem takes_l0 (p0 p1 p2 p3 : Int) (p4 p5 : List Int) (p6 : Int) (p7 : ByteArray) (p8 : Bool) (x0 x1 x2 x3 : Int) (x5 : List Int) (x6 : Int) (x7 : ByteArray) (x8 : Bool) (t0 t1 : Int) (t2 t3 : List Int) (t4 : ByteArray) (h4 : p4.length ≤ 5000) (h5 : p5.length ≤ 5000) (ht : t2.length ≤ 5000) :
    ∀ (d k : Nat) (i : Int) (x4 : List Int), 0 ≤ i → x4.length ≤ 5000 → (x4.length : Int) - i = d → d + 12000 ≤ k →
      L_ChunkTakes.l0 k true i p0 p1 p2 p3 p4 p5 p6 p7 p8 p0 p1 p2 p3 p4 p5 p6 p7 p8 x0 x1 x2 x3 x4 x5 x6 x7 x8 t0 t1 t2 t3 t4 = some true := by
  intro d
  induction d with
  | zero =>
    intro k i x4 h0 hx hd hk
    obtain ⟨k, rfl⟩ : ∃ m, k = m + 1 := ⟨k - 1, by omega⟩
    simp only [L_ChunkTakes.l0]
    rw [if_neg (by omega)]
    exact takes_l1 p0 p1 p2 p3 p4 p5 p6 p7 p8 t0 t1 t3 t4 h4 h5 t2.length k 0 t2 (by omega) ht (by omega) (by omega)
  | succ d ih =>
    intro k i x4 h0 hx hd hk
    obtain ⟨k, rfl⟩ : ∃ m, k = m + 1 := ⟨k - 1, by omega⟩
    simp only [L_ChunkTakes.l0]
    rw [if_pos (by omega), if_pos h0, wrap_id (by omega) (by omega)]
    exact ih k (i + 1) _ (by omega) (by rw [List.length_set]; exact hx) (by rw [List.length_set]; omega) (by omega)
theorem chunkTakes (p0 p1 p2 p3 : Int) (p4 p5 : List Int) (p6 : Int) (p7 : ByteArray) (p8 : Bool) (off : Int) (data : ByteArray) (h6 : -9223372036854775808 ≤ p6 ∧ p6 ≤ 9223372036854775807) :
    ∃ k, L_ChunkTakes.f k p0 p1 p2 p3 p4 p5 p6 p7 p8 off data = some true := by
  refine ⟨18001, ?_⟩
  unfold L_ChunkTakes.f
  by_cases h7 : (p7.size : Int) > 262144
  · rw [if_pos h7]; rfl
  · rw [if_neg h7]
    by_cases h8 : (data.size : Int) > 262144
    · rw [if_pos h8]; rfl
    · rw [if_neg h8]
      rcases big_cases p4 p5 with hb | ⟨hb, h4, h5⟩
      · rw [hb]; rfl
      · rw [hb]
        simp only [Option.bind_some, L_ChunkTakes.j0]
        rw [if_neg (by decide), ownp_eq p0 p1 p2 p3 p4 p5 p6 p7 p8 h4 h5, take_eq p0 p1 p2 p3 p4 p5 p6 p7 p8 18000 off data (by omega) h4 h5 h6 (by omega) (by omega)]
        simp only [Option.bind_some]
        rw [reftake_eq p0 p1 p2 p3 p4 p5 p6 p7 p8 18000 off data (by omega) h4 h5 (by omega) (by omega)]
        simp only [Option.bind_some]
        rw [whole_eq p0 p1 p2 p3 p4 p5 p6 p7 p8 18000 (by omega) h4 h5 h6 (by omega)]
        simp only [Option.bind_some]
        rw [refwhole_eq p0 p1 p2 p3 p4 p5 p6 p7 p8 18000 (by omega) h4 h5]
        simp only [Option.bind_some]
        have hv : ∃ y0 y1 y2 y3 y4 y5 y6 y7 y8 y9 y10, takeV p0 p1 p2 p3 p4 p5 p6 p7 p8 off data = (y0, y1, y2, y3, y4, y5, y6, y7, y8, y9, y10) ∧ y4.length ≤ 5000 ∧ y5.length ≤ 5000 := by
          unfold takeV
          repeat' split
          · exact ⟨_, _, _, _, _, _, _, _, _, _, _, rfl, h4, h5⟩
          · exact ⟨_, _, _, _, _, _, _, _, _, _, _, rfl, h4, h5⟩
          · exact ⟨_, _, _, _, _, _, _, _, _, _, _, rfl, by simp, by simp⟩
        obtain ⟨y0, y1, y2, y3, y4, y5, y6, y7, y8, y9, y10, hv, e4, e5⟩ := hv
        have hw : ∃ z0 z1 z2 z3 z4 z5, wholeV p0 p1 p2 p3 p4 p5 p6 p7 p8 = (z0, z1, z2, z3, z4, z5) ∧ z2.length ≤ 5000 ∧ z3.length ≤ 5000 := by
          unfold wholeV
          split
          · exact ⟨_, _, _, _, _, _, rfl, h4, h5⟩
          · exact ⟨_, _, _, _, _, _, rfl, by simp, by simp⟩
        obtain ⟨z0, z1, z2, z3, z4, z5, hw, f2, f3⟩ := hw
        rw [hv, hw]
        simp only
        rw [if_pos trivial, if_pos (by simp), same_refl y0 y1 y2 y3 y4 y5 y6 y7 y8 18000 e4 e5 (by omega)]
        simp only [Option.bind_some]
        rw [if_pos trivial, if_pos trivial, samesnap_refl z0 z1 z2 z3 z4 z4 18000 rfl f2 f3 (by omega)]
        simp only [Option.bind_some]
        exact takes_l0 p0 p1 p2 p3 p4 p5 p6 p7 p8 y0 y1 y2 y3 y5 y6 y7 y8 z0 z1 z2 z3 z4 h4 h5 f2 y4.length 18000 0 y4 (by omega) e4 (by omega) (by omega)
end Go.Proofs.Ytpagkmdlmhdenaa.Pure
