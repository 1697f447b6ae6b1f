/- ChunkTwice's plain law. -/
import Derived.Test.YtpagkmdlmhdenaaPAllx36
import Derived.Test.YtpagkmdlmhdenaaPureB
namespace Go.Proofs.Ytpagkmdlmhdenaa.Pure
open Go.RowKit Go.Proofs.Ytpagkmdlmhdenaa.PAll Go.Proofs.YtpagkmdlmhdenaaW.PrintWords Go.Proofs.YtpagkmdlmhdenaaW.PrintLast
set_option linter.unusedVariables false
set_option linter.unusedSimpArgs false

/-- What a part that fits leaves is right, and more or whole. -/
theorem right_taken (p0 p1 p2 p3 : Int) (p4 p5 : List Int) (p6 : Int) (p7 : ByteArray) (data : ByteArray) (hl : liveB p0 p1 p2 p3 p4 p5 p6 p7 true = true) (hf : (data.size : Int) = (partV p6 (p7.size : Int)).1) :
    rightB p0 p1 p2 p3 p4 p5 p6 (p7 ++ data) (decide ((p7.size : Int) + (data.size : Int) < p6)) = true ∧ zeroB p0 p1 p2 p3 p4 p5 p6 (p7 ++ data) (decide ((p7.size : Int) + (data.size : Int) < p6)) = false := by
  have hr := live_rest p0 p1 p2 p3 p4 p5 p6 p7 true hl
  have hok := hr.1
  have hre := hr.2
  unfold restB at hre
  rw [decide_eq_true_eq] at hre
  obtain ⟨r0, r1, r2, r3⟩ := hre
  have hz : zeroB p0 p1 p2 p3 p4 p5 p6 (p7 ++ data) (decide ((p7.size : Int) + (data.size : Int) < p6)) = false := by
    unfold okB at hok
    rw [decide_eq_true_eq] at hok
    unfold zeroB; rw [decide_eq_false_iff_not]; rintro ⟨h, _⟩; omega
  refine ⟨?_, hz⟩
  unfold rightB
  rw [hz, hok, Bool.false_or, Bool.true_and]
  unfold restB
  rw [decide_eq_true_eq, ByteArray.size_append]
  have hm := @mn_96 (p6 - (p7.size : Int))
  by_cases hlt : (p7.size : Int) < p6
  · rw [if_pos hlt] at r3
    have hp : partV p6 (p7.size : Int) = (mn 96 (p6 - (p7.size : Int)), true) := partV_yes (by omega)
    rw [hp] at hf
    simp only at hf
    refine ⟨r0, r1, by omega, ?_⟩
    by_cases h2 : ((p7.size + data.size : Nat) : Int) < p6
    · rw [if_pos h2]
      exact ⟨decide_eq_true (by omega), by omega⟩
    · rw [if_neg h2]
      exact .inl (decide_eq_false (by omega))
  · rw [if_neg hlt] at r3
    have h6 : p6 = 0 := by rcases r3 with h | h; (· cases h); exact h
    have hs : p7.size = 0 := by omega
    have hp : partV p6 (p7.size : Int) = (mn 96 (p6 - (p7.size : Int)), true) := partV_yes (by omega)
    rw [hp] at hf
    simp only at hf
    have : mn 96 (p6 - (p7.size : Int)) = 0 := by rw [h6, hs]; rfl
    refine ⟨r0, r1, by omega, ?_⟩
    rw [if_neg (by omega)]
    exact .inr h6
theorem chunkTwice (p0 p1 p2 p3 : Int) (p4 p5 : List Int) (p6 : Int) (p7 : ByteArray) (p8 : Bool) (data : ByteArray) (off : Int) (h6 : -9223372036854775808 ≤ p6 ∧ p6 ≤ 9223372036854775807) :
    ∃ k, L_ChunkTwice.f k p0 p1 p2 p3 p4 p5 p6 p7 p8 data off = some true := by
  refine ⟨6003, ?_⟩
  unfold L_ChunkTwice.f
  by_cases h7 : (p7.size : Int) > 262144
  · rw [if_pos h7]; rfl
  · rw [if_neg h7]
    by_cases h8 : (data.size : Int) > 262144
    · rw [if_pos h8]; rfl
    · rw [if_neg h8]
      rcases big_cases p4 p5 with hb | ⟨hb, h4, h5⟩
      · rw [hb]; rfl
      · rw [hb]
        simp only [Option.bind_some, L_ChunkTwice.j0]
        rw [if_neg (by decide), take_eq p0 p1 p2 p3 p4 p5 p6 p7 p8 6002 (p7.size : Int) data (by omega) h4 h5 h6 (by omega) (by omega)]
        simp only [Option.bind_some]
        by_cases hl : liveB p0 p1 p2 p3 p4 p5 p6 p7 p8 = true
        · by_cases hf : fitsB p6 p7 p8 (p7.size : Int) data = true
          · have hf2 := hf
            unfold fitsB at hf2
            simp only [Bool.and_eq_true, decide_eq_true_eq] at hf2
            obtain ⟨⟨h8t, _⟩, hsz⟩ := hf2
            subst h8t
            obtain ⟨hr, hz⟩ := right_taken p0 p1 p2 p3 p4 p5 p6 p7 data hl hsz
            have hb6 := live_bounds p0 p1 p2 p3 p4 p5 p6 p7 true hl
            have hv : takeV p0 p1 p2 p3 p4 p5 p6 p7 true (p7.size : Int) data = (p0, p1, p2, p3, p4, p5, p6, p7 ++ data, decide ((p7.size : Int) + (data.size : Int) < p6), true, 0) := by
              unfold takeV; rw [hl, hf]; rfl
            rw [hv]
            simp only
            rw [if_pos trivial]
            simp only [L_ChunkTwice.j1]
            rw [if_neg (by decide)]
            have hsa : ((p7 ++ data).size : Int) = p7.size + data.size := by rw [ByteArray.size_append]; omega
            rw [take_eq p0 p1 p2 p3 p4 p5 p6 (p7 ++ data) _ 6001 (p7.size : Int) data (by omega) h4 h5 h6 (by omega) (by omega)]
            simp only [Option.bind_some]
            have hl2 : liveB p0 p1 p2 p3 p4 p5 p6 (p7 ++ data) (decide ((p7.size : Int) + (data.size : Int) < p6)) = true := by unfold liveB; rw [hr, hz]; rfl
            -- the last part of the law
            have last : ∀ k, 5999 ≤ k → L_ChunkTwice.j2 (k + 1) data off false p0 p1 p2 p3 p4 p5 p6 p7 true p0 p1 p2 p3 p4 p5 p6 (p7 ++ data) (decide ((p7.size : Int) + (data.size : Int) < p6)) = some true := by
              intro k hk
              simp only [L_ChunkTwice.j2]
              rw [if_neg (by decide), take_eq p0 p1 p2 p3 p4 p5 p6 p7 true k off data (by omega) h4 h5 h6 (by omega) (by omega)]
              simp only [Option.bind_some]
              rw [takes_eq k (by omega)]
              simp only [Option.bind_some]
              rw [if_pos trivial, begins_eq k (by omega)]
              simp only [Option.bind_some]
              rw [if_pos trivial, wrap_id (by omega) (by omega), if_pos (by omega), check_eq p0 p1 p2 p3 p4 p5 p6 (p7 ++ data) _ k (by omega) h4 h5 h6 (by omega), hr]
              simp only [Option.bind_some, if_true]
              by_cases ho : off = (p7.size : Int)
              · subst ho
                rw [hv]
                simp
              · have hnf : fitsB p6 p7 true off data = false := by unfold fitsB; rw [decide_eq_false ho]; rfl
                have hv2 : takeV p0 p1 p2 p3 p4 p5 p6 p7 true off data = (p0, p1, p2, p3, p4, p5, p6, p7, true, false, 0) := by unfold takeV; rw [hl, hnf]; rfl
                rw [hv2]
                simp only
                rw [if_pos trivial, if_pos (by simp [ho]), if_neg (by decide), same_refl p0 p1 p2 p3 p4 p5 p6 p7 true k h4 h5 (by omega)]
                rfl
            by_cases hd0 : data.size = 0
            · -- nothing was taken: taken again, or not
              by_cases hf3 : fitsB p6 (p7 ++ data) (decide ((p7.size : Int) + (data.size : Int) < p6)) (p7.size : Int) data = true
              · have hv3 : takeV p0 p1 p2 p3 p4 p5 p6 (p7 ++ data) (decide ((p7.size : Int) + (data.size : Int) < p6)) (p7.size : Int) data = (p0, p1, p2, p3, p4, p5, p6, (p7 ++ data) ++ data, decide (((p7 ++ data).size : Int) + (data.size : Int) < p6), true, 0) := by unfold takeV; rw [hl2, hf3]; rfl
                rw [hv3]
                simp only
                rw [if_pos trivial, if_pos trivial, if_neg (by omega)]
                exact last 6000 (by omega)
              · have hv3 : takeV p0 p1 p2 p3 p4 p5 p6 (p7 ++ data) (decide ((p7.size : Int) + (data.size : Int) < p6)) (p7.size : Int) data = (p0, p1, p2, p3, p4, p5, p6, p7 ++ data, decide ((p7.size : Int) + (data.size : Int) < p6), false, 0) := by unfold takeV; rw [hl2, if_neg hf3]; rfl
                rw [hv3]
                simp only
                rw [if_pos trivial, if_neg (by decide), same_refl p0 p1 p2 p3 p4 p5 p6 (p7 ++ data) _ 6001 h4 h5 (by omega)]
                exact last 6000 (by omega)
            · have hf3 : fitsB p6 (p7 ++ data) (decide ((p7.size : Int) + (data.size : Int) < p6)) (p7.size : Int) data = false := by
                unfold fitsB
                rw [decide_eq_false (show ¬ (p7.size : Int) = ((p7 ++ data).size : Int) by omega)]
                simp
              have hv3 : takeV p0 p1 p2 p3 p4 p5 p6 (p7 ++ data) (decide ((p7.size : Int) + (data.size : Int) < p6)) (p7.size : Int) data = (p0, p1, p2, p3, p4, p5, p6, p7 ++ data, decide ((p7.size : Int) + (data.size : Int) < p6), false, 0) := by unfold takeV; rw [hl2, hf3]; rfl
              rw [hv3]
              simp only
              rw [if_pos trivial, if_neg (by decide), same_refl p0 p1 p2 p3 p4 p5 p6 (p7 ++ data) _ 6001 h4 h5 (by omega)]
              exact last 6000 (by omega)
          · have hv : takeV p0 p1 p2 p3 p4 p5 p6 p7 p8 (p7.size : Int) data = (p0, p1, p2, p3, p4, p5, p6, p7, p8, false, 0) := by unfold takeV; rw [hl, if_neg hf]; rfl
            rw [hv]
            simp only
            rw [if_pos trivial]
            simp only [L_ChunkTwice.j1]
            rw [if_pos (show (!false) = true from rfl), takes_eq 6001 (by omega)]
            simp only [Option.bind_some]
            rw [if_pos trivial, if_pos trivial, same_refl p0 p1 p2 p3 p4 p5 p6 p7 p8 6001 h4 h5 (by omega)]
            rfl
        · have hv : takeV p0 p1 p2 p3 p4 p5 p6 p7 p8 (p7.size : Int) data = (0, 0, 0, 0, [], [], 0, ⟨#[]⟩, false, false, 150) := by unfold takeV; rw [if_neg hl]
          rw [hv]
          simp only
          rw [if_neg (by decide)]
          simp only [L_ChunkTwice.j1]
          rw [if_pos trivial, takes_eq 6001 (by omega)]
          rfl
end Go.Proofs.Ytpagkmdlmhdenaa.Pure
