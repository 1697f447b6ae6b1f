-- Written by a program of the session.
import Derived.Test.YtpagkmdlmhdenaaAlAll
import Derived.Test.YtpagkmdlmhdenaaPAllx0
namespace Go.Proofs.Ytpagkmdlmhdenaa.PAll
open Go.RowKit Go.Proofs.YtpagkmdlmhdenaaW.PrintWords Go.Proofs.YtpagkmdlmhdenaaW.PrintLast Go.Proofs.YtpagkmdlmhdenaaW.PrintMore
attribute [local go_sem] max2_int min2_int max_two min_two max_three min_three max_four min_four   -- for this text's walks alone
set_option linter.unusedVariables false
set_option linter.unusedSimpArgs false
/-! ### r16_Part: function 28 -/
def r16_Part.j0 : Nat → Int → Int → Bool → Option (Int × Bool)
 | 0,_,_,_ => none
 | k + 1,x0,x1,ak => if ak = true then (some (0,false)) else (some (mn 96 (wrap64 (x0 - x1)),true))
def r16_Part.f (k : Nat) (a0 : Int) (a1 : Int) : Option (Int × Bool) := if a1 < 0 then (r16_Part.j0 k a0 a1 true) else (if (Int.tmod a1 96) = 0 then (if a1 > a0 then (r16_Part.j0 k a0 a1 true) else (if a1 = a0 then (r16_Part.j0 k a0 a1 (decide (a0 > 0))) else (r16_Part.j0 k a0 a1 false))) else (r16_Part.j0 k a0 a1 true))
set_option maxHeartbeats 8000000 in
set_option maxRecDepth 100000 in
theorem r16_Part.calls (k : Nat) (a0 : Int) (a1 : Int) (r1 : Int) (r2 : Bool) (w : World) (h : r16_Part.f k a0 a1 = some (r1,r2)) :
 Calls Try.prog 28 #[.int .i64 a0,.int .i64 a1] w fun e w' => e = .returned (.tuple #[.int .i64 r1,.bool r2]) ∧ Below w.heap.size w w' := by
 have HB := zzk (Below.refl w.heap.size w)
 have H : (if a1 < 0 then (r16_Part.j0 k a0 a1 true) else (if (Int.tmod a1 96) = 0 then (if a1 > a0 then (r16_Part.j0 k a0 a1 true) else (if a1 = a0 then (r16_Part.j0 k a0 a1 (decide (a0 > 0))) else (r16_Part.j0 k a0 a1 false))) else (r16_Part.j0 k a0 a1 true))) = some (r1,r2) := h
 clear h
 have ad := zzk H
 clear H
 go_enter Try.func28,Try.ntmps28
 go_upto_region 1 with (fail)
 go_cut [26] (fun al wc => ∃ (kq : Nat) (ab : Bool),al = .bool ab ∧ Aside0 (r16_Part.j0 kq a0 a1 ab = some (r1,r2)) ∧ Aside0 (kq ≤ k) ∧ Aside0 (Below w.heap.size w wc))
 case first =>
  have H := ad.out
  clear ad
  by_cases c4 : a1 < 0
  ·
   rw [if_pos c4] at H
   have aa : decide (a1 < 0) = true := zzn c4
   clear c4
   (first | rw [aa] | (simp only [Zv,Zw]; rw [aa]) | skip)
   have H' := zzk H
   clear H
   go_wp2
   go_meet
   case rel => exact ⟨_,(true),(by first | rfl | (simp; done) | (simp [*]; done)),H',⟨by first | omega | exact Nat.le_refl _⟩,⟨by repeat (first | (with_reducible first | exact HB.out | apply Zq | apply Zp | apply Zo) | exact HB.out)⟩⟩
  ·
   rw [if_neg c4] at H
   have aa : decide (a1 < 0) = false := zzo c4
   clear c4
   (first | rw [aa] | (simp only [Zv,Zw]; rw [aa]) | skip)
   by_cases c5 : (Int.tmod a1 96) = 0
   ·
    rw [if_pos c5] at H
    have ae : ((Int.tmod a1 96) == 0) = true := beq_iff_eq.mpr c5
    have af : ((Int.tmod a1 96) != 0) = false := bne_eq_false_iff_eq.mpr c5
    clear c5
    by_cases c6 : a1 > a0
    ·
     rw [if_pos c6] at H
     have ag : decide (a0 < a1) = true := zzn c6
     clear c6
     have H' := zzk H
     clear H
     go_wp2
     go_meet
     case rel => exact ⟨_,(true),(by first | rfl | (simp; done) | (simp [*]; done)),H',⟨by first | omega | exact Nat.le_refl _⟩,⟨by repeat (first | (with_reducible first | exact HB.out | apply Zq | apply Zp | apply Zo) | exact HB.out)⟩⟩
    ·
     rw [if_neg c6] at H
     have ag : decide (a0 < a1) = false := zzo c6
     clear c6
     by_cases c7 : a1 = a0
     ·
      rw [if_pos c7] at H
      have ah : (a1 == a0) = true := beq_iff_eq.mpr c7
      have ai : (a1 != a0) = false := bne_eq_false_iff_eq.mpr c7
      clear c7
      have H' := zzk H
      clear H
      go_wp2
      go_meet
      case rel => exact ⟨_,(decide (a0 > 0)),(by first | rfl | (simp; done) | (simp [*]; done)),H',⟨by first | omega | exact Nat.le_refl _⟩,⟨by repeat (first | (with_reducible first | exact HB.out | apply Zq | apply Zp | apply Zo) | exact HB.out)⟩⟩
     ·
      rw [if_neg c7] at H
      have ah : (a1 == a0) = false := beq_eq_false_iff_ne.mpr c7
      have ai : (a1 != a0) = true := bne_iff_ne.mpr c7
      have H' := zzk H
      clear H
      go_wp2
      go_meet
      case rel => exact ⟨_,(false),(by first | rfl | (simp; done) | (simp [*]; done)),H',⟨by first | omega | exact Nat.le_refl _⟩,⟨by repeat (first | (with_reducible first | exact HB.out | apply Zq | apply Zp | apply Zo) | exact HB.out)⟩⟩
   ·
    rw [if_neg c5] at H
    have ae : ((Int.tmod a1 96) == 0) = false := beq_eq_false_iff_ne.mpr c5
    have af : ((Int.tmod a1 96) != 0) = true := bne_iff_ne.mpr c5
    have H' := zzk H
    clear H
    go_wp2
    go_meet
    case rel => exact ⟨_,(true),(by first | rfl | (simp; done) | (simp [*]; done)),H',⟨by first | omega | exact Nat.le_refl _⟩,⟨by repeat (first | (with_reducible first | exact HB.out | apply Zq | apply Zp | apply Zo) | exact HB.out)⟩⟩
 case rest =>
  clear ad
  try clear c2
  try clear p2
  try clear c4
  try clear aa
  try clear c5
  try clear ae
  try clear af
  try clear c6
  try clear ag
  try clear c7
  try clear ah
  try clear ai
  obtain ⟨kq,ab,rfl,HA,HJ2,HB⟩ := hcut
  cases kq with
  | zero => exact absurd HA.out (by simp [r16_Part.j0])
  | succ an =>
   have H := HA.out
   clear HA
   simp only [r16_Part.j0] at H
   by_cases c8 : ab = true
   ·
    subst c8
    have H1 : (some (0,false)) = some (r1,r2) := by rw [if_pos rfl] at H; exact H
    clear H
    have H := H1
    clear H1
    simp only [zzg,zzh] at H
    obtain ⟨rfl,rfl⟩ := H
    go_wp2
    go_ret2
    exact ⟨by first | rfl | (simp [zzl,zzm] <;> rfl) | (simp [*,zzl,zzm] <;> rfl),by repeat (first | (with_reducible first | exact HB.out | apply Zq | apply Zp | apply Zo) | exact HB.out)⟩
   ·
    replace c8 := Bool.eq_false_iff.mpr c8
    subst c8
    have H1 : (some (mn 96 (wrap64 (a0 - a1)),true)) = some (r1,r2) := by rw [if_neg (show ¬ (false = true) by decide)] at H; exact H
    clear H
    have H := H1
    clear H1
    obtain ⟨aj,ac⟩ : ∃ j_ : Int,(mn 96 (wrap64 (a0 - a1))) = j_ := ⟨_,rfl⟩
    replace H : (some (aj,true)) = some (r1,r2) := by first | (rw [ac] at H; exact H) | (simp only [ac] at H ⊢; exact H)
    have am : (if (wrap64 (a0 - a1)) < 96 then (wrap64 (a0 - a1)) else 96) = aj := ac
    simp only [zzg,zzh] at H
    obtain ⟨rfl,rfl⟩ := H
    go_wp2
    go_ret2
    exact ⟨by first | rfl | (simp [zzl,zzm] <;> rfl) | (simp only [← ac]; first | rfl | (simp [zzl,zzm] <;> rfl)) | (simp [*,zzl,zzm] <;> rfl),by repeat (first | (with_reducible first | exact HB.out | apply Zq | apply Zp | apply Zo) | exact HB.out)⟩
end Go.Proofs.Ytpagkmdlmhdenaa.PAll
