-- Written by a program of the session.
import Derived.Test.YtpagkmdlmhdenaaAlAll
import Derived.Test.YtpagkmdlmhdenaaPAllx0
namespace Go.Proofs.Ytpagkmdlmhdenaa.PAll
open Go.RowKit Go.Proofs.YtpagkmdlmhdenaaW.PrintWords Go.Proofs.YtpagkmdlmhdenaaW.PrintLast Go.Proofs.YtpagkmdlmhdenaaW.PrintMore
attribute [local go_sem] max2_int min2_int max_two min_two max_three min_three max_four min_four   -- for this text's walks alone
set_option linter.unusedVariables false
set_option linter.unusedSimpArgs false
/-! ### r08_numbers: function 38 -/
def r08_numbers.f (l0 : List Int) : Option (List Int) := if ([] : List Int).length + l0.length < 17592186044416 then (some (([] : List Int) ++ l0)) else (none)
set_option maxHeartbeats 8000000 in
set_option maxRecDepth 100000 in
theorem r08_numbers.calls (A0 : Option Addr) (c0 : Nat) (l0 : List Int) (r : List Int) (w : World) (ad : Kd.C (Kd.int .i64) w A0 l0.length l0) (ae : l0.length ≤ c0) (h : r08_numbers.f l0 = some r) :
 Calls Try.prog 38 #[.slice A0 l0.length c0] w fun e w' => ∃ af : Value,e = .returned (af) ∧ Kd.R (Kd.int .i64) 3 w' w.heap.size (fun _ => True) af r ∧ Below w.heap.size w w' := by
 have aj := zzk ad
 have al := zzk ae
 clear ad ae
 have HB := zzk (Below.refl w.heap.size w)
 have H : (if ([] : List Int).length + l0.length < 17592186044416 then (some (([] : List Int) ++ l0)) else (none)) = some r := h
 clear h
 by_cases c2 : ([] : List Int).length + l0.length < 17592186044416
 ·
  rw [if_pos c2] at H
  have LMc2 := zzk c2
  clear c2
  obtain ⟨ai,hy154⟩ : ∃ y_ : List Int,y_ = (([] : List Int) ++ l0) := ⟨_,rfl⟩
  replace H : (some ai) = some r := by first | (rw [hy154]; with_reducible exact H) | (have aa := (zzi _ _).symm.trans H; rw [hy154]; with_reducible exact aa) | (have aa := (zzi _ _).symm.trans H; with_reducible exact aa) | with_reducible exact H | (rw [hy154]; exact H) | exact H
  have ab := zzk hy154
  clear hy154
  obtain rfl := zzu H
  go_enter Try.func38,Try.ntmps38
  go_wp2_with (first | ((with_reducible refine zzb (b := .append) (xs := #[.tmp 4,.tmp 5]) rfl ?_); at_builtin; refine Kd.R_append_rows (Kd.int .i64) (w0 := w) w.heap.size rfl (.tmp 4) (.tmp 5) 22 3 (.int .i64 0) 8 rfl Try.underlying22 info3 rfl (by decide) (by omega) (.slice none 0 0) ([] : List Int) l0 _ _ _ (fun _ => True) (fun _ => False) rfl rfl ?aO ?aR (fun _ _ h => h) (fun _ h => h.elim) ?aF ?aB ?aS ?aL ?_; (case aR => repeat (first | exact aj.out | (with_reducible refine Zk ?_ _) | (with_reducible refine Zj ?_ _) | (with_reducible refine Zl ?_))); (case aB => exact (by repeat (first | (with_reducible first | exact HB.out | apply Zq | apply Zp | apply Zo) | exact HB.out))); (case aF => exact (fun _ _ => trivial)); (case aO => exact ((Ze _ _ _ _ (fun _ => True)))); (case aS => exact (Zr (by repeat (first | (with_reducible first | exact HB.out | apply Zq | apply Zp | apply Zo) | exact HB.out)))); (case aL => have := LMc2.out; omega); intro ak w3 ho hb hg hat; rw [← ab.out] at ho; have ag := zzk (hb); have ah := zzk (ho); clear HB; have HB := ag; have ac := ah; clear ag ah; clear ho hb hg hat))
  go_ret
  exact ⟨_,by first | rfl | (simp [zzl,zzm] <;> rfl) | (simp [*,zzl,zzm] <;> rfl),by (with_reducible repeat (first | apply zu | apply zt | apply zs)); exact ac.out,by repeat (first | (with_reducible first | exact HB.out | apply Zq | apply Zp | apply Zo) | exact HB.out)⟩
 ·
  rw [if_neg c2] at H
  exact absurd H (by simp)
end Go.Proofs.Ytpagkmdlmhdenaa.PAll
