/- A part is taken just as the reference says, or is not, and Whole too: for every part, number and text the law returns true; no condition. -/
import Derived.Test.YtpagkmdlmhdenaaPAllx35
import Derived.Test.YtpagkmdlmhdenaaRows
import Derived.Test.YtpagkmdlmhdenaaKinds
import Derived.Test.YtpagkmdlmhdenaaPureTakes
import Derived.WalkKit
import Derived.ProofKit
import Derived.OpenShut
import Derived.ShutString
import Derived.ChangeOld
import Derived.Below
import Derived.SizedLaws
namespace Go.Proofs.Ytpagkmdlmhdenaa.chunkTakes
open Go.ChangeShapes Go.WideShapes Go.ChangeAt Go.RowKit Go.Proofs.Ytpagkmdlmhdenaa.PAll Go.Proofs.Ytpagkmdlmhdenaa.Kinds Go.Proofs.YtpagkmdlmhdenaaW.PrintWords
open Go.ChangeMaps (open_string shut_string)
set_option linter.unusedVariables false
theorem own : ownKnob Try.prog.godebug = none := by kernel_rfl
theorem laidOut : laidOutB Try.prog = true := by kernel_rfl
set_option maxRecDepth 100000 in
theorem lifted (os : Os) (started : os.Started) (H : Type) (enc : TypeId × Value → H) :
    ReturnsInHanded {} Try.checked os 5 .any (Rows.chunkTakesSpec.pre6 enc Try.prog Try.f5 Rows.chunkTakesRow.domain false) (Rows.chunkTakesSpec.post enc Try.prog Try.f5 false true false false) := by
  refine returnsInHanded_of_change_sized (C := Try.checked) own started (by kernel_rfl) Try.func5
    (ChangeSpec.witness6 (enc := enc) (C := Try.checked) false ⟨#[], #[.agg #[.int .i64 0, .int .i64 0, .int .i64 0, .int .i64 0, .slice none 0 0, .slice none 0 0, .int .i64 0, .string ByteArray.empty, .bool false], .int .i64 0, .string ByteArray.empty], []⟩ 8 (by kernel_rfl) (by kernel_rfl) (by kernel_rfl) (by kernel_rfl)) ?_
  intro W base args ds gs before hval0 hW hcnd hsz0 _
  have hval : ∀ (j : Nat) t v, Try.f5.params[j]? = some t → args[j]? = some v → Value.okWide Try.prog W .any base t v := hval0
  have hW' := hW
  obtain ⟨p, q, hA0, hV, rfl, hfz, hnd⟩ := hW
  have hA : DataW.TrodAll enc Try.prog W 0 (fun _ => true) true Try.f5.params.toList args.toList ds p := hA0
  rw [Try.params5] at hA hval
  obtain ⟨v0, vs0, d0, ds0, p0, q0, hargs, rfl, rfl, h0, r0⟩ := trodAll_cons hA
  obtain ⟨v1, vs1, d1, ds1, p1, q1, rfl, rfl, rfl, h1, r1⟩ := trodAll_cons r0
  obtain ⟨v2, vs2, d2, ds2, p2, q2, rfl, rfl, rfl, h2, r2⟩ := trodAll_cons r1
  obtain ⟨rfl, rfl, rfl⟩ := trodAll_nil r2
  obtain rfl : args = #[v0, v1, v2] := by cases args; simp_all
  obtain ⟨rfl, rfl⟩ := trodVars_none hV
  have k0 := h0
  have lt0 : ∀ x ∈ p0, x.block < W.heap.size := by obtain ⟨m, hm⟩ := k0; exact DataW.trod_lt m _ _ _ hm
  obtain ⟨cs0, rfl, hcz0⟩ := okWide_struct Try.underlying34 (hval 0 34 v0 rfl rfl)
  obtain ⟨fu0, hf0⟩ := h0
  obtain ⟨x0, hK0, w0⟩ := oPart.get hf0
  obtain ⟨A0_4, c0_4, A0_5, c0_5, he0, hc0_4, hr0_4, hc0_5, hr0_5⟩ := part_cells hK0
  have hl0 : cs0.toList = _ := he0
  obtain ⟨lc0⟩ := cs0
  have hm0 : lc0 = _ := hl0
  clear hl0 he0 hf0
  subst hm0
  obtain ⟨a1, rfl, rfl, rfl, w1⟩ := open_int Try.underlying3 (hval 1 3 v1 rfl rfl) h1
  obtain ⟨a2, rfl, rfl, rfl, w2⟩ := open_string Try.underlying9 (hval 2 9 v2 rfl rfl) h2
  clear hA0 hval0 hsz0
  obtain ⟨k, hl⟩ := Pure.chunkTakes (x0.1) (x0.2.1) (x0.2.2.1) (x0.2.2.2.1) (x0.2.2.2.2.1.1) (x0.2.2.2.2.1.2) (x0.2.2.2.2.2.1) (x0.2.2.2.2.2.2.1) (x0.2.2.2.2.2.2.2) a1 a2 (bounds _ w0.2.2.2.2.2.1)
  refine (L_ChunkTakes.calls k (x0.1) (x0.2.1) (x0.2.2.1) (x0.2.2.2.1) _ _ (x0.2.2.2.2.1.1) _ _ (x0.2.2.2.2.1.2) (x0.2.2.2.2.2.1) (x0.2.2.2.2.2.2.1) (x0.2.2.2.2.2.2.2) (a1) (a2) true W hr0_4 hc0_4 hr0_5 hc0_5 hl).mono fun e W' ⟨he, bel0⟩ => ?_
  have bel : Below W.heap.size W W' := bel0
  subst he
  exact ⟨_, rfl, _, _, _, [], _, [], hW', trodAll_mk1 (shut_bool Try.underlying4 _), (trodAll_cons_mk (Below.trod laidOut (by kernel_rfl) (of_decide_eq_true (by kernel_rfl)) k0 bel lt0) (trodAll_cons_mk (shut_int Try.underlying3 w1) (trodAll_cons_mk (shut_string Try.underlying9 w2) trodAll_mk0))), rfl, bel.frame _, fun h => by cases h⟩
theorem over : Rows.chunkTakesRow.holds Try.pinned (OpenSpec.ofChange Rows.chunkTakesSpec) :=
  OpenClaim.holds_of_wide 5 Try.f5 rfl rfl rfl rfl rfl rfl rfl ⟨rfl, rfl, rfl, rfl, rfl⟩ rfl rfl rfl rfl rfl (by kernel_rfl) Try.func5 (by kernel_rfl)
    (of_decide_eq_true (by kernel_rfl)) (by unfold Func.isWrapper; first | (rw [if_pos (by decide +kernel)]; kernel_rfl) | (rw [if_neg (by decide +kernel)]; exact ⟨rfl, rfl⟩))
    (fun os started H enc _ => lifted os started H enc)
end Go.Proofs.Ytpagkmdlmhdenaa.chunkTakes
namespace Go.Proofs.Ytpagkmdlmhdenaa
/-- A part is taken just as the reference says, or is not, and Whole too: for every part, number and text the law returns true; no condition. -/
theorem chunkTakes_holds : Rows.ChunkTakesSaid := chunkTakes.over
#print axioms chunkTakes_holds
end Go.Proofs.Ytpagkmdlmhdenaa
