/- Whoever takes a snapshot's parts has the snapshot in the end: for every numbers, snapshot, offsets and texts the law returns true; no condition. -/
import Derived.Test.YtpagkmdlmhdenaaPAllx37
import Derived.Test.YtpagkmdlmhdenaaRows
import Derived.Test.YtpagkmdlmhdenaaKinds
import Derived.Test.YtpagkmdlmhdenaaPureWhole
import Derived.WalkKit
import Derived.ProofKit
import Derived.OpenShut
import Derived.ShutString
import Derived.ChangeOld
import Derived.Below
import Derived.SizedLaws
namespace Go.Proofs.Ytpagkmdlmhdenaa.chunkWhole
open Go.ChangeShapes Go.WideShapes Go.ChangeAt Go.RowKit Go.Proofs.Ytpagkmdlmhdenaa.PAll Go.Proofs.Ytpagkmdlmhdenaa.Kinds Go.Proofs.YtpagkmdlmhdenaaW.PrintWords
open Go.ChangeMaps (open_string shut_string)
set_option linter.unusedVariables false
theorem own : ownKnob Try.prog.godebug = none := by kernel_rfl
theorem laidOut : laidOutB Try.prog = true := by kernel_rfl
set_option maxRecDepth 100000 in
theorem lifted (os : Os) (started : os.Started) (H : Type) (enc : TypeId × Value → H) :
    ReturnsInHanded {} Try.checked os 7 .any (Rows.chunkWholeSpec.pre6 enc Try.prog Try.f7 Rows.chunkWholeRow.domain false) (Rows.chunkWholeSpec.post enc Try.prog Try.f7 false true false false) := by
  refine returnsInHanded_of_change_sized (C := Try.checked) own started (by kernel_rfl) Try.func7
    (ChangeSpec.witness6 (enc := enc) (C := Try.checked) false ⟨#[], #[.int .i64 0, .int .i64 0, .agg #[.int .i64 0, .int .i64 0, .slice none 0 0, .slice none 0 0, .string ByteArray.empty], .slice none 0 0, .slice none 0 0], []⟩ 8 (by kernel_rfl) (by kernel_rfl) (by kernel_rfl) (by kernel_rfl)) ?_
  intro W base args ds gs before hval0 hW hcnd hsz0 _
  have hval : ∀ (j : Nat) t v, Try.f7.params[j]? = some t → args[j]? = some v → Value.okWide Try.prog W .any base t v := hval0
  have hW' := hW
  obtain ⟨p, q, hA0, hV, rfl, hfz, hnd⟩ := hW
  have hA : DataW.TrodAll enc Try.prog W 0 (fun _ => true) true Try.f7.params.toList args.toList ds p := hA0
  rw [Try.params7] at hA hval
  obtain ⟨v0, vs0, d0, ds0, p0, q0, hargs, rfl, rfl, h0, r0⟩ := trodAll_cons hA
  obtain ⟨v1, vs1, d1, ds1, p1, q1, rfl, rfl, rfl, h1, r1⟩ := trodAll_cons r0
  obtain ⟨v2, vs2, d2, ds2, p2, q2, rfl, rfl, rfl, h2, r2⟩ := trodAll_cons r1
  obtain ⟨v3, vs3, d3, ds3, p3, q3, rfl, rfl, rfl, h3, r3⟩ := trodAll_cons r2
  obtain ⟨v4, vs4, d4, ds4, p4, q4, rfl, rfl, rfl, h4, r4⟩ := trodAll_cons r3
  obtain ⟨rfl, rfl, rfl⟩ := trodAll_nil r4
  obtain rfl : args = #[v0, v1, v2, v3, v4] := by cases args; simp_all
  obtain ⟨rfl, rfl⟩ := trodVars_none hV
  obtain ⟨a0, rfl, rfl, rfl, w0⟩ := open_int Try.underlying3 (hval 0 3 v0 rfl rfl) h0
  obtain ⟨a1, rfl, rfl, rfl, w1⟩ := open_int Try.underlying3 (hval 1 3 v1 rfl rfl) h1
  have k2 := h2
  have lt2 : ∀ x ∈ p2, x.block < W.heap.size := by obtain ⟨m, hm⟩ := k2; exact DataW.trod_lt m _ _ _ hm
  obtain ⟨cs2, rfl, hcz2⟩ := okWide_struct Try.underlying26 (hval 2 26 v2 rfl rfl)
  obtain ⟨fu2, hf2⟩ := h2
  obtain ⟨x2, hK2, w2⟩ := oSnap.get hf2
  obtain ⟨A2_2, c2_2, A2_3, c2_3, he2, hc2_2, hr2_2, hc2_3, hr2_3⟩ := snap_cells hK2
  have hl2 : cs2.toList = _ := he2
  obtain ⟨lc2⟩ := cs2
  have hm2 : lc2 = _ := hl2
  clear hl2 he2 hf2
  subst hm2
  have k3 := h3
  have lt3 : ∀ x ∈ p3, x.block < W.heap.size := by obtain ⟨m, hm⟩ := k3; exact DataW.trod_lt m _ _ _ hm
  obtain ⟨fu3, hf3⟩ := h3
  obtain ⟨x3, hK3, w3⟩ := oInts.get hf3
  obtain ⟨A3, c3, he3, hc3, hr3⟩ := hK3
  obtain ⟨aa3, ll3, cc3, rfl⟩ := okWide_slice Try.underlying22 (hval 3 22 v3 rfl rfl)
  obtain ⟨rfl, rfl, rfl⟩ : aa3 = A3 ∧ ll3 = x3.length ∧ cc3 = c3 := by simpa [Value.cells] using he3
  have k4 := h4
  have lt4 : ∀ x ∈ p4, x.block < W.heap.size := by obtain ⟨m, hm⟩ := k4; exact DataW.trod_lt m _ _ _ hm
  obtain ⟨fu4, hf4⟩ := h4
  obtain ⟨x4, hK4, w4⟩ := oStrs.get hf4
  obtain ⟨A4, c4, he4, hc4, hr4⟩ := hK4
  obtain ⟨aa4, ll4, cc4, rfl⟩ := okWide_slice Try.underlying51 (hval 4 51 v4 rfl rfl)
  obtain ⟨rfl, rfl, rfl⟩ : aa4 = A4 ∧ ll4 = x4.length ∧ cc4 = c4 := by simpa [Value.cells] using he4
  clear hA0 hval0 hsz0
  obtain ⟨k, hl⟩ := Pure.chunkWhole a0 a1 (x2.1) (x2.2.1) (x2.2.2.1.1) (x2.2.2.1.2) (x2.2.2.2) x3 x4
  refine (L_ChunkWhole.calls k (a0) (a1) (x2.1) (x2.2.1) _ _ (x2.2.2.1.1) _ _ (x2.2.2.1.2) (x2.2.2.2) _ _ (x3) _ _ (x4) true W hr2_2 hc2_2 hr2_3 hc2_3 hr3 hc3 hr4 hc4 hl).mono fun e W' ⟨he, bel0⟩ => ?_
  have bel : Below W.heap.size W W' := bel0
  subst he
  exact ⟨_, rfl, _, _, _, [], _, [], hW', trodAll_mk1 (shut_bool Try.underlying4 _), (trodAll_cons_mk (shut_int Try.underlying3 w0) (trodAll_cons_mk (shut_int Try.underlying3 w1) (trodAll_cons_mk (Below.trod laidOut (by kernel_rfl) (of_decide_eq_true (by kernel_rfl)) k2 bel lt2) (trodAll_cons_mk (Below.trod laidOut (by kernel_rfl) (of_decide_eq_true (by kernel_rfl)) k3 bel lt3) (trodAll_cons_mk (Below.trod laidOut (by kernel_rfl) (of_decide_eq_true (by kernel_rfl)) k4 bel lt4) trodAll_mk0))))), rfl, bel.frame _, fun h => by cases h⟩
theorem over : Rows.chunkWholeRow.holds Try.pinned (OpenSpec.ofChange Rows.chunkWholeSpec) :=
  OpenClaim.holds_of_wide 7 Try.f7 rfl rfl rfl rfl rfl rfl rfl ⟨rfl, rfl, rfl, rfl, rfl⟩ rfl rfl rfl rfl rfl (by kernel_rfl) Try.func7 (by kernel_rfl)
    (of_decide_eq_true (by kernel_rfl)) (by unfold Func.isWrapper; first | (rw [if_pos (by decide +kernel)]; kernel_rfl) | (rw [if_neg (by decide +kernel)]; exact ⟨rfl, rfl⟩))
    (fun os started H enc _ => lifted os started H enc)
end Go.Proofs.Ytpagkmdlmhdenaa.chunkWhole
namespace Go.Proofs.Ytpagkmdlmhdenaa
/-- Whoever takes a snapshot's parts has the snapshot in the end: for every numbers, snapshot, offsets and texts the law returns true; no condition. -/
theorem chunkWhole_holds : Rows.ChunkWholeSaid := chunkWhole.over
#print axioms chunkWhole_holds
end Go.Proofs.Ytpagkmdlmhdenaa
