/- Are two rows of entries the same? Of the same ones. -/
import Derived.Test.YtpjachbmllklgaaSame
import Derived.Deep.RegionHeld3
namespace Go.Proofs.Ytpjachbmllklgaa.Rng
open Go.RowKit Go.Proofs.YtpjachbmllklgaaW.PrintWords Go.Proofs.Ytpjachbmllklgaa.Kinds Go.Proofs.Ytpjachbmllklgaa.PCou
set_option linter.unusedVariables false
set_option linter.unusedSimpArgs false
attribute [local go_sem] Oper.semAt_some

set_option maxHeartbeats 1000000 in
set_option maxRecDepth 100000 in
theorem entries_c (A1 : Option Addr) (n1 c1 b1 o1 : Nat) (css1 : List (List Value)) (A2 : Option Addr) (n2 c2 b2 o2 : Nat) (css2 : List (List Value)) (xs : List Ent) (w : World) (h1 : LX w A1 b1 o1 css1 xs) (e1 : n1 = xs.length) (h2 : LX w A2 b2 o2 css2 xs) (e2 : n2 = xs.length)
    (hcou : ∀ x ∈ xs, x.2.2.2.2.1.length ≤ 1000000000 ∧ x.2.2.2.2.2.length ≤ 1000000000) :
    Calls Try.prog 26 #[.slice A1 n1 c1, .slice A2 n2 c2] w fun e w' => e = .returned (.bool true) ∧ Below w.heap.size w w' := by
  have e37 : ∀ args w, (callFunc 37 args).run Try.prog w = .ok (.enter 37 args) w := enters_of Try.func37 (by kernel_rfl) rfl
  subst e1
  subst e2
  have H1 := Aside0.mk h1
  have H2 := Aside0.mk h2
  have HC := Aside0.mk hcou
  have hsm : xs.length ≤ 1000000 := by have := h1.small; have := h1.len; omega
  clear h1 h2 hcou
  go_enter Try.func26, Try.ntmps26
  go_wp2_with fail
  go_loopg [5] xs.length (fun gg s5 wr => ∃ kk : Nat, kk ≤ xs.length ∧ xs.length - kk ≤ gg ∧ s5 = .int .i64 kk ∧ Aside (Below w.heap.size w wr))
  case atStart => exact ⟨0, by omega, by omega, rfl, Below.refl _ _⟩
  case round =>
    obtain ⟨kk, hk, hgg, rfl, B⟩ := hrel
    by_cases hlt : kk < xs.length
    · have hltz : (kk : Int) < (xs.length : Int) := by omega
      have hl1 : kk < css1.length := by rw [H1.out.len]; exact hlt
      have hl2 : kk < css2.length := by rw [H2.out.len]; exact hlt
      obtain rfl := H1.out.A (by omega)
      obtain rfl := H2.out.A (by omega)
      have hL1 := H1.out.below B.out
      have hL2 := H2.out.below B.out
      have rg1 : ∀ W, Below wr.heap.size wr W → W.rangeAt b1 (o1 + kk * 43) css1[kk]! := fun W hW => (hL1.below hW).row kk hl1
      have rg2 : ∀ W, Below wr.heap.size wr W → W.rangeAt b2 (o2 + kk * 43) css2[kk]! := fun W hW => (hL2.below hW).row kk hl2
      have hi1 : (Try.prog.info? 59).map (·.size) = some css1[kk]!.length := by rw [(hL1.isE kk hl1).1.len]; exact size59
      have hi2 : (Try.prog.info? 59).map (·.size) = some css2[kk]!.length := by rw [(hL2.isE kk hl2).1.len]; exact size59
      have HS : Aside0 (∀ W, Below wr.heap.size wr W → Calls Try.prog 37 #[.agg css1[kk]!.toArray, .agg css2[kk]!.toArray] W fun e w' => e = .returned (.bool true) ∧ Below W.heap.size W w') :=
        ⟨fun W hW => sameEntry_c xs[kk]! _ _ W ((hL1.below hW).K kk hl1) ((hL2.below hW).K kk hl2) (HC.out _ (hL1.mem kk hl1)).1 (HC.out _ (hL1.mem kk hl1)).2⟩
      generalize css1[kk]! = cs1 at *
      generalize css2[kk]! = cs2 at *
      clear hL1 hL2 hl1 hl2
      go_wp2_with fail
      refine wp_region_held_drew (S := (fun W => Below wr.heap.size wr W)) (by kernel_rfl) (by exact (Below.refl _ _).drew) (fun hHeld => ?_)
      refine wpAnyH_take (i := 0) (oi := _) (v := ?_) rfl (by kernel_rfl) (by kernel_rfl) (by kernel_rfl) (fun _ _ _ h => h) (Or.inl ⟨by rfl, ?_⟩) (by assumption) ?_
      rotate_left
      · (intro w hSw; (try dsimp only at hSw); go_simp; (try with_reducible rfl))
      (try dsimp only [Act.put]); (try simp only [Act.put, List.setIfInBounds_toArray, List.set_cons_zero, List.set_cons_succ])
      refine wpAnyH_take (i := 1) (oi := _) (v := ?_) rfl (by kernel_rfl) (by kernel_rfl) (by kernel_rfl) (fun _ _ _ h => h) (Or.inl ⟨by rfl, ?_⟩) (by assumption) ?_
      rotate_left
      · (intro w hSw; (try dsimp only at hSw); go_simp; (try with_reducible rfl))
      (try dsimp only [Act.put]); (try simp only [Act.put, List.setIfInBounds_toArray, List.set_cons_zero, List.set_cons_succ])
      refine wpAnyH_take (i := 2) (oi := _) (v := ?_) rfl (by kernel_rfl) (by kernel_rfl) (by kernel_rfl) (fun _ _ _ h => h) (Or.inl ⟨by rfl, ?_⟩) (by assumption) ?_
      rotate_left
      · (intro w hSw; (try dsimp only at hSw); go_simp; (try with_reducible rfl))
      (try dsimp only [Act.put]); (try simp only [Act.put, List.setIfInBounds_toArray, List.set_cons_zero, List.set_cons_succ])
      refine wpAnyH_take (i := 3) (oi := _) (v := _) rfl (by kernel_rfl) (by kernel_rfl) (by kernel_rfl) (fun _ _ _ h => h) (yieldsIf_load_mid (by rfl) 59 (.tmp 19) rfl b1 (o1 + kk * 43) rfl cs1 _ rg1 Try.underlying59 rfl hi1) (by assumption) ?_
      (try dsimp only [Act.put]); (try simp only [Act.put, List.setIfInBounds_toArray, List.set_cons_zero, List.set_cons_succ])
      refine wpAnyH_take (i := 4) (oi := _) (v := ?_) rfl (by kernel_rfl) (by kernel_rfl) (by kernel_rfl) (fun _ _ _ h => h) (Or.inl ⟨by rfl, ?_⟩) (by assumption) ?_
      rotate_left
      · (intro w hSw; (try dsimp only at hSw); go_simp; (try with_reducible rfl))
      (try dsimp only [Act.put]); (try simp only [Act.put, List.setIfInBounds_toArray, List.set_cons_zero, List.set_cons_succ])
      refine wpAnyH_take (i := 5) (oi := _) (v := ?_) rfl (by kernel_rfl) (by kernel_rfl) (by kernel_rfl) (fun _ _ _ h => h) (Or.inl ⟨by rfl, ?_⟩) (by assumption) ?_
      rotate_left
      · (intro w hSw; (try dsimp only at hSw); go_simp; (try with_reducible rfl))
      (try dsimp only [Act.put]); (try simp only [Act.put, List.setIfInBounds_toArray, List.set_cons_zero, List.set_cons_succ])
      refine wpAnyH_take (i := 6) (oi := _) (v := ?_) rfl (by kernel_rfl) (by kernel_rfl) (by kernel_rfl) (fun _ _ _ h => h) (Or.inl ⟨by rfl, ?_⟩) (by assumption) ?_
      rotate_left
      · (intro w hSw; (try dsimp only at hSw); go_simp; (try with_reducible rfl))
      (try dsimp only [Act.put]); (try simp only [Act.put, List.setIfInBounds_toArray, List.set_cons_zero, List.set_cons_succ])
      refine wpAnyH_take (i := 7) (oi := _) (v := _) rfl (by kernel_rfl) (by kernel_rfl) (by kernel_rfl) (fun _ _ _ h => h) (yieldsIf_load_mid (by rfl) 59 (.tmp 23) rfl b2 (o2 + kk * 43) rfl cs2 _ rg2 Try.underlying59 rfl hi2) (by assumption) ?_
      (try dsimp only [Act.put]); (try simp only [Act.put, List.setIfInBounds_toArray, List.set_cons_zero, List.set_cons_succ])
      refine wpAnyH_ready (rs := [8]) (by kernel_rfl) (by decide) (AllReadyH.cons rfl (fun K' hK => ?_) AllReadyH.nil)
      rw [if_pos (by rfl)]
      go_simp
      refine (HS.out _ (by assumption)).mono ?_
      rintro e w' ⟨rfl, hb'⟩
      (try dsimp only)
      refine hK.out _ _ (by exact Below.trans (by assumption) (hb'.mono (Below.size (by assumption)))) (fun hHeld => ?_)
      clear hK
      (try dsimp only [Act.put]); (try simp only [Act.put, List.setIfInBounds_toArray, List.set_cons_zero, List.set_cons_succ])
      refine wpAnyH_take (i := 9) (oi := _) (v := ?_) rfl (by kernel_rfl) (by kernel_rfl) (by kernel_rfl) (fun _ _ _ h => h) (Or.inl ⟨by rfl, ?_⟩) (by assumption) ?_
      rotate_left
      · (intro w hSw; (try dsimp only at hSw); go_simp; (try with_reducible rfl))
      (try dsimp only [Act.put]); (try simp only [Act.put, List.setIfInBounds_toArray, List.set_cons_zero, List.set_cons_succ])
      refine wpAnyH_done (by kernel_rfl) ?_ _
      have hfin : Below w.heap.size w w' := B.out.trans (Below.mono (by assumption) B.out.size)
      clear hb'
      go_wp2
      go_roundg (xs.length - (kk + 1))
      case measure => omega
      case rel => exact ⟨kk + 1, by omega, by omega, by go_num, hfin⟩
    · have hltz : ¬ (kk : Int) < (xs.length : Int) := by omega
      go_wp2
      go_ret
      exact ⟨rfl, B.out⟩
end Go.Proofs.Ytpjachbmllklgaa.Rng
