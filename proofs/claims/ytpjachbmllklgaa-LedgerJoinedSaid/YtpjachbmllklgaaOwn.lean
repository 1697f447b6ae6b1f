/- The reference's Own: what is saved, in memory of its own. -/
import Derived.Test.YtpjachbmllklgaaLgC
import Derived.Test.YtpjachbmllklgaaPCoux4
import Derived.Deep.DeepCutAuto
namespace Go.Proofs.Ytpjachbmllklgaa.Rng
open Go.RowKit Go.Proofs.YtpjachbmllklgaaW.PrintWords Go.Proofs.Ytpjachbmllklgaa.Kinds Go.Proofs.Ytpjachbmllklgaa.PCou
set_option linter.unusedVariables false
set_option linter.unusedSimpArgs false
attribute [local go_sem] Oper.semAt_some
attribute [local go_sem] fold_zip

def z69 : Value := .agg (#[.int .i64 0] ++ Array.replicate 96 (.int .u8 0))
theorem info69 : (Try.prog.info? 69).map (fun i => (i.zero, i.size, i.bytes)) = some (some z69, 97, 104) := by kernel_rfl
theorem z69_size : z69.cells.size = 97 := rfl
theorem sgn_KM {w w1 : World} {base : Nat} {ok : Nat → Prop} {x : Sgn} {cs : List Value} (h : kSgn.K w x cs) : kSgn.M w1 base ok x cs := by
  obtain ⟨_, _, rfl, ⟨_, _, rfl, h1, _, _, rfl, h2, h3⟩, h4⟩ := h
  exact ⟨_, _, rfl, ⟨_, _, rfl, h1, _, _, rfl, h2, h3⟩, h4⟩
/-- A row of numbers beside entries that are appended to. -/
theorem R_beside {w' w1 : World} {b1 b2 : Nat} {ok ok2 : Nat → Prop} {V E : Value} {vs : List Int} {xs : List Ent} (hV : (Kd.int .i64).R 3 w' b1 ok V vs) (hE : kEnt.R 59 w' b2 ok2 E xs) (hg : w'.grownBy w1 E.ownBlock) : (Kd.int .i64).R 3 w1 b1 ok V vs := by
  cases h : E.ownBlock with
  | none => exact Kd.R_grown hV hg (fun k _ => by rw [h]; simp)
  | some p =>
    obtain ⟨inner, ho⟩ := Kd.R_own hE
    obtain ⟨cells, hc⟩ := own_typed ho p h
    refine Kd.R_mono (Kd.R_grown (Kd.R_types hV hc (fun q hq => ?_)) hg (fun k hk => ?_)) (fun k hk => hk.1)
    · have : q = 3 := by simpa [Kd.int, Kd.scalar] using hq
      omega
    · rw [h]
      intro e
      injection e with e
      exact hk.2 e

set_option maxHeartbeats 1000000 in
set_option maxRecDepth 100000 in
theorem own_cR (s : Sv) (x : Saved) (w : World) (hs : SK w s x) (b off : Nat) (css : List (List Value)) (hL : LX w s.A b off css x.2.2.2.1) (hsn : s.Gn ≤ 1000) (hvn : s.Vn ≤ 5000) (hln : s.Ln ≤ 5000) :
    Calls Try.prog 17 #[.agg s.cells] w fun e w' => ∃ s' : Sv, e = .returned (.agg s'.cells) ∧ SK w' s' x ∧ ((Kd.int .i64).R 3 w' w.heap.size (fun _ => True) (.slice s'.Va s'.Vn s'.Vc) x.2.2.1.2.2.1.1 ∧ (Kd.int .i64).R 3 w' w.heap.size (fun _ => True) (.slice s'.La s'.Ln s'.Lc) x.2.2.1.2.2.1.2 ∧ kEnt.R 59 w' w.heap.size (fun _ => True) (.slice s'.A s'.n s'.cap) x.2.2.2.1 ∧ kSgn.R 69 w' w.heap.size (fun _ => True) (.slice s'.Ga s'.Gn s'.Gc) x.2.2.2.2) ∧ Below w.heap.size w w' := by
  have e43 : ∀ args w, (callFunc 43 args).run Try.prog w = .ok (.enter 43 args) w := enters_of Try.func43 (by kernel_rfl) rfl
  have e44 : ∀ args w, (callFunc 44 args).run Try.prog w = .ok (.enter 44 args) w := enters_of Try.func44 (by kernel_rfl) rfl
  have hi30 : ∀ cells : Array Value, cells.size = 9 → (Try.prog.info? 30).map (·.size) = some cells.size := fun c hc => by rw [hc]; exact size30
  obtain ⟨x1, x2, ⟨x3, x4, ⟨vs, ls⟩, x5⟩, xs, gs⟩ := x
  obtain ⟨t, v, si, st, Va, Vn, Vc, La, Ln, Lc, d, A, n, cap, Ga, Gn, Gc⟩ := s
  obtain ⟨k1, k2, k3, k4, k5, k6, k7, k8, k9, k10, k11, k12, k13, k14, k15, k16, k17⟩ := hs
  dsimp only at *
  obtain rfl := k1
  obtain rfl := k2
  obtain rfl := k3
  obtain rfl := k4
  obtain rfl := k11
  unfold Sv.cells
  dsimp only
  have HL := Aside0.mk hL
  have H43 : Aside0 (∀ W, Below w.heap.size w W → Calls Try.prog 43 #[.agg #[.int .i64 si, .int .i64 st, .slice Va Vn Vc, .slice La Ln Lc, .string d]] W fun e w' => ∃ V L : Value, e = .returned (.agg #[.int .i64 si, .int .i64 st, V, L, .string d]) ∧ (Kd.int .i64).R 3 w' W.heap.size (fun _ => True) V vs ∧ (Kd.int .i64).R 3 w' W.heap.size (fun _ => True) L ls ∧ Below W.heap.size W w') :=
    ⟨fun W hW => by
      have hc1 := Kd.C_below k7 hW
      have hc2 := Kd.C_below k10 hW
      have := r08_OwnSnap.calls si st Va Vc vs La Lc ls d si st vs ls d W hc1 k6 hc2 k9 (by unfold r08_OwnSnap.f r08_OwnCouncil.f r08_numbers.f; rw [if_pos (by simp; omega), if_pos (by simp; omega)]; rfl)
      rw [← k5, ← k8] at this
      refine this.mono ?_
      rintro e w' ⟨V, L, rfl, hV, hL, hb⟩
      exact ⟨V, L, rfl, Kd.R_mono hV (fun _ _ => trivial), Kd.R_mono hL (fun _ _ => trivial), hb⟩⟩
  have K5 := Aside0.mk k5
  have K8 := Aside0.mk k8
  have K12 := Aside0.mk k12
  have K15 := Aside0.mk k15
  have K16 := Aside0.mk k16
  have K17 := Aside0.mk k17
  clear k5 k6 k7 k8 k9 k10 k12 k13 k14 k15 k16 k17 hL
  go_enter Try.func17, Try.ntmps17
  go_upto_region 1 with (fail)
  have q0 : Below w.heap.size w ((w.alloc (.cells #[.int .i64 t, .int .i64 v, .int .i64 si, .int .i64 st, .slice Va Vn Vc, .slice La Ln Lc, .string d, .slice A n cap, .slice Ga Gn Gc] 30)).alloc (.cells #[.int .i64 0, .int .i64 0, .int .i64 0, .int .i64 0, .slice none 0 0, .slice none 0 0, .string ⟨#[]⟩, .slice none 0 0, .slice none 0 0] 30)) := ((Below.refl _ w).alloc (Nat.le_refl _) _).alloc (by simp) _
  have hs0 : ((w.alloc (.cells #[.int .i64 t, .int .i64 v, .int .i64 si, .int .i64 st, .slice Va Vn Vc, .slice La Ln Lc, .string d, .slice A n cap, .slice Ga Gn Gc] 30)).alloc (.cells #[.int .i64 0, .int .i64 0, .int .i64 0, .int .i64 0, .slice none 0 0, .slice none 0 0, .string ⟨#[]⟩, .slice none 0 0, .slice none 0 0] 30)).heap.size = w.heap.size + 2 := by simp
  have bx0 := blk_alloc (blk_new w (.cells #[.int .i64 t, .int .i64 v, .int .i64 si, .int .i64 st, .slice Va Vn Vc, .slice La Ln Lc, .string d, .slice A n cap, .slice Ga Gn Gc] 30)) (.cells #[.int .i64 0, .int .i64 0, .int .i64 0, .int .i64 0, .slice none 0 0, .slice none 0 0, .string ⟨#[]⟩, .slice none 0 0, .slice none 0 0] 30)
  have rs0 := blk_new (w.alloc (.cells #[.int .i64 t, .int .i64 v, .int .i64 si, .int .i64 st, .slice Va Vn Vc, .slice La Ln Lc, .string d, .slice A n cap, .slice Ga Gn Gc] 30)) (.cells #[.int .i64 0, .int .i64 0, .int .i64 0, .int .i64 0, .slice none 0 0, .slice none 0 0, .string ⟨#[]⟩, .slice none 0 0, .slice none 0 0] 30)
  rw [World.size_alloc] at rs0
  generalize ((w.alloc (.cells #[.int .i64 t, .int .i64 v, .int .i64 si, .int .i64 st, .slice Va Vn Vc, .slice La Ln Lc, .string d, .slice A n cap, .slice Ga Gn Gc] 30)).alloc (.cells #[.int .i64 0, .int .i64 0, .int .i64 0, .int .i64 0, .slice none 0 0, .slice none 0 0, .string ⟨#[]⟩, .slice none 0 0, .slice none 0 0] 30)) = W0 at q0 hs0 bx0 rs0 ⊢
  go_cut [3] (fun s3 wx => ∃ (g : Nat) (V L : Value), s3 = .pointer (some ⟨g, 0, none⟩) ∧ Aside (Below W0.heap.size W0 wx) ∧ Aside (W0.heap.size ≤ g) ∧ Aside (wx.heap[g]? = some (.cells #[.int .i64 t, .int .i64 v, .int .i64 si, .int .i64 st, V, L, .string d, .slice none 0 0, .slice none 0 0] 30 (0, 0))) ∧ Aside ((Kd.int .i64).R 3 wx W0.heap.size (fun k => k ≠ g) V vs) ∧ Aside ((Kd.int .i64).R 3 wx W0.heap.size (fun k => k ≠ g) L ls))
  case first =>
    have f0 : ∀ W, Below W0.heap.size W0 W → W.cell? ⟨w.heap.size, 0, none⟩ = some (.int .i64 t) := fun W hW => by have := (hW.block _ (by omega)).trans bx0; simp [World.cell?, this]
    have f1 : ∀ W, Below W0.heap.size W0 W → W.cell? ⟨w.heap.size, 1, none⟩ = some (.int .i64 v) := fun W hW => by have := (hW.block _ (by omega)).trans bx0; simp [World.cell?, this]
    have f2 : ∀ W, Below W0.heap.size W0 W → W.rangeAt w.heap.size 2 [.int .i64 si, .int .i64 st, .slice Va Vn Vc, .slice La Ln Lc, .string d] := fun W hW => by
      have := (hW.block _ (by omega)).trans bx0
      intro j u hj
      have hj5 : j < 5 := (List.getElem?_eq_some_iff.1 hj).1
      simp only [World.cell?, this]
      rcases j with _ | _ | _ | _ | _ | j
      iterate 5 exact hj
      omega
    have hi26 : (Try.prog.info? 26).map (·.size) = some [Value.int .i64 si, .int .i64 st, .slice Va Vn Vc, .slice La Ln Lc, .string d].length := by kernel_rfl
    refine wp_region_held_drew (S := (fun W => Below W0.heap.size W0 W)) (by kernel_rfl) (by exact (Below.refl _ _).drew) (fun hHeld => ?_)
    refine wpAnyH_take (i := 0) (oi := _) (v := ?_) rfl (by kernel_rfl) (by kernel_rfl) (by kernel_rfl) (fun _ _ _ h => h) (Or.inl ⟨by rfl, ?_⟩) (by assumption) ?_
    rotate_left
    · (intro w hSw; (try dsimp only at hSw); go_simp; (try with_reducible rfl))
    (try simp only [Act.put, List.getElem_toArray, List.getElem_cons_zero, List.getElem_cons_succ, List.setIfInBounds_toArray, List.set_cons_zero, List.set_cons_succ])
    refine wpAnyH_take (i := 1) (oi := _) (v := ?_) rfl (by kernel_rfl) (by kernel_rfl) (by kernel_rfl) (fun _ _ _ h => h) (Or.inl ⟨by rfl, ?_⟩) (by assumption) ?_
    rotate_left
    · (intro w hSw; (try dsimp only at hSw); have c0 := f0 w hSw; go_simp; (try with_reducible rfl))
    (try simp only [Act.put, List.getElem_toArray, List.getElem_cons_zero, List.getElem_cons_succ, List.setIfInBounds_toArray, List.set_cons_zero, List.set_cons_succ])
    refine wpAnyH_take (i := 2) (oi := _) (v := ?_) rfl (by kernel_rfl) (by kernel_rfl) (by kernel_rfl) (fun _ _ _ h => h) (Or.inl ⟨by rfl, ?_⟩) (by assumption) ?_
    rotate_left
    · (intro w hSw; (try dsimp only at hSw); go_simp; (try with_reducible rfl))
    (try simp only [Act.put, List.getElem_toArray, List.getElem_cons_zero, List.getElem_cons_succ, List.setIfInBounds_toArray, List.set_cons_zero, List.set_cons_succ])
    refine wpAnyH_take (i := 3) (oi := _) (v := ?_) rfl (by kernel_rfl) (by kernel_rfl) (by kernel_rfl) (fun _ _ _ h => h) (Or.inl ⟨by rfl, ?_⟩) (by assumption) ?_
    rotate_left
    · (intro w hSw; (try dsimp only at hSw); have c0 := f1 w hSw; go_simp; (try with_reducible rfl))
    (try simp only [Act.put, List.getElem_toArray, List.getElem_cons_zero, List.getElem_cons_succ, List.setIfInBounds_toArray, List.set_cons_zero, List.set_cons_succ])
    refine wpAnyH_take (i := 4) (oi := _) (v := ?_) rfl (by kernel_rfl) (by kernel_rfl) (by kernel_rfl) (fun _ _ _ h => h) (Or.inl ⟨by rfl, ?_⟩) (by assumption) ?_
    rotate_left
    · (intro w hSw; (try dsimp only at hSw); go_simp; (try with_reducible rfl))
    (try simp only [Act.put, List.getElem_toArray, List.getElem_cons_zero, List.getElem_cons_succ, List.setIfInBounds_toArray, List.set_cons_zero, List.set_cons_succ])
    refine wpAnyH_take (i := 5) (oi := _) (v := _) rfl (by kernel_rfl) (by kernel_rfl) (by kernel_rfl) (fun _ _ _ h => h) (yieldsIf_load_mid (by rfl) 26 (.tmp 9) rfl w.heap.size 2 rfl _ _ f2 Try.underlying26 rfl hi26) (by assumption) ?_
    (try simp only [Act.put, List.getElem_toArray, List.getElem_cons_zero, List.getElem_cons_succ, List.setIfInBounds_toArray, List.set_cons_zero, List.set_cons_succ])
    refine wpAnyH_ready (rs := [6, 8]) (by kernel_rfl) (by decide) (AllReadyH.cons rfl (fun K' hK => ?_) (AllReadyH.cons rfl (fun K' hK => ?_) AllReadyH.nil))
    · rw [if_pos (by rfl)]
      go_simp
      refine (H43.out _ (q0.trans (Below.mono (by assumption) q0.size))).mono ?_
      rintro e w' ⟨V, L, rfl, hV, hL, hb'⟩
      obtain ⟨Av, cv, rfl⟩ := Kd.R_slice hV
      obtain ⟨Al, cl, rfl⟩ := Kd.R_slice hL
      (try dsimp only)
      have hbW : Below W0.heap.size W0 w' := Below.trans (by assumption) (hb'.mono (Below.size (by assumption)))
      refine hK.out _ _ (by exact hbW) (fun hHeld => ?_)
      clear hK
      (try simp only [Act.put, List.getElem_toArray, List.getElem_cons_zero, List.getElem_cons_succ, List.setIfInBounds_toArray, List.set_cons_zero, List.set_cons_succ])
      refine wpAnyH_take (i := 7) (oi := _) (v := ?_) rfl (by kernel_rfl) (by kernel_rfl) (by kernel_rfl) (fun _ _ _ h => h) (Or.inl ⟨by rfl, ?_⟩) (by assumption) ?_
      rotate_left
      · (intro w hSw; (try dsimp only at hSw); go_simp; (try with_reducible rfl))
      (try simp only [Act.put, List.getElem_toArray, List.getElem_cons_zero, List.getElem_cons_succ, List.setIfInBounds_toArray, List.set_cons_zero, List.set_cons_succ])
      refine wpAnyH_ready (rs := [8]) (by kernel_rfl) (by decide) (AllReadyH.cons rfl (fun K' hK => ?_) AllReadyH.nil)
      rw [if_pos (by rfl)]
      go_simp
      refine hK.out _ _ (by exact hbW.alloc hbW.size _) (fun hHeld => ?_)
      clear hK
      (try simp only [Act.put, List.getElem_toArray, List.getElem_cons_zero, List.getElem_cons_succ, List.setIfInBounds_toArray, List.set_cons_zero, List.set_cons_succ])
      refine wpAnyH_ready (rs := [9]) (by kernel_rfl) (by decide) (AllReadyH.cons rfl (fun K' hK => ?_) AllReadyH.nil)
      rw [if_pos (by rfl)]
      go_simp
      refine hK.out _ _ (by exact hbW.alloc hbW.size _) (fun hHeld => ?_)
      clear hK
      (try simp only [Act.put, List.getElem_toArray, List.getElem_cons_zero, List.getElem_cons_succ, List.setIfInBounds_toArray, List.set_cons_zero, List.set_cons_succ])
      refine wpAnyH_done (by kernel_rfl) ?_ _
      go_wp2_with fail
      go_meet
      refine ⟨w'.heap.size, _, _, rfl, hbW.alloc hbW.size _, hbW.size, blk_new _ _, ?_, ?_⟩
      · exact Kd.R_mono (Kd.R_below (Kd.R_lower (Kd.R_bound hV) (by simp)) ((Below.refl _ w').alloc (Nat.le_refl _) _)) (fun k hk => by have := hk.2.2.1; omega)
      · exact Kd.R_mono (Kd.R_below (Kd.R_lower (Kd.R_bound hL) (by simp)) ((Below.refl _ w').alloc (Nat.le_refl _) _)) (fun k hk => by have := hk.2.2.1; omega)
    · rw [if_pos (by rfl)]
      go_simp
      refine hK.out _ _ (by exact Below.alloc (by assumption) (Below.size (by assumption)) _) (fun hHeld => ?_)
      clear hK
      (try simp only [Act.put, List.getElem_toArray, List.getElem_cons_zero, List.getElem_cons_succ, List.setIfInBounds_toArray, List.set_cons_zero, List.set_cons_succ])
      refine wpAnyH_ready (rs := [6]) (by kernel_rfl) (by decide) (AllReadyH.cons rfl (fun K' hK => ?_) AllReadyH.nil)
      rw [if_pos (by rfl)]
      go_simp
      refine (H43.out _ (q0.trans (Below.mono (by assumption) q0.size))).mono ?_
      rintro e w' ⟨V, L, rfl, hV, hL, hb'⟩
      obtain ⟨Av, cv, rfl⟩ := Kd.R_slice hV
      obtain ⟨Al, cl, rfl⟩ := Kd.R_slice hL
      (try dsimp only)
      have hbW : Below W0.heap.size W0 w' := Below.trans (by assumption) (hb'.mono (Below.size (by assumption)))
      refine hK.out _ _ (by exact hbW) (fun hHeld => ?_)
      clear hK
      (try simp only [Act.put, List.getElem_toArray, List.getElem_cons_zero, List.getElem_cons_succ, List.setIfInBounds_toArray, List.set_cons_zero, List.set_cons_succ])
      refine wpAnyH_take (i := 7) (oi := _) (v := ?_) rfl (by kernel_rfl) (by kernel_rfl) (by kernel_rfl) (fun _ _ _ h => h) (Or.inl ⟨by rfl, ?_⟩) (by assumption) ?_
      rotate_left
      · (intro w hSw; (try dsimp only at hSw); go_simp; (try with_reducible rfl))
      (try simp only [Act.put, List.getElem_toArray, List.getElem_cons_zero, List.getElem_cons_succ, List.setIfInBounds_toArray, List.set_cons_zero, List.set_cons_succ])
      refine wpAnyH_ready (rs := [9]) (by kernel_rfl) (by decide) (AllReadyH.cons rfl (fun K' hK => ?_) AllReadyH.nil)
      rw [if_pos (by rfl)]
      have zw : w'.heap[w.heap.size + 2]? = some (.cells #[.int .i64 0, .int .i64 0, .int .i64 0, .int .i64 0, .slice none 0 0, .slice none 0 0, .string ⟨#[]⟩, .slice none 0 0, .slice none 0 0] 30 (0, 0)) := (hb'.block _ (by show w.heap.size + 2 < (W0.alloc _).heap.size; rw [World.size_alloc]; omega)).trans (by have h := blk_new W0 (.cells #[.int .i64 0, .int .i64 0, .int .i64 0, .int .i64 0, .slice none 0 0, .slice none 0 0, .string ⟨#[]⟩, .slice none 0 0, .slice none 0 0] 30); rw [hs0] at h; exact h)
      refine wp_store_row 30 (.tmp 3) (.tmp 12) rfl (w.heap.size + 2) _ rfl rfl 30 _ zw (hi30 _ rfl) rfl (by simp [Value.oneCell']) ?_
      refine hK.out _ _ (by exact below_setRow hbW _ (by omega) _) (fun hHeld => ?_)
      clear hK
      (try simp only [Act.put, List.getElem_toArray, List.getElem_cons_zero, List.getElem_cons_succ, List.setIfInBounds_toArray, List.set_cons_zero, List.set_cons_succ])
      refine wpAnyH_done (by kernel_rfl) ?_ _
      go_wp2_with fail
      go_meet
      have hg := setRow_heap w' (w.heap.size + 2) _ #[.int .i64 t, .int .i64 v, .int .i64 si, .int .i64 st, .slice Av vs.length cv, .slice Al ls.length cl, .string d, .slice none 0 0, .slice none 0 0] 30 (0, 0) zw
      refine ⟨w.heap.size + 2, _, _, rfl, below_setRow hbW _ (by omega) _, (show W0.heap.size ≤ w.heap.size + 2 by omega), hg, ?_, ?_⟩
      · refine Kd.R_mono (Kd.R_step (Kd.R_lower (Kd.R_bound hV) (by simp)) (fun k hk _ => setRow_other w' (w.heap.size + 2) k _ ?_)) (fun k hk => ?_)
        · have h3 := hk.2.1; rw [show ∀ Z, ((W0.alloc Z).drew).heap.size = W0.heap.size + 1 from fun Z => by show (W0.alloc Z).heap.size = _; rw [World.size_alloc]] at h3; show k ≠ w.heap.size + 2; omega
        · have h3 := hk.2.1; rw [show ∀ Z, ((W0.alloc Z).drew).heap.size = W0.heap.size + 1 from fun Z => by show (W0.alloc Z).heap.size = _; rw [World.size_alloc]] at h3; show k ≠ w.heap.size + 2; omega
      · refine Kd.R_mono (Kd.R_step (Kd.R_lower (Kd.R_bound hL) (by simp)) (fun k hk _ => setRow_other w' (w.heap.size + 2) k _ ?_)) (fun k hk => ?_)
        · have h3 := hk.2.1; rw [show ∀ Z, ((W0.alloc Z).drew).heap.size = W0.heap.size + 1 from fun Z => by show (W0.alloc Z).heap.size = _; rw [World.size_alloc]] at h3; show k ≠ w.heap.size + 2; omega
        · have h3 := hk.2.1; rw [show ∀ Z, ((W0.alloc Z).drew).heap.size = W0.heap.size + 1 from fun Z => by show (W0.alloc Z).heap.size = _; rw [World.size_alloc]] at h3; show k ≠ w.heap.size + 2; omega
  case rest =>
    obtain ⟨g, V, L, rfl, B, hg, K, RV, RL⟩ := hcut
    have HG := hg.out
    have hn6 : n ≤ 1000000 := by have := HL.out.small; have := HL.out.len; have := K12.out; omega
    go_wp2_with fail
    go_loopg [4] n (fun gg s4 wr => ∃ kk : Nat, kk ≤ n ∧ n - kk ≤ gg ∧ s4 = .int .i64 kk ∧ Aside (Below W0.heap.size W0 wr) ∧ ∃ E, Aside (wr.heap[g]? = some (.cells #[.int .i64 t, .int .i64 v, .int .i64 si, .int .i64 st, V, L, .string d, E, .slice none 0 0] 30 (0, 0))) ∧ Aside ((Kd.int .i64).R 3 wr W0.heap.size (fun k => k ≠ g) V vs) ∧ Aside ((Kd.int .i64).R 3 wr W0.heap.size (fun k => k ≠ g) L ls) ∧ Aside (kEnt.R 59 wr W0.heap.size (fun k => k ≠ g) E (xs.take kk)))
    case atStart => exact ⟨0, by omega, by omega, rfl, B, _, K, RV, RL, Kd.R_nil _ _ _ _ _⟩
    clear B K RV RL
    case round =>
      obtain ⟨kk, hk, hgg, rfl, B, E, K, RV, RL, RE⟩ := hrel
      have f7 : ∀ W, Below W0.heap.size W0 W → W.cell? ⟨w.heap.size, 7, none⟩ = some (.slice A n cap) := fun W hW => by have := (hW.block _ (by omega)).trans bx0; simp [World.cell?, this]
      have hgl : g < wr.heap.size := (Array.getElem?_eq_some_iff.1 K.out).1
      have c7 := f7 wr B.out
      by_cases hlt : kk < n
      · have hltz : (kk : Int) < (n : Int) := by omega
        have hln := HL.out.len
        have hk1 : kk < css.length := by rw [hln, ← K12.out]; exact hlt
        obtain rfl := HL.out.A (by omega)
        have hL0 := HL.out.below q0
        have rg : ∀ W, Below W0.heap.size W0 W → W.rangeAt b (off + kk * 43) css[kk]! := fun W hW => (hL0.below hW).row kk hk1
        have HB : Aside0 (∀ W, Below W0.heap.size W0 W → Calls Try.prog 44 #[.agg css[kk]!.toArray] W fun e w' => ∃ cs', e = .returned (.agg cs'.toArray) ∧ kEnt.M w' W.heap.size (fun _ => True) xs[kk]! cs' ∧ Below W.heap.size W w') :=
          ⟨fun W hW => ownEntry_c xs[kk]! css[kk]! W ((hL0.below hW).K kk hk1) (hL0.cou _ (hL0.mem kk hk1)).1 (hL0.cou _ (hL0.mem kk hk1)).2⟩
        have hi59 : (Try.prog.info? 59).map (·.size) = some css[kk]!.length := by rw [(hL0.isE kk hk1).1.len]; exact size59
        have htk : xs.take (kk + 1) = xs.take kk ++ [xs[kk]!] := by
          rw [List.take_add_one, List.getElem?_eq_getElem (by omega), getElem!_pos xs kk (by omega)]
          rfl
        have hlen : (xs.take kk).length ≤ 1000000 := by have := HL.out.small; rw [List.length_take]; omega
        have TK := Aside0.mk htk
        have cE : wr.cell? ⟨g, 7, none⟩ = some E := by simp [World.cell?, K.out]
        have hvb : ∀ k, E.ownBlock = some k → k < wr.heap.size := fun k hk => by
          obtain ⟨inner, ho⟩ := Kd.R_own RE.out
          exact own_lt ho k hk
        have HVB := Aside0.mk hvb
        clear hL0 htk hvb hk1 hln
        generalize css[kk]! = cs at *
        generalize xs[kk]! = xk at *
        go_wp2_with fail
        refine wp_region_held_drew (S := (fun W => Below W0.heap.size W0 W)) (by kernel_rfl) (by exact B.out.drew) (fun hHeld => ?_)
        refine wpAnyH_take (i := 0) (oi := _) (v := ?_) rfl (by kernel_rfl) (by kernel_rfl) (by kernel_rfl) (fun _ _ _ h => h) (Or.inl ⟨by rfl, ?_⟩) (by assumption) ?_
        rotate_left
        · (intro w hSw; (try dsimp only at hSw); go_simp; (try with_reducible rfl))
        (try simp only [Act.put, List.getElem_toArray, List.getElem_cons_zero, List.getElem_cons_succ, List.setIfInBounds_toArray, List.set_cons_zero, List.set_cons_succ])
        refine wpAnyH_take (i := 2) (oi := _) (v := ?_) rfl (by kernel_rfl) (by kernel_rfl) (by kernel_rfl) (fun _ _ _ h => h) (Or.inl ⟨by rfl, ?_⟩) (by assumption) ?_
        rotate_left
        · (intro w hSw; (try dsimp only at hSw); go_simp; (try with_reducible rfl))
        (try simp only [Act.put, List.getElem_toArray, List.getElem_cons_zero, List.getElem_cons_succ, List.setIfInBounds_toArray, List.set_cons_zero, List.set_cons_succ])
        refine wpAnyH_take (i := 3) (oi := _) (v := ?_) rfl (by kernel_rfl) (by kernel_rfl) (by kernel_rfl) (fun _ _ _ h => h) (Or.inl ⟨by rfl, ?_⟩) (by assumption) ?_
        rotate_left
        · (intro w hSw; (try dsimp only at hSw); have c0 := f7 w hSw; go_simp; (try with_reducible rfl))
        (try simp only [Act.put, List.getElem_toArray, List.getElem_cons_zero, List.getElem_cons_succ, List.setIfInBounds_toArray, List.set_cons_zero, List.set_cons_succ])
        refine wpAnyH_take (i := 4) (oi := _) (v := ?_) rfl (by kernel_rfl) (by kernel_rfl) (by kernel_rfl) (fun _ _ _ h => h) (Or.inl ⟨by rfl, ?_⟩) (by assumption) ?_
        rotate_left
        · (intro w hSw; (try dsimp only at hSw); go_simp; (try with_reducible rfl))
        (try simp only [Act.put, List.getElem_toArray, List.getElem_cons_zero, List.getElem_cons_succ, List.setIfInBounds_toArray, List.set_cons_zero, List.set_cons_succ])
        refine wpAnyH_take (i := 5) (oi := _) (v := ?_) rfl (by kernel_rfl) (by kernel_rfl) (by kernel_rfl) (fun _ _ _ h => h) (Or.inl ⟨by rfl, ?_⟩) (by assumption) ?_
        rotate_left
        · (intro w hSw; (try dsimp only at hSw); go_simp; (try with_reducible rfl))
        (try simp only [Act.put, List.getElem_toArray, List.getElem_cons_zero, List.getElem_cons_succ, List.setIfInBounds_toArray, List.set_cons_zero, List.set_cons_succ])
        refine wpAnyH_take (i := 6) (oi := _) (v := _) rfl (by kernel_rfl) (by kernel_rfl) (by kernel_rfl) (fun _ _ _ h => h) (yieldsIf_load_mid (by rfl) 59 (.tmp 25) rfl b (off + kk * 43) rfl cs _ rg Try.underlying59 rfl hi59) (by assumption) ?_
        (try simp only [Act.put, List.getElem_toArray, List.getElem_cons_zero, List.getElem_cons_succ, List.setIfInBounds_toArray, List.set_cons_zero, List.set_cons_succ])
        refine wpAnyH_ready (rs := [1, 7]) (by kernel_rfl) (by decide) (AllReadyH.cons rfl (fun K' hK => ?_) (AllReadyH.cons rfl (fun K' hK => ?_) AllReadyH.nil))
        · rw [if_pos (by rfl)]
          have cEw := cE
          go_simp
          refine hK.out _ _ (by assumption) (fun hHeld => ?_)
          clear hK
          (try simp only [Act.put, List.getElem_toArray, List.getElem_cons_zero, List.getElem_cons_succ, List.setIfInBounds_toArray, List.set_cons_zero, List.set_cons_succ])
          refine wpAnyH_ready (rs := [7]) (by kernel_rfl) (by decide) (AllReadyH.cons rfl (fun K' hK => ?_) AllReadyH.nil)
          rw [if_pos (by rfl)]
          go_simp
          refine (HB.out _ (by assumption)).mono ?_
          rintro e w' ⟨cs', rfl, hM, hb'⟩
          have hb2 : Below wr.heap.size wr w' := (Below.refl wr.heap.size wr).drew.trans (hb'.mono (Nat.le_refl _))
          have hcl : cs'.length = 43 := kEnt.K_len (kEnt.K_of_M hM)
          have hM2 : kEnt.M w' wr.heap.size (fun _ => True) xk cs' := hM
          have hbW : Below W0.heap.size W0 w' := B.out.trans (hb2.mono B.out.size)
          have cE' : w'.cell? ⟨g, 7, none⟩ = some E := by have := (hb2.block g hgl).trans K.out; simp [World.cell?, this]
          (try dsimp only)
          refine hK.out _ _ (by exact hbW) (fun hHeld => ?_)
          clear hK hM hb'
          (try simp only [Act.put, List.getElem_toArray, List.getElem_cons_zero, List.getElem_cons_succ, List.setIfInBounds_toArray, List.set_cons_zero, List.set_cons_succ])
          refine wpAnyH_ready (rs := [8]) (by kernel_rfl) (by decide) (AllReadyH.cons rfl (fun K' hK => ?_) AllReadyH.nil)
          rw [if_pos (by rfl)]
          go_simp
          refine hK.out _ _ (by exact hbW.alloc hbW.size _) (fun hHeld => ?_)
          clear hK
          (try simp only [Act.put, List.getElem_toArray, List.getElem_cons_zero, List.getElem_cons_succ, List.setIfInBounds_toArray, List.set_cons_zero, List.set_cons_succ])
          refine wpAnyH_ready (rs := [9]) (by kernel_rfl) (by decide) (AllReadyH.cons rfl (fun K' hK => ?_) AllReadyH.nil)
          refine Kd.R_append_step kEnt (w0 := W0) W0.heap.size rfl (.tmp 21) (.tmp 28) 27 59 z59 168 rfl Try.underlying27 info59 z59_size (by decide) (by omega) E (xs.take kk) xk cs' (fun k => k ≠ g) (fun k => wr.heap.size ≤ k) rfl rfl (kEnt.M_lower (by omega) (kEnt.M_mono (ok' := fun k => wr.heap.size ≤ k) (fun k hk => by have := hk.2.1; omega) (kEnt.M_bound hM2))) (fun k hk => ⟨by omega, fun e => by have := HVB.out k e.symm; omega⟩) (fun k hk => by have := hb2.size; omega) (Kd.R_below RE.out hb2) hbW hbW.size (by omega) ?_
          intro v1 w1 ho hb hgr hat
          rw [← TK.out] at ho
          obtain ⟨A1, cp1, hv1⟩ := Kd.R_slice ho
          obtain ⟨nl, hnl⟩ : ∃ m, (xs.take (kk + 1)).length = m := ⟨_, rfl⟩
          rw [hnl] at hv1
          subst hv1
          have hg1 : w1.heap[g]? = w'.heap[g]? := hgr.block _ (Nat.lt_of_lt_of_le hgl hb2.size) (fun e => RE.out.1 _ e.symm rfl)
          have K1 : w1.heap[g]? = some (.cells #[.int .i64 t, .int .i64 v, .int .i64 si, .int .i64 st, V, L, .string d, E, .slice none 0 0] 30 (0, 0)) := hg1.trans ((hb2.block g hgl).trans K.out)
          have cE1 : w1.cell? ⟨g, 7, none⟩ = some E := by simp [World.cell?, K1]
          have fE1 : w1.frozen? ⟨g, 7, none⟩ = false := by simp [World.frozen?, K1]
          have hokE : ∀ k, k ≠ g → some k ≠ E.ownBlock → True := fun _ _ _ => trivial
          have RV1 : Aside0 ((Kd.int .i64).R 3 w1 W0.heap.size (fun k => k ≠ g) V vs) := ⟨R_beside (Kd.R_below RV.out hb2) (Kd.R_below RE.out hb2) hgr⟩
          have RL1 : Aside0 ((Kd.int .i64).R 3 w1 W0.heap.size (fun k => k ≠ g) L ls) := ⟨R_beside (Kd.R_below RL.out hb2) (Kd.R_below RE.out hb2) hgr⟩
          have HO := Aside0.mk ho
          have KK1 := Aside0.mk K1
          refine hK.out _ _ (by exact hb) (fun hHeld => ?_)
          clear hK ho hgr hat hg1 K1
          (try simp only [Act.put, List.getElem_toArray, List.getElem_cons_zero, List.getElem_cons_succ, List.setIfInBounds_toArray, List.set_cons_zero, List.set_cons_succ])
          refine wpAnyH_take (i := 10) (oi := _) (v := ?_) rfl (by kernel_rfl) (by kernel_rfl) (by kernel_rfl) (fun _ _ _ h => h) (Or.inl ⟨by rfl, ?_⟩) (by assumption) ?_
          rotate_left
          · (intro w hSw; (try dsimp only at hSw); go_simp; (try with_reducible rfl))
          (try simp only [Act.put, List.getElem_toArray, List.getElem_cons_zero, List.getElem_cons_succ, List.setIfInBounds_toArray, List.set_cons_zero, List.set_cons_succ])
          refine wpAnyH_ready (rs := [11]) (by kernel_rfl) (by decide) (AllReadyH.cons rfl (fun K' hK => ?_) AllReadyH.nil)
          rw [if_pos (by rfl)]
          go_simp
          refine hK.out _ _ (by exact hb.setCell (p := ⟨g, 7, none⟩) HG _) (fun hHeld => ?_)
          clear hK
          (try simp only [Act.put, List.getElem_toArray, List.getElem_cons_zero, List.getElem_cons_succ, List.setIfInBounds_toArray, List.set_cons_zero, List.set_cons_succ])
          refine wpAnyH_done (by kernel_rfl) ?_ _
          have hfin := Aside0.mk (hb.setCell (p := ⟨g, 7, none⟩) HG (.slice A1 nl cp1))
          clear hb cE1 fE1 hHeld
          go_wp2_with fail
          go_roundg (n - (kk + 1))
          case measure => omega
          case rel =>
            refine ⟨kk + 1, by omega, by omega, by go_num, hfin.out, .slice A1 nl cp1, (show Aside _ from ?_), (show Aside _ from ?_), (show Aside _ from ?_), (show Aside _ from ?_)⟩
            · show (w1.setCell ⟨g, 7, none⟩ (.slice A1 nl cp1)).heap[g]? = _
              simp [World.setCell, Array.getElem?_modify, KK1.out]
            · exact Kd.R_far (p := ⟨g, 7, none⟩) RV1.out (fun k hk => hk) _
            · exact Kd.R_far (p := ⟨g, 7, none⟩) RL1.out (fun k hk => hk) _
            · exact Kd.R_far (p := ⟨g, 7, none⟩) HO.out (fun k hk => hk) _
        · rw [if_pos (by rfl)]
          go_simp
          refine (HB.out _ (by assumption)).mono ?_
          rintro e w' ⟨cs', rfl, hM, hb'⟩
          have hb2 : Below wr.heap.size wr w' := (Below.refl wr.heap.size wr).drew.trans (hb'.mono (Nat.le_refl _))
          have hcl : cs'.length = 43 := kEnt.K_len (kEnt.K_of_M hM)
          have hM2 : kEnt.M w' wr.heap.size (fun _ => True) xk cs' := hM
          have hbW : Below W0.heap.size W0 w' := B.out.trans (hb2.mono B.out.size)
          have cE' : w'.cell? ⟨g, 7, none⟩ = some E := by have := (hb2.block g hgl).trans K.out; simp [World.cell?, this]
          (try dsimp only)
          refine hK.out _ _ (by exact hbW) (fun hHeld => ?_)
          clear hK hM hb'
          (try simp only [Act.put, List.getElem_toArray, List.getElem_cons_zero, List.getElem_cons_succ, List.setIfInBounds_toArray, List.set_cons_zero, List.set_cons_succ])
          refine wpAnyH_ready (rs := [1, 8]) (by kernel_rfl) (by decide) (AllReadyH.cons rfl (fun K' hK => ?_) (AllReadyH.cons rfl (fun K' hK => ?_) AllReadyH.nil))
          · rw [if_pos (by rfl)]
            have cEw := cE'
            go_simp
            refine hK.out _ _ (by assumption) (fun hHeld => ?_)
            clear hK
            (try simp only [Act.put, List.getElem_toArray, List.getElem_cons_zero, List.getElem_cons_succ, List.setIfInBounds_toArray, List.set_cons_zero, List.set_cons_succ])
            refine wpAnyH_ready (rs := [8]) (by kernel_rfl) (by decide) (AllReadyH.cons rfl (fun K' hK => ?_) AllReadyH.nil)
            rw [if_pos (by rfl)]
            go_simp
            refine hK.out _ _ (by exact hbW.alloc hbW.size _) (fun hHeld => ?_)
            clear hK
            (try simp only [Act.put, List.getElem_toArray, List.getElem_cons_zero, List.getElem_cons_succ, List.setIfInBounds_toArray, List.set_cons_zero, List.set_cons_succ])
            refine wpAnyH_ready (rs := [9]) (by kernel_rfl) (by decide) (AllReadyH.cons rfl (fun K' hK => ?_) AllReadyH.nil)
            refine Kd.R_append_step kEnt (w0 := W0) W0.heap.size rfl (.tmp 21) (.tmp 28) 27 59 z59 168 rfl Try.underlying27 info59 z59_size (by decide) (by omega) E (xs.take kk) xk cs' (fun k => k ≠ g) (fun k => wr.heap.size ≤ k) rfl rfl (kEnt.M_lower (by omega) (kEnt.M_mono (ok' := fun k => wr.heap.size ≤ k) (fun k hk => by have := hk.2.1; omega) (kEnt.M_bound hM2))) (fun k hk => ⟨by omega, fun e => by have := HVB.out k e.symm; omega⟩) (fun k hk => by have := hb2.size; omega) (Kd.R_below RE.out hb2) hbW hbW.size (by omega) ?_
            intro v1 w1 ho hb hgr hat
            rw [← TK.out] at ho
            obtain ⟨A1, cp1, hv1⟩ := Kd.R_slice ho
            obtain ⟨nl, hnl⟩ : ∃ m, (xs.take (kk + 1)).length = m := ⟨_, rfl⟩
            rw [hnl] at hv1
            subst hv1
            have hg1 : w1.heap[g]? = w'.heap[g]? := hgr.block _ (Nat.lt_of_lt_of_le hgl hb2.size) (fun e => RE.out.1 _ e.symm rfl)
            have K1 : w1.heap[g]? = some (.cells #[.int .i64 t, .int .i64 v, .int .i64 si, .int .i64 st, V, L, .string d, E, .slice none 0 0] 30 (0, 0)) := hg1.trans ((hb2.block g hgl).trans K.out)
            have cE1 : w1.cell? ⟨g, 7, none⟩ = some E := by simp [World.cell?, K1]
            have fE1 : w1.frozen? ⟨g, 7, none⟩ = false := by simp [World.frozen?, K1]
            have hokE : ∀ k, k ≠ g → some k ≠ E.ownBlock → True := fun _ _ _ => trivial
            have RV1 : Aside0 ((Kd.int .i64).R 3 w1 W0.heap.size (fun k => k ≠ g) V vs) := ⟨R_beside (Kd.R_below RV.out hb2) (Kd.R_below RE.out hb2) hgr⟩
            have RL1 : Aside0 ((Kd.int .i64).R 3 w1 W0.heap.size (fun k => k ≠ g) L ls) := ⟨R_beside (Kd.R_below RL.out hb2) (Kd.R_below RE.out hb2) hgr⟩
            have HO := Aside0.mk ho
            have KK1 := Aside0.mk K1
            refine hK.out _ _ (by exact hb) (fun hHeld => ?_)
            clear hK ho hgr hat hg1 K1
            (try simp only [Act.put, List.getElem_toArray, List.getElem_cons_zero, List.getElem_cons_succ, List.setIfInBounds_toArray, List.set_cons_zero, List.set_cons_succ])
            refine wpAnyH_take (i := 10) (oi := _) (v := ?_) rfl (by kernel_rfl) (by kernel_rfl) (by kernel_rfl) (fun _ _ _ h => h) (Or.inl ⟨by rfl, ?_⟩) (by assumption) ?_
            rotate_left
            · (intro w hSw; (try dsimp only at hSw); go_simp; (try with_reducible rfl))
            (try simp only [Act.put, List.getElem_toArray, List.getElem_cons_zero, List.getElem_cons_succ, List.setIfInBounds_toArray, List.set_cons_zero, List.set_cons_succ])
            refine wpAnyH_ready (rs := [11]) (by kernel_rfl) (by decide) (AllReadyH.cons rfl (fun K' hK => ?_) AllReadyH.nil)
            rw [if_pos (by rfl)]
            go_simp
            refine hK.out _ _ (by exact hb.setCell (p := ⟨g, 7, none⟩) HG _) (fun hHeld => ?_)
            clear hK
            (try simp only [Act.put, List.getElem_toArray, List.getElem_cons_zero, List.getElem_cons_succ, List.setIfInBounds_toArray, List.set_cons_zero, List.set_cons_succ])
            refine wpAnyH_done (by kernel_rfl) ?_ _
            have hfin := Aside0.mk (hb.setCell (p := ⟨g, 7, none⟩) HG (.slice A1 nl cp1))
            clear hb cE1 fE1 hHeld
            go_wp2_with fail
            go_roundg (n - (kk + 1))
            case measure => omega
            case rel =>
              refine ⟨kk + 1, by omega, by omega, by go_num, hfin.out, .slice A1 nl cp1, (show Aside _ from ?_), (show Aside _ from ?_), (show Aside _ from ?_), (show Aside _ from ?_)⟩
              · show (w1.setCell ⟨g, 7, none⟩ (.slice A1 nl cp1)).heap[g]? = _
                simp [World.setCell, Array.getElem?_modify, KK1.out]
              · exact Kd.R_far (p := ⟨g, 7, none⟩) RV1.out (fun k hk => hk) _
              · exact Kd.R_far (p := ⟨g, 7, none⟩) RL1.out (fun k hk => hk) _
              · exact Kd.R_far (p := ⟨g, 7, none⟩) HO.out (fun k hk => hk) _
          · rw [if_pos (by rfl)]
            go_simp
            refine hK.out _ _ (by exact hbW.alloc hbW.size _) (fun hHeld => ?_)
            clear hK
            (try simp only [Act.put, List.getElem_toArray, List.getElem_cons_zero, List.getElem_cons_succ, List.setIfInBounds_toArray, List.set_cons_zero, List.set_cons_succ])
            refine wpAnyH_ready (rs := [1]) (by kernel_rfl) (by decide) (AllReadyH.cons rfl (fun K' hK => ?_) AllReadyH.nil)
            rw [if_pos (by rfl)]
            have cEw := (World.cell?_alloc_some w' ⟨g, 7, none⟩ (.cells cs'.toArray 59) (by rw [cE']; rfl)).trans cE'
            go_simp
            refine hK.out _ _ (by assumption) (fun hHeld => ?_)
            clear hK
            (try simp only [Act.put, List.getElem_toArray, List.getElem_cons_zero, List.getElem_cons_succ, List.setIfInBounds_toArray, List.set_cons_zero, List.set_cons_succ])
            refine wpAnyH_ready (rs := [9]) (by kernel_rfl) (by decide) (AllReadyH.cons rfl (fun K' hK => ?_) AllReadyH.nil)
            refine Kd.R_append_step kEnt (w0 := W0) W0.heap.size rfl (.tmp 21) (.tmp 28) 27 59 z59 168 rfl Try.underlying27 info59 z59_size (by decide) (by omega) E (xs.take kk) xk cs' (fun k => k ≠ g) (fun k => wr.heap.size ≤ k) rfl rfl (kEnt.M_lower (by omega) (kEnt.M_mono (ok' := fun k => wr.heap.size ≤ k) (fun k hk => by have := hk.2.1; omega) (kEnt.M_bound hM2))) (fun k hk => ⟨by omega, fun e => by have := HVB.out k e.symm; omega⟩) (fun k hk => by have := hb2.size; omega) (Kd.R_below RE.out hb2) hbW hbW.size (by omega) ?_
            intro v1 w1 ho hb hgr hat
            rw [← TK.out] at ho
            obtain ⟨A1, cp1, hv1⟩ := Kd.R_slice ho
            obtain ⟨nl, hnl⟩ : ∃ m, (xs.take (kk + 1)).length = m := ⟨_, rfl⟩
            rw [hnl] at hv1
            subst hv1
            have hg1 : w1.heap[g]? = w'.heap[g]? := hgr.block _ (Nat.lt_of_lt_of_le hgl hb2.size) (fun e => RE.out.1 _ e.symm rfl)
            have K1 : w1.heap[g]? = some (.cells #[.int .i64 t, .int .i64 v, .int .i64 si, .int .i64 st, V, L, .string d, E, .slice none 0 0] 30 (0, 0)) := hg1.trans ((hb2.block g hgl).trans K.out)
            have cE1 : w1.cell? ⟨g, 7, none⟩ = some E := by simp [World.cell?, K1]
            have fE1 : w1.frozen? ⟨g, 7, none⟩ = false := by simp [World.frozen?, K1]
            have hokE : ∀ k, k ≠ g → some k ≠ E.ownBlock → True := fun _ _ _ => trivial
            have RV1 : Aside0 ((Kd.int .i64).R 3 w1 W0.heap.size (fun k => k ≠ g) V vs) := ⟨R_beside (Kd.R_below RV.out hb2) (Kd.R_below RE.out hb2) hgr⟩
            have RL1 : Aside0 ((Kd.int .i64).R 3 w1 W0.heap.size (fun k => k ≠ g) L ls) := ⟨R_beside (Kd.R_below RL.out hb2) (Kd.R_below RE.out hb2) hgr⟩
            have HO := Aside0.mk ho
            have KK1 := Aside0.mk K1
            refine hK.out _ _ (by exact hb) (fun hHeld => ?_)
            clear hK ho hgr hat hg1 K1
            (try simp only [Act.put, List.getElem_toArray, List.getElem_cons_zero, List.getElem_cons_succ, List.setIfInBounds_toArray, List.set_cons_zero, List.set_cons_succ])
            refine wpAnyH_take (i := 10) (oi := _) (v := ?_) rfl (by kernel_rfl) (by kernel_rfl) (by kernel_rfl) (fun _ _ _ h => h) (Or.inl ⟨by rfl, ?_⟩) (by assumption) ?_
            rotate_left
            · (intro w hSw; (try dsimp only at hSw); go_simp; (try with_reducible rfl))
            (try simp only [Act.put, List.getElem_toArray, List.getElem_cons_zero, List.getElem_cons_succ, List.setIfInBounds_toArray, List.set_cons_zero, List.set_cons_succ])
            refine wpAnyH_ready (rs := [11]) (by kernel_rfl) (by decide) (AllReadyH.cons rfl (fun K' hK => ?_) AllReadyH.nil)
            rw [if_pos (by rfl)]
            go_simp
            refine hK.out _ _ (by exact hb.setCell (p := ⟨g, 7, none⟩) HG _) (fun hHeld => ?_)
            clear hK
            (try simp only [Act.put, List.getElem_toArray, List.getElem_cons_zero, List.getElem_cons_succ, List.setIfInBounds_toArray, List.set_cons_zero, List.set_cons_succ])
            refine wpAnyH_done (by kernel_rfl) ?_ _
            have hfin := Aside0.mk (hb.setCell (p := ⟨g, 7, none⟩) HG (.slice A1 nl cp1))
            clear hb cE1 fE1 hHeld
            go_wp2_with fail
            go_roundg (n - (kk + 1))
            case measure => omega
            case rel =>
              refine ⟨kk + 1, by omega, by omega, by go_num, hfin.out, .slice A1 nl cp1, (show Aside _ from ?_), (show Aside _ from ?_), (show Aside _ from ?_), (show Aside _ from ?_)⟩
              · show (w1.setCell ⟨g, 7, none⟩ (.slice A1 nl cp1)).heap[g]? = _
                simp [World.setCell, Array.getElem?_modify, KK1.out]
              · exact Kd.R_far (p := ⟨g, 7, none⟩) RV1.out (fun k hk => hk) _
              · exact Kd.R_far (p := ⟨g, 7, none⟩) RL1.out (fun k hk => hk) _
              · exact Kd.R_far (p := ⟨g, 7, none⟩) HO.out (fun k hk => hk) _
      · have hltz : ¬ (kk : Int) < (n : Int) := by omega
        obtain rfl : kk = n := by omega
        have hxt : xs.take kk = xs := List.take_of_length_le (by rw [K12.out]; exact Nat.le_refl _)
        rw [hxt] at RE
        have c8 : wr.cell? ⟨w.heap.size, 8, none⟩ = some (.slice Ga Gn Gc) := by have := (B.out.block _ (by omega)).trans bx0; simp [World.cell?, this]
        have cG : wr.cell? ⟨g, 8, none⟩ = some (.slice none 0 0) := by simp [World.cell?, K.out]
        have HS : Aside0 (ReadsRow (kSgn.K wr) 97 wr Ga Gn gs) := ⟨by
          have h := Kd.C_below K17.out (q0.trans (B.out.mono q0.size))
          rw [← K15.out] at h
          exact h⟩
        go_wp2_with (at_builtin; refine Kd.R_append_rows kSgn (w0 := W0) W0.heap.size rfl (.tmp 32) (.tmp 34) 28 69 z69 104 rfl Try.underlying28 info69 z69_size (by decide) (by omega) (.slice none 0 0) ([] : List Sgn) gs Ga Gn Gc (fun k => k ≠ g) (fun _ => False) rfl rfl (Kd.R_nil _ _ _ _ _) HS.out (fun _ _ h => sgn_KM h) (fun _ h => h.elim) (fun k hk => by omega) B.out B.out.size ?aL ?_)
        case aL => omega
        intro v1 w1 ho hb hgr hat
        have RG : Aside0 (kSgn.R 69 w1 W0.heap.size (fun k => k ≠ g) v1 gs) := ⟨by rw [hs0]; exact ho⟩
        have hnn : ∀ k : Nat, some k ≠ (Value.slice none 0 0).ownBlock := fun k e => by cases e
        have K1 : w1.heap[g]? = some (.cells #[.int .i64 t, .int .i64 v, .int .i64 si, .int .i64 st, V, L, .string d, E, .slice none 0 0] 30 (0, 0)) := (hgr.block _ hgl (hnn g)).trans K.out
        have RV1 := Kd.R_grown RV.out hgr (fun k _ => hnn k)
        have RL1 := Kd.R_grown RL.out hgr (fun k _ => hnn k)
        have RE1 := Kd.R_grown RE.out hgr (fun k _ => hnn k)
        obtain ⟨Av, cv, eV⟩ := Kd.R_slice RV1
        obtain ⟨Al, cl, eL⟩ := Kd.R_slice RL1
        obtain ⟨Ae, ce, eE⟩ := Kd.R_slice RE1
        obtain ⟨Ag, cg, eG⟩ := Kd.R_slice RG.out
        have rs1 := ((show Below W0.heap.size W0 w1 by rw [hs0]; exact hb).block (w.heap.size + 1) (by omega)).trans rs0
        have hb1 : Below W0.heap.size W0 w1 := by rw [hs0]; exact hb
        subst eV eL eE eG
        have G1 := RG.out
        clear ho hb hgr hat RV RL RE RG K c7 c8 cG HS f7 hnn
        generalize hvl : vs.length = vl at *
        generalize hll : ls.length = ll at *
        generalize hel : xs.length = el at *
        generalize hgl2 : gs.length = gl at *
        have c81 : w1.cell? ⟨g, 8, none⟩ = some (.slice none 0 0) := by simp [World.cell?, K1]
        have f81 : w1.frozen? ⟨g, 8, none⟩ = false := by simp [World.frozen?, K1]
        have k9 : (w1.setCell ⟨g, 8, none⟩ (.slice Ag gl cg)).heap[g]? = some (.cells #[.int .i64 t, .int .i64 v, .int .i64 si, .int .i64 st, .slice Av vl cv, .slice Al ll cl, .string d, .slice Ae el ce, .slice Ag gl cg] 30 (0, 0)) := by simp [World.setCell, Array.getElem?_modify, K1]
        have r9 : (w1.setCell ⟨g, 8, none⟩ (.slice Ag gl cg)).heap[w.heap.size + 1]? = _ := (Below.heap_setCell w1 ⟨g, 8, none⟩ _ _ (show w.heap.size + 1 ≠ g by omega)).trans rs1
        have hst := setRow_heap (w1.setCell ⟨g, 8, none⟩ (.slice Ag gl cg)) (w.heap.size + 1) _ #[.int .i64 t, .int .i64 v, .int .i64 si, .int .i64 st, .slice Av vl cv, .slice Al ll cl, .string d, .slice Ae el ce, .slice Ag gl cg] 30 (0, 0) r9
        have RVx := Aside0.mk RV1
        have RLx := Aside0.mk RL1
        have REx := Aside0.mk RE1
        have RGx := Aside0.mk G1
        have HVL := Aside0.mk hvl
        have HLL := Aside0.mk hll
        have HEL := Aside0.mk hel
        have HGL := Aside0.mk hgl2
        have HST := Aside0.mk hst
        clear RV1 RL1 RE1 G1 hvl hll hel hgl2 hst
        go_wp2_with (first | (refine wpList_load_row rfl 30 (.tmp 3) rfl g rfl 30 _ (0, 0) _ k9 Try.underlying30 rfl (hi30 _ rfl) ?_) | (refine wpList_store_row rfl 30 (.tmp 2) (.tmp 37) rfl (w.heap.size + 1) _ rfl rfl 30 _ r9 (hi30 _ rfl) rfl (by simp [Value.oneCell']) ?_))
        refine bodyPost_ret (results_cell_row rfl _ _ (w.heap.size + 1) 30 _ (0, 0) _ rfl HST.out Try.underlying30 rfl (hi30 _ rfl)) rfl ?_
        have mv : ∀ {α : Type} {dd : Kd α} {e : Nat} {u : Value} {ys : List α}, dd.R e w1 W0.heap.size (fun k => k ≠ g) u ys → dd.R e ((w1.setCell ⟨g, 8, none⟩ (.slice Ag gl cg)).setRow (w.heap.size + 1) #[.int .i64 t, .int .i64 v, .int .i64 si, .int .i64 st, .slice Av vl cv, .slice Al ll cl, .string d, .slice Ae el ce, .slice Ag gl cg]) W0.heap.size (fun k => k ≠ g) u ys := fun h => by
          have h2 := Kd.R_far (p := ⟨g, 8, none⟩) h (fun k hk => hk) (.slice Ag gl cg)
          exact Kd.R_mono (Kd.R_step (Kd.R_bound h2) (fun k hk _ => setRow_other _ (w.heap.size + 1) k _ (by have := hk.2.1; omega))) (fun k hk => hk.1)
        have dn : ∀ {α : Type} {dd : Kd α} {e : Nat} {u : Value} {ys : List α} {W : World}, dd.R e W W0.heap.size (fun k => k ≠ g) u ys → dd.R e W w.heap.size (fun _ => True) u ys := fun h => Kd.R_mono (Kd.R_lower h (by omega)) (fun _ _ => trivial)
        obtain ⟨p1, p2, p3⟩ := Kd.R_reads' (mv RVx.out)
        obtain ⟨p4, p5, p6⟩ := Kd.R_reads' (mv RLx.out)
        obtain ⟨p7, p8, p9⟩ := Kd.R_reads' (mv REx.out)
        obtain ⟨p10, p11, p12⟩ := Kd.R_reads' (mv RGx.out)
        refine ⟨⟨t, v, si, st, Av, vl, cv, Al, ll, cl, d, Ae, el, ce, Ag, gl, cg⟩, rfl, ⟨rfl, rfl, rfl, rfl, p1, ?_, p3, p4, ?_, p6, rfl, p7, ?_, p9, p10, ?_, p12⟩, ⟨dn (mv RVx.out), dn (mv RLx.out), dn (mv REx.out), dn (mv RGx.out)⟩, ?_⟩
        · rw [← p1]; exact p2
        · rw [← p4]; exact p5
        · rw [← p7]; exact p8
        · rw [← p10]; exact p11
        · exact below_setRow ((q0.trans (hb1.mono q0.size)).setCell (p := ⟨g, 8, none⟩) (show w.heap.size ≤ g by omega) _) _ (by omega) _
theorem own_c (s : Sv) (x : Saved) (w : World) (hs : SK w s x) (b off : Nat) (css : List (List Value)) (hL : LX w s.A b off css x.2.2.2.1) (hsn : s.Gn ≤ 1000) (hvn : s.Vn ≤ 5000) (hln : s.Ln ≤ 5000) :
    Calls Try.prog 17 #[.agg s.cells] w fun e w' => ∃ s' : Sv, e = .returned (.agg s'.cells) ∧ SK w' s' x ∧ Below w.heap.size w w' :=
  (own_cR s x w hs b off css hL hsn hvn hln).mono (by
    rintro e w' ⟨s', h1, h2, _, h3⟩
    exact ⟨s', h1, h2, h3⟩)
end Go.Proofs.Ytpjachbmllklgaa.Rng
