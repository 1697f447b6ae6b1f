/- The reference's Same: of the same. -/
import Derived.Test.YtpjachbmllklgaaLgD
import Derived.Test.YtpjachbmllklgaaLgC
import Derived.Test.YtpjachbmllklgaaPCoux7
namespace Go.Proofs.Ytpjachbmllklgaa.Rng
open Go.RowKit Go.Proofs.YtpjachbmllklgaaW.PrintWords Go.Proofs.Ytpjachbmllklgaa.Kinds Go.Proofs.Ytpjachbmllklgaa.PCou
set_option linter.unusedVariables false
set_option linter.unusedSimpArgs false
attribute [local go_sem] Oper.semAt_some

set_option maxHeartbeats 1000000 in
set_option maxRecDepth 100000 in
theorem same_c (s1 s2 : Sv) (x : Saved) (w : World) (h1 : SK w s1 x) (h2 : SK w s2 x) (b1 o1 : Nat) (css1 : List (List Value)) (hL1 : LX w s1.A b1 o1 css1 x.2.2.2.1) (b2 o2 : Nat) (css2 : List (List Value)) (hL2 : LX w s2.A b2 o2 css2 x.2.2.2.1)
    (hc : ∀ y ∈ x.2.2.2.1, y.2.2.2.2.1.length ≤ 1000000000 ∧ y.2.2.2.2.2.length ≤ 1000000000) (hv : x.2.2.1.2.2.1.1.length ≤ 1000000000) (hl : x.2.2.1.2.2.1.2.length ≤ 1000000000) (hg : x.2.2.2.2.length ≤ 1000000) :
    Calls Try.prog 24 #[.agg s1.cells, .agg s2.cells] w fun e w' => e = .returned (.bool true) ∧ Below w.heap.size w w' := by
  have e37 : ∀ args w, (callFunc 37 args).run Try.prog w = .ok (.enter 37 args) w := enters_of Try.func37 (by kernel_rfl) rfl
  have e49 : ∀ args w, (callFunc 49 args).run Try.prog w = .ok (.enter 49 args) w := enters_of Try.func49 (by kernel_rfl) rfl
  obtain ⟨x1, x2, ⟨x3, x4, ⟨vs, ls⟩, x5⟩, xs, gs⟩ := x
  obtain ⟨t, v, si, st, Va, Vn, Vc, La, Ln, Lc, d, A, n, cap, Ga, Gn, Gc⟩ := s1
  obtain ⟨t', v', si', st', Va', Vn', Vc', La', Ln', Lc', d', A', n', cap', Ga', Gn', Gc'⟩ := s2
  obtain ⟨k1, k2, k3, k4, k5, k6, k7, k8, k9, k10, k11, k12, k13, k14, k15, k16, k17⟩ := h1
  obtain ⟨m1, m2, m3, m4, m5, m6, m7, m8, m9, m10, m11, m12, m13, m14, m15, m16, m17⟩ := h2
  dsimp only at *
  obtain rfl := k1
  obtain rfl := k2
  obtain rfl := k3
  obtain rfl := k4
  obtain rfl := k11
  obtain rfl := m1
  obtain rfl := m2
  obtain rfl := m3
  obtain rfl := m4
  obtain rfl := m11
  rw [← k5] at m5 hv
  rw [← k8] at m8 hl
  rw [← k12] at m12
  rw [← k15] at m15 hg
  obtain rfl := m5
  obtain rfl := m8
  obtain rfl := m12
  obtain rfl := m15
  unfold Sv.cells
  dsimp only
  obtain ⟨c1, d1, G1⟩ := gx_of_C k17
  obtain ⟨c2, d2, G2⟩ := gx_of_C m17
  have HG1 := Aside0.mk G1
  have HG2 := Aside0.mk G2
  have HL1 := Aside0.mk hL1
  have HL2 := Aside0.mk hL2
  have HC := Aside0.mk hc
  have KN := Aside0.mk k12
  have KG := Aside0.mk k15
  have hn6 : n' ≤ 1000000 := by have := hL1.small; have := hL1.len; omega
  have H49 : Aside0 (∀ W, Below w.heap.size w W → Calls Try.prog 49 #[.agg #[.int .i64 si', .int .i64 st', .slice Va Vn' Vc, .slice La Ln' Lc, .string d'], .agg #[.int .i64 si', .int .i64 st', .slice Va' Vn' Vc', .slice La' Ln' Lc', .string d']] W fun e w' => e = .returned (.bool true) ∧ Below W.heap.size W w') :=
    ⟨fun W hW => by
      have := r08_SameSnap.calls (vs.length + ls.length + 1) si' st' Va Vc vs La Lc ls d' si' st' Va' Vc' vs La' Lc' ls d' true W (Kd.C_below k7 hW) k6 (Kd.C_below k10 hW) k9 (Kd.C_below m7 hW) m6 (Kd.C_below m10 hW) m9 (by unfold r08_SameSnap.f; rw [if_pos rfl, if_pos rfl, if_pos rfl, council_f vs ls (by omega) (by omega)]; rfl)
      rw [← k5, ← k8] at this
      exact this⟩
  clear G1 G2 hL1 hL2 hc k5 k6 k7 k8 k9 k10 k12 k13 k14 k15 k16 k17 m6 m7 m9 m10 m13 m14 m16 m17 hv hl
  go_enter Try.func24, Try.ntmps24
  go_wp2_with fail
  have q0 : Below w.heap.size w ((w.alloc (.cells #[.int .i64 t', .int .i64 v', .int .i64 si', .int .i64 st', .slice Va Vn' Vc, .slice La Ln' Lc, .string d', .slice A n' cap, .slice Ga Gn' Gc] 30)).alloc (.cells #[.int .i64 t', .int .i64 v', .int .i64 si', .int .i64 st', .slice Va' Vn' Vc', .slice La' Ln' Lc', .string d', .slice A' n' cap', .slice Ga' Gn' Gc'] 30)) := ((Below.refl _ w).alloc (Nat.le_refl _) _).alloc (by simp) _
  have hs0 : ((w.alloc (.cells #[.int .i64 t', .int .i64 v', .int .i64 si', .int .i64 st', .slice Va Vn' Vc, .slice La Ln' Lc, .string d', .slice A n' cap, .slice Ga Gn' Gc] 30)).alloc (.cells #[.int .i64 t', .int .i64 v', .int .i64 si', .int .i64 st', .slice Va' Vn' Vc', .slice La' Ln' Lc', .string d', .slice A' n' cap', .slice Ga' Gn' Gc'] 30)).heap.size = w.heap.size + 2 := by simp
  have bx1 := blk_alloc (blk_new w (.cells #[.int .i64 t', .int .i64 v', .int .i64 si', .int .i64 st', .slice Va Vn' Vc, .slice La Ln' Lc, .string d', .slice A n' cap, .slice Ga Gn' Gc] 30)) (.cells #[.int .i64 t', .int .i64 v', .int .i64 si', .int .i64 st', .slice Va' Vn' Vc', .slice La' Ln' Lc', .string d', .slice A' n' cap', .slice Ga' Gn' Gc'] 30)
  have bx2 := blk_new (w.alloc (.cells #[.int .i64 t', .int .i64 v', .int .i64 si', .int .i64 st', .slice Va Vn' Vc, .slice La Ln' Lc, .string d', .slice A n' cap, .slice Ga Gn' Gc] 30)) (.cells #[.int .i64 t', .int .i64 v', .int .i64 si', .int .i64 st', .slice Va' Vn' Vc', .slice La' Ln' Lc', .string d', .slice A' n' cap', .slice Ga' Gn' Gc'] 30)
  rw [World.size_alloc] at bx2
  generalize ((w.alloc (.cells #[.int .i64 t', .int .i64 v', .int .i64 si', .int .i64 st', .slice Va Vn' Vc, .slice La Ln' Lc, .string d', .slice A n' cap, .slice Ga Gn' Gc] 30)).alloc (.cells #[.int .i64 t', .int .i64 v', .int .i64 si', .int .i64 st', .slice Va' Vn' Vc', .slice La' Ln' Lc', .string d', .slice A' n' cap', .slice Ga' Gn' Gc'] 30)) = W0 at q0 hs0 bx1 bx2 ⊢
  refine (H49.out W0 q0).mono ?_
  rintro e w2 ⟨rfl, hb2⟩
  have B2 : Below W0.heap.size W0 w2 := hb2
  have f17 : ∀ W, Below W0.heap.size W0 W → W.cell? ⟨w.heap.size, 7, none⟩ = some (.slice A n' cap) := fun W hW => by have := (hW.block _ (by omega)).trans bx1; simp [World.cell?, this]
  have f18 : ∀ W, Below W0.heap.size W0 W → W.cell? ⟨w.heap.size, 8, none⟩ = some (.slice Ga Gn' Gc) := fun W hW => by have := (hW.block _ (by omega)).trans bx1; simp [World.cell?, this]
  have f27 : ∀ W, Below W0.heap.size W0 W → W.cell? ⟨w.heap.size + 1, 7, none⟩ = some (.slice A' n' cap') := fun W hW => by have := (hW.block _ (by omega)).trans bx2; simp [World.cell?, this]
  have f28 : ∀ W, Below W0.heap.size W0 W → W.cell? ⟨w.heap.size + 1, 8, none⟩ = some (.slice Ga' Gn' Gc') := fun W hW => by have := (hW.block _ (by omega)).trans bx2; simp [World.cell?, this]
  have F17 := Aside0.mk f17
  have F18 := Aside0.mk f18
  have F27 := Aside0.mk f27
  have F28 := Aside0.mk f28
  clear hb2 H49 f17 f18 f27 f28 bx1 bx2
  go_wp2_with fail
  go_loopg [5] n' (fun gg s5 wr => ∃ kk : Nat, kk ≤ n' ∧ n' - kk ≤ gg ∧ s5 = .int .i64 kk ∧ Aside (Below W0.heap.size W0 wr))
  case atStart => exact ⟨0, by omega, by omega, rfl, B2⟩
  clear B2
  case round =>
    obtain ⟨kk, hk, hgg, rfl, B⟩ := hrel
    have c17 := F17.out wr B.out
    by_cases hlt : kk < n'
    · have hltz : (kk : Int) < (n' : Int) := by omega
      have hk1 : kk < css1.length := by rw [HL1.out.len, ← KN.out]; exact hlt
      have hk2 : kk < css2.length := by rw [HL2.out.len, ← KN.out]; exact hlt
      obtain rfl := HL1.out.A (by omega)
      obtain rfl := HL2.out.A (by omega)
      have g17 := F17.out
      have g27 := F27.out
      have rg1 : ∀ W, Below W0.heap.size W0 W → W.rangeAt b1 (o1 + kk * 43) css1[kk]! := fun W hW => (HL1.out.below (q0.trans (hW.mono q0.size))).row kk hk1
      have rg2 : ∀ W, Below W0.heap.size W0 W → W.rangeAt b2 (o2 + kk * 43) css2[kk]! := fun W hW => (HL2.out.below (q0.trans (hW.mono q0.size))).row kk hk2
      have hi1 : (Try.prog.info? 59).map (·.size) = some css1[kk]!.length := by rw [(HL1.out.isE kk hk1).1.len]; exact size59
      have hi2 : (Try.prog.info? 59).map (·.size) = some css2[kk]!.length := by rw [(HL2.out.isE kk hk2).1.len]; exact size59
      have HS : Aside0 (∀ W, Below W0.heap.size W0 W → Calls Try.prog 37 #[.agg css1[kk]!.toArray, .agg css2[kk]!.toArray] W fun e w' => e = .returned (.bool true) ∧ Below W.heap.size W w') :=
        ⟨fun W hW => sameEntry_c xs[kk]! _ _ W ((HL1.out.below (q0.trans (hW.mono q0.size))).K kk hk1) ((HL2.out.below (q0.trans (hW.mono q0.size))).K kk hk2) (HC.out _ (HL1.out.mem kk hk1)).1 (HC.out _ (HL1.out.mem kk hk1)).2⟩
      generalize css1[kk]! = cs1 at *
      generalize css2[kk]! = cs2 at *
      go_wp2_with fail
      refine wp_region_held_drew (S := (fun W => Below W0.heap.size W0 W)) (by kernel_rfl) (by exact B.out.drew) (fun hHeld => ?_)
      refine wpAnyH_take (i := 0) (oi := _) (v := ?_) rfl (by kernel_rfl) (by kernel_rfl) (by kernel_rfl) (fun _ _ _ h => h) (Or.inl ⟨by rfl, ?_⟩) (by assumption) ?_
      rotate_left
      · (intro w hSw; (try dsimp only at hSw); go_simp; (try with_reducible rfl))
      (try simp only [Act.put, List.getElem_toArray, List.getElem_cons_zero, List.getElem_cons_succ, List.setIfInBounds_toArray, List.set_cons_zero, List.set_cons_succ])
      refine wpAnyH_take (i := 1) (oi := _) (v := ?_) rfl (by kernel_rfl) (by kernel_rfl) (by kernel_rfl) (fun _ _ _ h => h) (Or.inl ⟨by rfl, ?_⟩) (by assumption) ?_
      rotate_left
      · (intro w hSw; (try dsimp only at hSw); have c0 := g17 w hSw; go_simp; (try with_reducible rfl))
      (try simp only [Act.put, List.getElem_toArray, List.getElem_cons_zero, List.getElem_cons_succ, List.setIfInBounds_toArray, List.set_cons_zero, List.set_cons_succ])
      refine wpAnyH_take (i := 2) (oi := _) (v := ?_) rfl (by kernel_rfl) (by kernel_rfl) (by kernel_rfl) (fun _ _ _ h => h) (Or.inl ⟨by rfl, ?_⟩) (by assumption) ?_
      rotate_left
      · (intro w hSw; (try dsimp only at hSw); go_simp; (try with_reducible rfl))
      (try simp only [Act.put, List.getElem_toArray, List.getElem_cons_zero, List.getElem_cons_succ, List.setIfInBounds_toArray, List.set_cons_zero, List.set_cons_succ])
      refine wpAnyH_take (i := 3) (oi := _) (v := ?_) rfl (by kernel_rfl) (by kernel_rfl) (by kernel_rfl) (fun _ _ _ h => h) (Or.inl ⟨by rfl, ?_⟩) (by assumption) ?_
      rotate_left
      · (intro w hSw; (try dsimp only at hSw); go_simp; (try with_reducible rfl))
      (try simp only [Act.put, List.getElem_toArray, List.getElem_cons_zero, List.getElem_cons_succ, List.setIfInBounds_toArray, List.set_cons_zero, List.set_cons_succ])
      refine wpAnyH_take (i := 4) (oi := _) (v := _) rfl (by kernel_rfl) (by kernel_rfl) (by kernel_rfl) (fun _ _ _ h => h) (yieldsIf_load_mid (by rfl) 59 (.tmp 55) rfl b1 (o1 + kk * 43) rfl cs1 _ rg1 Try.underlying59 rfl hi1) (by assumption) ?_
      (try simp only [Act.put, List.getElem_toArray, List.getElem_cons_zero, List.getElem_cons_succ, List.setIfInBounds_toArray, List.set_cons_zero, List.set_cons_succ])
      refine wpAnyH_take (i := 5) (oi := _) (v := ?_) rfl (by kernel_rfl) (by kernel_rfl) (by kernel_rfl) (fun _ _ _ h => h) (Or.inl ⟨by rfl, ?_⟩) (by assumption) ?_
      rotate_left
      · (intro w hSw; (try dsimp only at hSw); go_simp; (try with_reducible rfl))
      (try simp only [Act.put, List.getElem_toArray, List.getElem_cons_zero, List.getElem_cons_succ, List.setIfInBounds_toArray, List.set_cons_zero, List.set_cons_succ])
      refine wpAnyH_take (i := 6) (oi := _) (v := ?_) rfl (by kernel_rfl) (by kernel_rfl) (by kernel_rfl) (fun _ _ _ h => h) (Or.inl ⟨by rfl, ?_⟩) (by assumption) ?_
      rotate_left
      · (intro w hSw; (try dsimp only at hSw); have c0 := g27 w hSw; go_simp; (try with_reducible rfl))
      (try simp only [Act.put, List.getElem_toArray, List.getElem_cons_zero, List.getElem_cons_succ, List.setIfInBounds_toArray, List.set_cons_zero, List.set_cons_succ])
      refine wpAnyH_take (i := 7) (oi := _) (v := ?_) rfl (by kernel_rfl) (by kernel_rfl) (by kernel_rfl) (fun _ _ _ h => h) (Or.inl ⟨by rfl, ?_⟩) (by assumption) ?_
      rotate_left
      · (intro w hSw; (try dsimp only at hSw); go_simp; (try with_reducible rfl))
      (try simp only [Act.put, List.getElem_toArray, List.getElem_cons_zero, List.getElem_cons_succ, List.setIfInBounds_toArray, List.set_cons_zero, List.set_cons_succ])
      refine wpAnyH_take (i := 8) (oi := _) (v := ?_) rfl (by kernel_rfl) (by kernel_rfl) (by kernel_rfl) (fun _ _ _ h => h) (Or.inl ⟨by rfl, ?_⟩) (by assumption) ?_
      rotate_left
      · (intro w hSw; (try dsimp only at hSw); go_simp; (try with_reducible rfl))
      (try simp only [Act.put, List.getElem_toArray, List.getElem_cons_zero, List.getElem_cons_succ, List.setIfInBounds_toArray, List.set_cons_zero, List.set_cons_succ])
      refine wpAnyH_take (i := 9) (oi := _) (v := _) rfl (by kernel_rfl) (by kernel_rfl) (by kernel_rfl) (fun _ _ _ h => h) (yieldsIf_load_mid (by rfl) 59 (.tmp 60) rfl b2 (o2 + kk * 43) rfl cs2 _ rg2 Try.underlying59 rfl hi2) (by assumption) ?_
      (try simp only [Act.put, List.getElem_toArray, List.getElem_cons_zero, List.getElem_cons_succ, List.setIfInBounds_toArray, List.set_cons_zero, List.set_cons_succ])
      refine wpAnyH_ready (rs := [10]) (by kernel_rfl) (by decide) (AllReadyH.cons rfl (fun K' hK => ?_) AllReadyH.nil)
      rw [if_pos (by rfl)]
      go_simp
      refine (HS.out _ (by assumption)).mono ?_
      rintro e w' ⟨rfl, hb'⟩
      (try dsimp only)
      refine hK.out _ _ (by exact Below.trans (by assumption) (hb'.mono (Below.size (by assumption)))) (fun hHeld => ?_)
      clear hK
      (try simp only [Act.put, List.getElem_toArray, List.getElem_cons_zero, List.getElem_cons_succ, List.setIfInBounds_toArray, List.set_cons_zero, List.set_cons_succ])
      refine wpAnyH_take (i := 11) (oi := _) (v := ?_) rfl (by kernel_rfl) (by kernel_rfl) (by kernel_rfl) (fun _ _ _ h => h) (Or.inl ⟨by rfl, ?_⟩) (by assumption) ?_
      rotate_left
      · (intro w hSw; (try dsimp only at hSw); go_simp; (try with_reducible rfl))
      (try simp only [Act.put, List.getElem_toArray, List.getElem_cons_zero, List.getElem_cons_succ, List.setIfInBounds_toArray, List.set_cons_zero, List.set_cons_succ])
      refine wpAnyH_done (by kernel_rfl) ?_ _
      have hfin : Below W0.heap.size W0 w' := Below.trans (by assumption) (hb'.mono (Below.size (by assumption)))
      clear hb'
      go_wp2_with fail
      go_roundg (n' - (kk + 1))
      case measure => omega
      case rel => exact ⟨kk + 1, by omega, by omega, by go_num, hfin⟩
    · have hltz : ¬ (kk : Int) < (n' : Int) := by omega
      have Bk := B.out
      clear hgg hlt
      go_wp2_with fail
      go_loopg [6] Gn' (fun gg s6 wr => ∃ kk : Nat, kk ≤ Gn' ∧ Gn' - kk ≤ gg ∧ s6 = .int .i64 kk ∧ Aside (Below W0.heap.size W0 wr))
      case atStart => exact ⟨0, by omega, by omega, rfl, Bk⟩
      clear Bk c17 B
      case round =>
        obtain ⟨kk, hk, hgg, rfl, B⟩ := hrel
        have c18 := F18.out wr B.out
        by_cases hlt : kk < Gn'
        · have hltz : (kk : Int) < (Gn' : Int) := by omega
          have hkg : kk < gs.length := by rw [← KG.out]; exact hlt
          obtain rfl := (HG1.out w (Below.refl _ _)).A (by omega)
          obtain rfl := (HG2.out w (Below.refl _ _)).A (by omega)
          have g18 := F18.out
          have g28 := F28.out
          have rg1 : ∀ W, Below W0.heap.size W0 W → W.rangeAt c1 (d1 + kk * 97) (sgnCells gs[kk]!) := fun W hW => (HG1.out W (q0.trans (hW.mono q0.size))).row kk hkg
          have rg2 : ∀ W, Below W0.heap.size W0 W → W.rangeAt c2 (d2 + kk * 97) (sgnCells gs[kk]!) := fun W hW => (HG2.out W (q0.trans (hW.mono q0.size))).row kk hkg
          obtain ⟨l1, l2, l3⟩ := (HG1.out w (Below.refl _ _)).len kk hkg
          have hi1 : (Try.prog.info? 69).map (·.size) = some (sgnCells gs[kk]!).length := by rw [sgnCells_length _ l1 l2 l3]; kernel_rfl
          have hne : ∀ W, (binOp .neq 69 (.agg (sgnCells gs[kk]!).toArray) (.agg (sgnCells gs[kk]!).toArray)).run Try.prog W = .ok (.bool false) W := fun W => neq_sgn W _ l1 l2 l3
          clear l1 l2 l3
          generalize sgnCells gs[kk]! = sc at *
          go_wp2_with fail
          refine wp_region_held_drew (S := (fun W => Below W0.heap.size W0 W)) (by kernel_rfl) (by exact B.out.drew) (fun hHeld => ?_)
          refine wpAnyH_take (i := 0) (oi := _) (v := ?_) rfl (by kernel_rfl) (by kernel_rfl) (by kernel_rfl) (fun _ _ _ h => h) (Or.inl ⟨by rfl, ?_⟩) (by assumption) ?_
          rotate_left
          · (intro w hSw; (try dsimp only at hSw); go_simp; (try with_reducible rfl))
          (try simp only [Act.put, List.getElem_toArray, List.getElem_cons_zero, List.getElem_cons_succ, List.setIfInBounds_toArray, List.set_cons_zero, List.set_cons_succ])
          refine wpAnyH_take (i := 1) (oi := _) (v := ?_) rfl (by kernel_rfl) (by kernel_rfl) (by kernel_rfl) (fun _ _ _ h => h) (Or.inl ⟨by rfl, ?_⟩) (by assumption) ?_
          rotate_left
          · (intro w hSw; (try dsimp only at hSw); have c0 := g18 w hSw; go_simp; (try with_reducible rfl))
          (try simp only [Act.put, List.getElem_toArray, List.getElem_cons_zero, List.getElem_cons_succ, List.setIfInBounds_toArray, List.set_cons_zero, List.set_cons_succ])
          refine wpAnyH_take (i := 2) (oi := _) (v := ?_) rfl (by kernel_rfl) (by kernel_rfl) (by kernel_rfl) (fun _ _ _ h => h) (Or.inl ⟨by rfl, ?_⟩) (by assumption) ?_
          rotate_left
          · (intro w hSw; (try dsimp only at hSw); go_simp; (try with_reducible rfl))
          (try simp only [Act.put, List.getElem_toArray, List.getElem_cons_zero, List.getElem_cons_succ, List.setIfInBounds_toArray, List.set_cons_zero, List.set_cons_succ])
          refine wpAnyH_take (i := 3) (oi := _) (v := ?_) rfl (by kernel_rfl) (by kernel_rfl) (by kernel_rfl) (fun _ _ _ h => h) (Or.inl ⟨by rfl, ?_⟩) (by assumption) ?_
          rotate_left
          · (intro w hSw; (try dsimp only at hSw); go_simp; (try with_reducible rfl))
          (try simp only [Act.put, List.getElem_toArray, List.getElem_cons_zero, List.getElem_cons_succ, List.setIfInBounds_toArray, List.set_cons_zero, List.set_cons_succ])
          refine wpAnyH_take (i := 4) (oi := _) (v := _) rfl (by kernel_rfl) (by kernel_rfl) (by kernel_rfl) (fun _ _ _ h => h) (yieldsIf_load_mid (by rfl) 69 (.tmp 74) rfl c1 (d1 + kk * 97) rfl sc _ rg1 Try.underlying69 rfl hi1) (by assumption) ?_
          (try simp only [Act.put, List.getElem_toArray, List.getElem_cons_zero, List.getElem_cons_succ, List.setIfInBounds_toArray, List.set_cons_zero, List.set_cons_succ])
          refine wpAnyH_take (i := 5) (oi := _) (v := ?_) rfl (by kernel_rfl) (by kernel_rfl) (by kernel_rfl) (fun _ _ _ h => h) (Or.inl ⟨by rfl, ?_⟩) (by assumption) ?_
          rotate_left
          · (intro w hSw; (try dsimp only at hSw); go_simp; (try with_reducible rfl))
          (try simp only [Act.put, List.getElem_toArray, List.getElem_cons_zero, List.getElem_cons_succ, List.setIfInBounds_toArray, List.set_cons_zero, List.set_cons_succ])
          refine wpAnyH_take (i := 6) (oi := _) (v := ?_) rfl (by kernel_rfl) (by kernel_rfl) (by kernel_rfl) (fun _ _ _ h => h) (Or.inl ⟨by rfl, ?_⟩) (by assumption) ?_
          rotate_left
          · (intro w hSw; (try dsimp only at hSw); have c0 := g28 w hSw; go_simp; (try with_reducible rfl))
          (try simp only [Act.put, List.getElem_toArray, List.getElem_cons_zero, List.getElem_cons_succ, List.setIfInBounds_toArray, List.set_cons_zero, List.set_cons_succ])
          refine wpAnyH_take (i := 7) (oi := _) (v := ?_) rfl (by kernel_rfl) (by kernel_rfl) (by kernel_rfl) (fun _ _ _ h => h) (Or.inl ⟨by rfl, ?_⟩) (by assumption) ?_
          rotate_left
          · (intro w hSw; (try dsimp only at hSw); go_simp; (try with_reducible rfl))
          (try simp only [Act.put, List.getElem_toArray, List.getElem_cons_zero, List.getElem_cons_succ, List.setIfInBounds_toArray, List.set_cons_zero, List.set_cons_succ])
          refine wpAnyH_take (i := 8) (oi := _) (v := ?_) rfl (by kernel_rfl) (by kernel_rfl) (by kernel_rfl) (fun _ _ _ h => h) (Or.inl ⟨by rfl, ?_⟩) (by assumption) ?_
          rotate_left
          · (intro w hSw; (try dsimp only at hSw); go_simp; (try with_reducible rfl))
          (try simp only [Act.put, List.getElem_toArray, List.getElem_cons_zero, List.getElem_cons_succ, List.setIfInBounds_toArray, List.set_cons_zero, List.set_cons_succ])
          refine wpAnyH_take (i := 9) (oi := _) (v := _) rfl (by kernel_rfl) (by kernel_rfl) (by kernel_rfl) (fun _ _ _ h => h) (yieldsIf_load_mid (by rfl) 69 (.tmp 79) rfl c2 (d2 + kk * 97) rfl sc _ rg2 Try.underlying69 rfl hi1) (by assumption) ?_
          (try simp only [Act.put, List.getElem_toArray, List.getElem_cons_zero, List.getElem_cons_succ, List.setIfInBounds_toArray, List.set_cons_zero, List.set_cons_succ])
          refine wpAnyH_take (i := 10) (oi := _) (v := ?_) rfl (by kernel_rfl) (by kernel_rfl) (by kernel_rfl) (fun _ _ _ h => h) (Or.inl ⟨by rfl, ?_⟩) (by assumption) ?_
          rotate_left
          · (intro w hSw; (try dsimp only at hSw); have c0 := hne w; go_simp; (try with_reducible rfl))
          (try simp only [Act.put, List.getElem_toArray, List.getElem_cons_zero, List.getElem_cons_succ, List.setIfInBounds_toArray, List.set_cons_zero, List.set_cons_succ])
          refine wpAnyH_done (by kernel_rfl) ?_ _
          have hfin : Below W0.heap.size W0 wr.drew := B.out.drew
          clear hne
          go_wp2_with fail
          go_roundg (Gn' - (kk + 1))
          case measure => omega
          case rel => exact ⟨kk + 1, by omega, by omega, by go_num, hfin⟩
        · have hltz : ¬ (kk : Int) < (Gn' : Int) := by omega
          go_wp2_with fail
          go_ret
          exact ⟨rfl, q0.trans (B.out.mono q0.size)⟩
end Go.Proofs.Ytpjachbmllklgaa.Rng
