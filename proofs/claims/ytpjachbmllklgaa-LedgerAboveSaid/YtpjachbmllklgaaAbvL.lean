/- LedgerAbove, walked. -/
import Derived.Test.YtpjachbmllklgaaOwn
import Derived.Test.YtpjachbmllklgaaSameS
import Derived.Test.YtpjachbmllklgaaLgD
namespace Go.Proofs.Ytpjachbmllklgaa.Rng
open Go.RowKit Go.Proofs.YtpjachbmllklgaaW.PrintWords Go.Proofs.Ytpjachbmllklgaa.Kinds
set_option linter.unusedVariables false
set_option linter.unusedSimpArgs false
attribute [local go_sem] Oper.semAt_some

theorem lastV_same {s s' : Sv} {css css' : List (List Value)} (h1 : s.si = s'.si) (h2 : s.st = s'.st) (h3 : its css = its css') : lastV s css = lastV s' css' := by
  have hl : css.length = css'.length := by rw [← its_length, h3, its_length]
  unfold lastV
  rw [← hl]
  cases hc : css.length with
  | zero => simp [h1, h2]
  | succ m =>
    show itOf css[m]! = itOf css'[m]!
    rw [← its_get css m (by omega), ← its_get css' m (by omega), h3]
theorem lastV_sound {s s' : Sv} {css css' : List (List Value)} (h1 : s.si = s'.si) (h2 : s.st = s'.st) (h3 : its css = its css') : lastV (s.sound css) (soundE s css) = lastV (s'.sound css') (soundE s' css') := by
  unfold Sv.sound soundE
  rw [← h1, ← h3]
  cases checkB s.si (its css) with
  | true => exact lastV_same h1 h2 h3
  | false => rfl
theorem sndX_same {s s' : Sv} {xs : List Ent} (h1 : s.si = s'.si) : sndX s xs = sndX s' xs := by unfold sndX; rw [h1]

set_option maxHeartbeats 1000000 in
set_option maxRecDepth 100000 in
theorem above_law (s : Sv) (x : Saved) (hw : WSaved x) (w : World) (hs : SK w s x) (index most term : Int) (ri : -9223372036854775808 ≤ index ∧ index ≤ 9223372036854775807) (r1 : -9223372036854775808 ≤ most ∧ most ≤ 9223372036854775807) (r2 : -9223372036854775808 ≤ term ∧ term ≤ 9223372036854775807) :
    Calls Try.prog 5 #[.agg s.cells, .int .i64 index, .int .i64 most, .int .i64 term] w fun e w' => e = .returned (.bool true) ∧ Below w.heap.size w w' := by
  have e9 : ∀ args w, (callFunc 9 args).run Try.prog w = .ok (.enter 9 args) w := enters_of Try.func9 (by kernel_rfl) rfl
  have e17 : ∀ args w, (callFunc 17 args).run Try.prog w = .ok (.enter 17 args) w := enters_of Try.func17 (by kernel_rfl) rfl
  have e24 : ∀ args w, (callFunc 24 args).run Try.prog w = .ok (.enter 24 args) w := enters_of Try.func24 (by kernel_rfl) rfl
  have e25 : ∀ args w, (callFunc 25 args).run Try.prog w = .ok (.enter 25 args) w := enters_of Try.func25 (by kernel_rfl) rfl
  have e26 : ∀ args w, (callFunc 26 args).run Try.prog w = .ok (.enter 26 args) w := enters_of Try.func26 (by kernel_rfl) rfl
  have e27 : ∀ args w, (callFunc 27 args).run Try.prog w = .ok (.enter 27 args) w := enters_of Try.func27 (by kernel_rfl) rfl
  have e28 : ∀ args w, (callFunc 28 args).run Try.prog w = .ok (.enter 28 args) w := enters_of Try.func28 (by kernel_rfl) rfl
  have e29 : ∀ args w, (callFunc 29 args).run Try.prog w = .ok (.enter 29 args) w := enters_of Try.func29 (by kernel_rfl) rfl
  have e30 : ∀ args w, (callFunc 30 args).run Try.prog w = .ok (.enter 30 args) w := enters_of Try.func30 (by kernel_rfl) rfl
  have e31 : ∀ args w, (callFunc 31 args).run Try.prog w = .ok (.enter 31 args) w := enters_of Try.func31 (by kernel_rfl) rfl
  have hi30 : ∀ cells : Array Value, cells.size = 9 → (Try.prog.info? 30).map (·.size) = some cells.size := fun c hc => by rw [hc]; exact size30
  obtain ⟨b, off, css, hL⟩ : ∃ (b off : Nat) (css : List (List Value)), (s.n : Int) ≤ 1000 → LX0 w s.A b off css x.2.2.2.1 := by
    by_cases h : (s.n : Int) ≤ 1000
    · obtain ⟨b, off, css, h1⟩ := hs.lx0 hw h
      exact ⟨b, off, css, fun _ => h1⟩
    · exact ⟨0, 0, [], fun g => absurd g h⟩
  have HS := Aside0.mk hs
  have HW := Aside0.mk hw
  have hN := Aside0.mk hs.n
  have HL := Aside0.mk hL
  clear hL hs hw
  rw [cells_eq]
  go_enter Try.func5, Try.ntmps5
  go_wp2_with fail
  rw [← cells_eq]
  have q0 : Below w.heap.size w (w.alloc (.cells s.cells 30)) := (Below.refl _ w).alloc (Nat.le_refl _) _
  have hs0 : (w.alloc (.cells s.cells 30)).heap.size = w.heap.size + 1 := by simp
  have k0 := blk_new w (.cells s.cells 30)
  generalize w.alloc (.cells s.cells 30) = W0 at q0 hs0 k0 ⊢
  have CB := Aside0.mk (big2_c s b off css x.2.2.2.1 W0 (fun g => ⟨((HL.out g).below q0).lg (by have := (HL.out g).len; have := hN.out; omega), (HL.out g).cx⟩))
  go_wp2_with (refine wpList_load_row rfl 30 (.tmp 4) rfl w.heap.size rfl 30 _ (0, 0) _ k0 Try.underlying30 rfl (hi30 _ rfl) ?_)
  refine CB.out.mono ?_
  rintro e w1 ⟨⟨B, rfl, hB⟩, hb⟩
  have k1 := (hb.block w.heap.size (by omega)).trans k0
  have q1 : Below w.heap.size w w1 := q0.trans (hb.mono q0.size)
  have hs1 : w.heap.size < w1.heap.size := by have := hb.size; omega
  clear hb CB
  cases B
  case true =>
    go_wp2
    go_ret
    exact ⟨rfl, q1⟩
  have hsm := hB rfl
  have hL0 := HL.out hsm.n
  have hc5 : ∀ y ∈ x.2.2.2.1, y.2.2.2.2.1.length ≤ 5000 ∧ y.2.2.2.2.2.length ≤ 5000 := fun y hy => by
    obtain ⟨j, hj, rfl⟩ := List.mem_iff_getElem.1 hy
    have := hsm.c j hj
    rwa [getElem!_pos x.2.2.2.1 j hj] at this
  have hLX : LX w s.A b off css x.2.2.2.1 := hL0.lx (fun y hy => by have := hc5 y hy; omega)
  have hOWN := Aside0.mk (own_c s x w1 (HS.out.below q1) b off css (hLX.below q1) (by have := hsm.g; omega) (by have := hsm.v; omega) (by have := hsm.l; omega))
  have SM := Aside0.mk hsm
  have LXw := Aside0.mk hLX
  have C5 := Aside0.mk hc5
  clear hsm hB hL0 hLX hc5 HL q0 k0 hs0
  go_wp2_with (refine wpList_load_row rfl 30 (.tmp 4) rfl w.heap.size rfl 30 _ (0, 0) _ k1 Try.underlying30 rfl (hi30 _ rfl) ?_)
  refine hOWN.out.mono ?_
  rintro e w2 ⟨s', rfl, hs', hb⟩
  have k2 := (hb.block w.heap.size hs1).trans k1
  have q2 : Below w.heap.size w w2 := q1.trans (hb.mono q1.size)
  have hs2 : w.heap.size < w2.heap.size := by have := hb.size; omega
  obtain ⟨b', off', css', hL'⟩ := hs'.lx0 HW.out (by have := SM.out.n; have := hN.out; have := hs'.n; omega)
  have hLX' : LX w2 s'.A b' off' css' x.2.2.2.1 := hL'.lx (fun y hy => by have := C5.out y hy; omega)
  clear hb k1 q1 hs1 hOWN hL' W0 HW
  have HS' := Aside0.mk hs'
  have LXo := Aside0.mk hLX'
  clear hs' hLX'
  have k3 := blk_alloc k2 (.cells s'.cells 30)
  have g3 := blk_new w2 (.cells s'.cells 30)
  have b23 : Below w2.heap.size w2 (w2.alloc (.cells s'.cells 30)) := (Below.refl _ w2).alloc (Nat.le_refl _) _
  have hs3 : (w2.alloc (.cells s'.cells 30)).heap.size = w2.heap.size + 1 := by simp
  go_wp2_with (first | (refine wpList_store_new rfl 30 (.tmp 9) (.tmp 15) rfl s'.cells _ 30 rfl rfl (hi30 _ rfl) rfl (sound_cells_one s') ?_) | (refine wpList_load_row rfl 30 (.tmp 4) rfl w.heap.size rfl 30 _ (0, 0) _ k3 Try.underlying30 rfl (hi30 _ rfl) ?_))
  generalize (w2.alloc (.cells s'.cells 30)) = w3 at k3 g3 b23 hs3 ⊢
  have q3 : Below w.heap.size w w3 := q2.trans (b23.mono q2.size)
  have S3 := HS.out.below q3
  have O3 := HS'.out.below b23
  have L3 := LXw.out.below q3
  have P3 := LXo.out.below b23
  have hg : w2.heap.size < w3.heap.size := by omega
  have hbx : w.heap.size < w3.heap.size := by omega
  generalize w2.heap.size = g at *
  clear LXo HS' q2 k2 b23 hs2 hs3
  have hn1 : s.n = css.length := by rw [L3.len]; exact S3.n
  have hcp1 : s.n ≤ s.cap := by rw [S3.n]; exact S3.cap
  have hn2 : s'.n = css'.length := by rw [P3.len]; exact O3.n
  have hsi : s.si = s'.si := S3.si.trans O3.si.symm
  have hst : s.st = s'.st := S3.st.trans O3.st.symm
  have hit : its css = its css' := by rw [L3.its_eq, P3.its_eq]
  have C25 := Aside0.mk (above_c s b off css _ w3 L3 hn1 hcp1 index most r1)
  have C27 : Aside0 (∀ W, Below w3.heap.size w3 W → Calls Try.prog 27 #[.agg s'.cells, .int .i64 index, .int .i64 most] W fun e w' => ∃ v, e = .returned v ∧ kEnt.R 59 w' W.heap.size (fun _ => True) v (aboveX (sndX s x.2.2.2.1) index most) ∧ Below W.heap.size W w') :=
    ⟨fun W hW => by rw [sndX_same hsi]; exact rabove_c s' b' off' css' _ W (P3.below hW) hn2 index most⟩
  have C30 : Aside0 (∀ W, Below w3.heap.size w3 W → Calls Try.prog 30 #[.agg s.cells, .int .i64 index, .int .i64 term] W fun e w' => e = .returned (.bool (behV (lastV (s.sound css) (soundE s css)) index term)) ∧ Below W.heap.size W w') :=
    ⟨fun W hW => behind_c s b off css W ((L3.below hW).lg hn1) index term⟩
  have C31 : Aside0 (∀ W, Below w3.heap.size w3 W → Calls Try.prog 31 #[.agg s'.cells, .int .i64 index, .int .i64 term] W fun e w' => e = .returned (.bool (behV (lastV (s.sound css) (soundE s css)) index term)) ∧ Below W.heap.size W w') :=
    ⟨fun W hW => by rw [lastV_sound hsi hst hit]; exact rbehind_c s' b' off' css' W ((P3.below hW).lg hn2) index term⟩
  have C24 : Aside0 (∀ W, Below w3.heap.size w3 W → Calls Try.prog 24 #[.agg s.cells, .agg s'.cells] W fun e w' => e = .returned (.bool true) ∧ Below W.heap.size W w') :=
    ⟨fun W hW => same_c s s' x W (S3.below hW) (O3.below hW) b off css (L3.below hW) b' off' css' (P3.below hW) (fun y hy => by have := C5.out y hy; omega) (by have := SM.out.v; have := S3.Vn; omega) (by have := SM.out.l; have := S3.Ln; omega) (by have := SM.out.g; have := S3.Gn; omega)⟩
  have AB : Aside0 ((aboveX (sndX s x.2.2.2.1) index most).length ≤ 1000000 ∧ (∀ y ∈ aboveX (sndX s x.2.2.2.1) index most, y.2.2.2.2.1.length ≤ 5000 ∧ y.2.2.2.2.2.length ≤ 5000) ∧ (∀ y ∈ aboveX (sndX s x.2.2.2.1) index most, -9223372036854775808 ≤ y.1 ∧ y.1 ≤ 9223372036854775807)) :=
    ⟨by
      refine ⟨?_, fun y hy => C5.out _ (sndX_mem (aboveX_mem hy)), fun y hy => L3.wi _ (sndX_mem (aboveX_mem hy))⟩
      rw [above_length (sndX_goes s x.2.2.2.1)]
      have h1 : (sndX s x.2.2.2.1).length ≤ x.2.2.2.1.length := by unfold sndX; split <;> simp
      have := SM.out.n
      have := hN.out
      omega⟩
  generalize behV (lastV (s.sound css) (soundE s css)) index term = bv at *
  generalize aboveX (sndX s x.2.2.2.1) index most = zs at *
  clear HS hN LXw SM C5 S3 O3 L3 P3 hn1 hcp1 hn2 hsi hst hit b off css b' off' css' x
  refine C25.out.mono ?_
  rintro e w4 ⟨v, rfl, hR, hb⟩
  obtain ⟨Az, cz, hvz, hcz, hCz⟩ := Kd.R_reads hR
  have hlz := AB.out.1
  subst hvz
  have B4 : Below w3.heap.size w3 w4 := hb
  have RZ := Aside0.mk hR
  have k4 := (hb.block _ hbx).trans k3
  have g4 := (hb.block _ hg).trans g3
  clear C25 hR hb hCz
  obtain ⟨nz, hnz⟩ : ∃ n, zs.length = n := ⟨_, rfl⟩
  rw [hnz] at RZ hcz hlz ⊢
  have NZ := Aside0.mk hnz
  clear hnz
  go_wp2_with (refine wpList_load_row rfl 30 (.tmp 9) rfl g rfl 30 _ (0, 0) _ g4 Try.underlying30 rfl (hi30 _ rfl) ?_)
  refine (C27.out w4 B4).mono ?_
  rintro e w5 ⟨v, rfl, hR, hb⟩
  obtain ⟨Ay, cy, hvy, hcy, hCy⟩ := Kd.R_reads hR
  subst hvy
  have B5 : Below w3.heap.size w3 w5 := B4.trans (hb.mono B4.size)
  have RZ5 := Aside0.mk (Kd.R_below RZ.out hb)
  have RY5 := Aside0.mk hR
  have k5 := (hb.block _ (Nat.lt_of_lt_of_le hbx B4.size)).trans k4
  have g5 := (hb.block _ (Nat.lt_of_lt_of_le hg B4.size)).trans g4
  clear C27 hR hb hCy RZ B4 k4 g4
  have PZ := AB.out
  obtain ⟨A1, c1, b1, o1, css1, hv1, _, L1⟩ := lx_of_R RZ5.out AB.out.1 (fun y hy => by have := AB.out.2.1 y hy; omega) AB.out.2.2
  obtain ⟨A2, c2, b2, o2, css2, hv2, _, L2⟩ := lx_of_R RY5.out AB.out.1 (fun y hy => by have := AB.out.2.1 y hy; omega) AB.out.2.2
  injection hv1 with e1 e2 e3
  injection hv2 with e4 e5 e6
  subst e1 e3 e4
  obtain rfl := e6
  have C26 := Aside0.mk (entries_c Az nz cz b1 o1 css1 Ay nz cy b2 o2 css2 zs w5 L1 e2 L2 e2 (fun y hy => by have := AB.out.2.1 y hy; omega))
  clear L1 L2 e2 PZ RY5 e5
  rw [NZ.out]
  go_wp2_with fail
  refine C26.out.mono ?_
  rintro e w6 ⟨rfl, hb⟩
  have B6 : Below w3.heap.size w3 w6 := B5.trans (hb.mono B5.size)
  have RZ6 := Aside0.mk (Kd.R_below RZ5.out hb)
  have k6 := (hb.block _ (Nat.lt_of_lt_of_le hbx B5.size)).trans k5
  have g6 := (hb.block _ (Nat.lt_of_lt_of_le hg B5.size)).trans g5
  clear C26 hb RZ5 B5 k5 g5
  obtain ⟨A1, c1, bl, hv1, hA, hbl, hOV⟩ := ov_of_R RZ6.out (fun y hy => by have := AB.out.2.1 y hy; omega)
  injection hv1 with e1 e2 e3
  subst e1 e3
  rw [← e2] at hA hbl hOV
  have C28 := Aside0.mk (over_c w3.heap.size bl 0 nz cz Az w6 hA hbl hlz hOV)
  clear hA hbl hOV e2 RZ6
  go_wp2_with fail
  refine C28.out.mono ?_
  rintro e w7 ⟨rfl, hb⟩
  have B7 : Below w3.heap.size w3 w7 := B6.trans hb
  have k7 := (hb.block _ hbx).trans k6
  have g7 := (hb.block _ hg).trans g6
  clear C28 hb B6 k6 g6 AB NZ
  have rg1 : ∀ W, Below w3.heap.size w3 W → W.rangeAt w.heap.size 0 s.cells.toList := fun W hW => by
    have hh : W.heap[w.heap.size]? = some (.cells s.cells 30 (0, 0)) := (hW.block _ hbx).trans k3
    intro i u hiu
    simp only [Nat.zero_add]
    simp only [World.cell?, hh]
    simpa using hiu
  have rg2 : ∀ W, Below w3.heap.size w3 W → W.rangeAt g 0 s'.cells.toList := fun W hW => by
    have hh : W.heap[g]? = some (.cells s'.cells 30 (0, 0)) := (hW.block _ hg).trans g3
    intro i u hiu
    simp only [Nat.zero_add]
    simp only [World.cell?, hh]
    simpa using hiu
  have hi1 : (Try.prog.info? 30).map (·.size) = some s.cells.toList.length := hi30 _ rfl
  have hi2 : (Try.prog.info? 30).map (·.size) = some s'.cells.toList.length := hi30 _ rfl
  clear k7 g7
  go_wp2_with fail
  refine wp_region_held_drew (S := (fun W => Below w3.heap.size w3 W)) (by kernel_rfl) (by exact B7.drew) (fun hHeld => ?_)
  refine wpAnyH_ready (rs := [0]) (by kernel_rfl) (by decide) (AllReadyH.cons rfl (fun K' hK => ?_) AllReadyH.nil)
  rw [if_pos (by rfl)]
  go_simp
  refine (parts_c _).mono ?_
  rintro e w' ⟨rfl, hb'⟩
  (try dsimp only)
  refine hK.out _ _ (by exact Below.trans (by assumption) (hb'.mono (Below.size (by assumption)))) (fun hHeld => ?_)
  clear hK
  (try simp only [Act.put, List.getElem_toArray, List.getElem_cons_zero, List.getElem_cons_succ, List.setIfInBounds_toArray, List.set_cons_zero, List.set_cons_succ])
  refine wpAnyH_take (i := 1) (oi := _) (v := ?_) rfl (by kernel_rfl) (by kernel_rfl) (by kernel_rfl) (fun _ _ _ h => h) (Or.inl ⟨by rfl, ?_⟩) (by assumption) ?_
  rotate_left
  · (intro w hSw; (try dsimp only at hSw); go_simp; (try with_reducible rfl))
  (try simp only [Act.put, List.getElem_toArray, List.getElem_cons_zero, List.getElem_cons_succ, List.setIfInBounds_toArray, List.set_cons_zero, List.set_cons_succ])
  refine wpAnyH_take (i := 2) (oi := _) (v := ?_) rfl (by kernel_rfl) (by kernel_rfl) (by kernel_rfl) (fun _ _ _ h => h) (Or.inl ⟨by rfl, ?_⟩) (by assumption) ?_
  rotate_left
  · (intro w hSw; (try dsimp only at hSw); go_simp; (try with_reducible rfl))
  (try simp only [Act.put, List.getElem_toArray, List.getElem_cons_zero, List.getElem_cons_succ, List.setIfInBounds_toArray, List.set_cons_zero, List.set_cons_succ])
  refine wpAnyH_take (i := 3) (oi := _) (v := ?_) rfl (by kernel_rfl) (by kernel_rfl) (by kernel_rfl) (fun _ _ _ h => h) (Or.inl ⟨by rfl, ?_⟩) (by assumption) ?_
  rotate_left
  · (intro w hSw; (try dsimp only at hSw); go_simp; (try with_reducible rfl))
  (try simp only [Act.put, List.getElem_toArray, List.getElem_cons_zero, List.getElem_cons_succ, List.setIfInBounds_toArray, List.set_cons_zero, List.set_cons_succ])
  refine wpAnyH_take (i := 4) (oi := _) (v := ?_) rfl (by kernel_rfl) (by kernel_rfl) (by kernel_rfl) (fun _ _ _ h => h) (Or.inl ⟨by rfl, ?_⟩) (by assumption) ?_
  rotate_left
  · (intro w hSw; (try dsimp only at hSw); go_simp; (try with_reducible rfl))
  (try simp only [Act.put, List.getElem_toArray, List.getElem_cons_zero, List.getElem_cons_succ, List.setIfInBounds_toArray, List.set_cons_zero, List.set_cons_succ])
  refine wpAnyH_take (i := 5) (oi := _) (v := _) rfl (by kernel_rfl) (by kernel_rfl) (by kernel_rfl) (fun _ _ _ h => h) (yieldsIf_load_mid (by rfl) 30 (.tmp 4) rfl w.heap.size 0 rfl s.cells.toList _ rg1 Try.underlying30 rfl hi1) (by assumption) ?_
  (try simp only [Act.put, List.getElem_toArray, List.getElem_cons_zero, List.getElem_cons_succ, List.setIfInBounds_toArray, List.set_cons_zero, List.set_cons_succ])
  refine wpAnyH_take (i := 6) (oi := _) (v := ?_) rfl (by kernel_rfl) (by kernel_rfl) (by kernel_rfl) (fun _ _ _ h => h) (Or.inl ⟨by rfl, ?_⟩) (by assumption) ?_
  rotate_left
  · (intro w hSw; (try dsimp only at hSw); go_simp; (try with_reducible rfl))
  (try simp only [Act.put, List.getElem_toArray, List.getElem_cons_zero, List.getElem_cons_succ, List.setIfInBounds_toArray, List.set_cons_zero, List.set_cons_succ])
  refine wpAnyH_take (i := 7) (oi := _) (v := ?_) rfl (by kernel_rfl) (by kernel_rfl) (by kernel_rfl) (fun _ _ _ h => h) (Or.inl ⟨by rfl, ?_⟩) (by assumption) ?_
  rotate_left
  · (intro w hSw; (try dsimp only at hSw); go_simp; (try with_reducible rfl))
  (try simp only [Act.put, List.getElem_toArray, List.getElem_cons_zero, List.getElem_cons_succ, List.setIfInBounds_toArray, List.set_cons_zero, List.set_cons_succ])
  refine wpAnyH_take (i := 9) (oi := _) (v := _) rfl (by kernel_rfl) (by kernel_rfl) (by kernel_rfl) (fun _ _ _ h => h) (yieldsIf_load_mid (by rfl) 30 (.tmp 9) rfl g 0 rfl s'.cells.toList _ rg2 Try.underlying30 rfl hi2) (by assumption) ?_
  (try simp only [Act.put, List.getElem_toArray, List.getElem_cons_zero, List.getElem_cons_succ, List.setIfInBounds_toArray, List.set_cons_zero, List.set_cons_succ])
  refine wpAnyH_take (i := 10) (oi := _) (v := ?_) rfl (by kernel_rfl) (by kernel_rfl) (by kernel_rfl) (fun _ _ _ h => h) (Or.inl ⟨by rfl, ?_⟩) (by assumption) ?_
  rotate_left
  · (intro w hSw; (try dsimp only at hSw); go_simp; (try with_reducible rfl))
  (try simp only [Act.put, List.getElem_toArray, List.getElem_cons_zero, List.getElem_cons_succ, List.setIfInBounds_toArray, List.set_cons_zero, List.set_cons_succ])
  refine wpAnyH_take (i := 11) (oi := _) (v := ?_) rfl (by kernel_rfl) (by kernel_rfl) (by kernel_rfl) (fun _ _ _ h => h) (Or.inl ⟨by rfl, ?_⟩) (by assumption) ?_
  rotate_left
  · (intro w hSw; (try dsimp only at hSw); go_simp; (try with_reducible rfl))
  (try simp only [Act.put, List.getElem_toArray, List.getElem_cons_zero, List.getElem_cons_succ, List.setIfInBounds_toArray, List.set_cons_zero, List.set_cons_succ])
  refine wpAnyH_ready (rs := [8]) (by kernel_rfl) (by decide) (AllReadyH.cons rfl (fun K' hK => ?_) AllReadyH.nil)
  rw [if_pos (by rfl)]
  go_simp
  refine (C30.out _ (by assumption)).mono ?_
  rintro e w' ⟨rfl, hb'⟩
  (try dsimp only)
  refine hK.out _ _ (by exact Below.trans (by assumption) (hb'.mono (Below.size (by assumption)))) (fun hHeld => ?_)
  clear hK
  (try simp only [Act.put, List.getElem_toArray, List.getElem_cons_zero, List.getElem_cons_succ, List.setIfInBounds_toArray, List.set_cons_zero, List.set_cons_succ])
  refine wpAnyH_ready (rs := [12]) (by kernel_rfl) (by decide) (AllReadyH.cons rfl (fun K' hK => ?_) AllReadyH.nil)
  rw [if_pos (by rfl)]
  go_simp
  refine (C31.out _ (by assumption)).mono ?_
  rintro e w' ⟨rfl, hb'⟩
  (try dsimp only)
  refine hK.out _ _ (by exact Below.trans (by assumption) (hb'.mono (Below.size (by assumption)))) (fun hHeld => ?_)
  clear hK
  (try simp only [Act.put, List.getElem_toArray, List.getElem_cons_zero, List.getElem_cons_succ, List.setIfInBounds_toArray, List.set_cons_zero, List.set_cons_succ])
  refine wpAnyH_take (i := 13) (oi := _) (v := ?_) rfl (by kernel_rfl) (by kernel_rfl) (by kernel_rfl) (fun _ _ _ h => h) (Or.inl ⟨by rfl, ?_⟩) (by assumption) ?_
  rotate_left
  · (intro w hSw; (try dsimp only at hSw); go_simp; (try with_reducible rfl))
  (try simp only [Act.put, List.getElem_toArray, List.getElem_cons_zero, List.getElem_cons_succ, List.setIfInBounds_toArray, List.set_cons_zero, List.set_cons_succ])
  refine wpAnyH_take (i := 14) (oi := _) (v := ?_) rfl (by kernel_rfl) (by kernel_rfl) (by kernel_rfl) (fun _ _ _ h => h) (Or.inl ⟨by rfl, ?_⟩) (by assumption) ?_
  rotate_left
  · (intro w hSw; (try dsimp only at hSw); go_simp; (try with_reducible rfl))
  (try simp only [Act.put, List.getElem_toArray, List.getElem_cons_zero, List.getElem_cons_succ, List.setIfInBounds_toArray, List.set_cons_zero, List.set_cons_succ])
  refine wpAnyH_take (i := 15) (oi := _) (v := ?_) rfl (by kernel_rfl) (by kernel_rfl) (by kernel_rfl) (fun _ _ _ h => h) (Or.inl ⟨by rfl, ?_⟩) (by assumption) ?_
  rotate_left
  · (intro w hSw; (try dsimp only at hSw); go_simp; (try with_reducible rfl))
  (try simp only [Act.put, List.getElem_toArray, List.getElem_cons_zero, List.getElem_cons_succ, List.setIfInBounds_toArray, List.set_cons_zero, List.set_cons_succ])
  refine wpAnyH_take (i := 16) (oi := _) (v := _) rfl (by kernel_rfl) (by kernel_rfl) (by kernel_rfl) (fun _ _ _ h => h) (yieldsIf_load_mid (by rfl) 30 (.tmp 4) rfl w.heap.size 0 rfl s.cells.toList _ rg1 Try.underlying30 rfl hi1) (by assumption) ?_
  (try simp only [Act.put, List.getElem_toArray, List.getElem_cons_zero, List.getElem_cons_succ, List.setIfInBounds_toArray, List.set_cons_zero, List.set_cons_succ])
  refine wpAnyH_take (i := 17) (oi := _) (v := _) rfl (by kernel_rfl) (by kernel_rfl) (by kernel_rfl) (fun _ _ _ h => h) (yieldsIf_load_mid (by rfl) 30 (.tmp 9) rfl g 0 rfl s'.cells.toList _ rg2 Try.underlying30 rfl hi2) (by assumption) ?_
  (try simp only [Act.put, List.getElem_toArray, List.getElem_cons_zero, List.getElem_cons_succ, List.setIfInBounds_toArray, List.set_cons_zero, List.set_cons_succ])
  refine wpAnyH_ready (rs := [18]) (by kernel_rfl) (by decide) (AllReadyH.cons rfl (fun K' hK => ?_) AllReadyH.nil)
  rw [if_pos (by rfl)]
  go_simp
  refine (C24.out _ (by assumption)).mono ?_
  rintro e w' ⟨rfl, hb'⟩
  (try dsimp only)
  refine hK.out _ _ (by exact Below.trans (by assumption) (hb'.mono (Below.size (by assumption)))) (fun hHeld => ?_)
  clear hK
  (try simp only [Act.put, List.getElem_toArray, List.getElem_cons_zero, List.getElem_cons_succ, List.setIfInBounds_toArray, List.set_cons_zero, List.set_cons_succ])
  refine wpAnyH_take (i := 19) (oi := _) (v := ?_) rfl (by kernel_rfl) (by kernel_rfl) (by kernel_rfl) (fun _ _ _ h => h) (Or.inl ⟨by rfl, ?_⟩) (by assumption) ?_
  rotate_left
  · (intro w hSw; (try dsimp only at hSw); go_simp; (try with_reducible rfl))
  (try simp only [Act.put, List.getElem_toArray, List.getElem_cons_zero, List.getElem_cons_succ, List.setIfInBounds_toArray, List.set_cons_zero, List.set_cons_succ])
  refine wpAnyH_take (i := 20) (oi := _) (v := ?_) rfl (by kernel_rfl) (by kernel_rfl) (by kernel_rfl) (fun _ _ _ h => h) (Or.inl ⟨by rfl, ?_⟩) (by assumption) ?_
  rotate_left
  · (intro w hSw; (try dsimp only at hSw); go_simp; (try with_reducible rfl))
  (try simp only [Act.put, List.getElem_toArray, List.getElem_cons_zero, List.getElem_cons_succ, List.setIfInBounds_toArray, List.set_cons_zero, List.set_cons_succ])
  refine wpAnyH_done (by kernel_rfl) ?_ _
  have hfin : Below w3.heap.size w3 w' := Below.trans (by assumption) (hb'.mono (Below.size (by assumption)))
  clear hb'
  go_wp2_with fail
  go_ret
  exact ⟨rfl, q3.trans (hfin.mono q3.size)⟩
end Go.Proofs.Ytpjachbmllklgaa.Rng
