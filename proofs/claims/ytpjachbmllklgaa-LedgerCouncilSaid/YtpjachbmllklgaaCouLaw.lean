/- LedgerCouncil, walked. -/
import Derived.Test.YtpjachbmllklgaaCouR
import Derived.Test.YtpjachbmllklgaaCouns
import Derived.Test.YtpjachbmllklgaaRunR
import Derived.Test.YtpjachbmllklgaaOwn
import Derived.Test.YtpjachbmllklgaaSameS
import Derived.Test.YtpjachbmllklgaaLgD
namespace Go.Proofs.Ytpjachbmllklgaa.Rng
open Go.RowKit Go.Proofs.YtpjachbmllklgaaW.PrintWords Go.Proofs.Ytpjachbmllklgaa.Kinds Go.Proofs.Ytpjachbmllklgaa.PCou
set_option linter.unusedVariables false
set_option linter.unusedSimpArgs false
attribute [local go_sem] Oper.semAt_some

theorem runV_same {s s' : Sv} {css css' : List (List Value)} (h1 : s.si = s'.si) (h2 : s.st = s'.st) (h3 : its css = its css') (index : Int) : runV s css index = runV s' css' index := by
  rw [runV_eq, runV_eq]
  unfold Sv.sound soundE
  rw [← h1, ← h3]
  cases checkB s.si (its css) with
  | true =>
    simp only [if_true]
    rw [h1, h2, h3]
  | false => rfl
theorem cou_same {s s' : Sv} {x : Saved} {css css' : List (List Value)} (h1 : s.si = s'.si) (h3 : its css = its css') (index : Int) :
    couX (sndX s' x.2.2.2.1) index (sndC s' x, (s'.sound css').si) (sndX s' x.2.2.2.1).length = couX (sndX s x.2.2.2.1) index (sndC s x, (s.sound css).si) (sndX s x.2.2.2.1).length := by
  have e1 : (s'.sound css').si = (s.sound css).si := by
    unfold Sv.sound
    rw [← h1, ← h3]
    split
    · exact h1.symm
    · rfl
  unfold sndX sndC
  rw [e1, ← h1]

theorem cou_bound (ys : List Ent) (index : Int) (z : (List Int × List Int) × Int) (hy : ∀ y ∈ ys, y.2.2.2.2.1.length ≤ 5000 ∧ y.2.2.2.2.2.length ≤ 5000) (hz : z.1.1.length ≤ 5000 ∧ z.1.2.length ≤ 5000) : ∀ k, k ≤ ys.length → (couX ys index z k).1.1.length ≤ 5000 ∧ (couX ys index z k).1.2.length ≤ 5000
  | 0, _ => hz
  | k + 1, hk => by
    rw [couX]
    split
    · exact hy _ (by rw [getElem!_pos ys k (by omega)]; exact List.getElem_mem _)
    · exact cou_bound ys index z hy hz k (by omega)

set_option maxHeartbeats 1000000 in
set_option maxRecDepth 100000 in
theorem council_law (s : Sv) (x : Saved) (hw : WSaved x) (w : World) (hs : SK w s x) (index : Int) (ri : -9223372036854775808 ≤ index ∧ index ≤ 9223372036854775807) :
    Calls Try.prog 4 #[.agg s.cells, .int .i64 index] w fun e w' => e = .returned (.bool true) ∧ Below w.heap.size w w' := by
  have e9 : ∀ args w, (callFunc 9 args).run Try.prog w = .ok (.enter 9 args) w := enters_of Try.func9 (by kernel_rfl) rfl
  have e17 : ∀ args w, (callFunc 17 args).run Try.prog w = .ok (.enter 17 args) w := enters_of Try.func17 (by kernel_rfl) rfl
  have e18 : ∀ args w, (callFunc 18 args).run Try.prog w = .ok (.enter 18 args) w := enters_of Try.func18 (by kernel_rfl) rfl
  have e19 : ∀ args w, (callFunc 19 args).run Try.prog w = .ok (.enter 19 args) w := enters_of Try.func19 (by kernel_rfl) rfl
  have e20 : ∀ args w, (callFunc 20 args).run Try.prog w = .ok (.enter 20 args) w := enters_of Try.func20 (by kernel_rfl) rfl
  have e21 : ∀ args w, (callFunc 21 args).run Try.prog w = .ok (.enter 21 args) w := enters_of Try.func21 (by kernel_rfl) rfl
  have e22 : ∀ args w, (callFunc 22 args).run Try.prog w = .ok (.enter 22 args) w := enters_of Try.func22 (by kernel_rfl) rfl
  have e23 : ∀ args w, (callFunc 23 args).run Try.prog w = .ok (.enter 23 args) w := enters_of Try.func23 (by kernel_rfl) rfl
  have e24 : ∀ args w, (callFunc 24 args).run Try.prog w = .ok (.enter 24 args) w := enters_of Try.func24 (by kernel_rfl) rfl
  have hi30 : ∀ cells : Array Value, cells.size = 9 → (Try.prog.info? 30).map (·.size) = some cells.size := fun c hc => by rw [hc]; exact size30
  obtain ⟨b, off, css, hL⟩ : ∃ (b off : Nat) (css : List (List Value)), (s.n : Int) ≤ 1000 → LX0 w s.A b off css x.2.2.2.1 := by
    by_cases h : (s.n : Int) ≤ 1000
    · obtain ⟨b, off, css, h1⟩ := hs.lx0 hw h
      exact ⟨b, off, css, fun _ => h1⟩
    · exact ⟨0, 0, [], fun g => absurd g h⟩
  have HS := Aside0.mk hs
  have HW := Aside0.mk hw
  have hN := Aside0.mk hs.n
  have HL := Aside0.mk hL
  clear hL hs hw
  rw [cells_eq]
  go_enter Try.func4, Try.ntmps4
  go_wp2_with fail
  rw [← cells_eq]
  have q0 : Below w.heap.size w (w.alloc (.cells s.cells 30)) := (Below.refl _ w).alloc (Nat.le_refl _) _
  have hs0 : (w.alloc (.cells s.cells 30)).heap.size = w.heap.size + 1 := by simp
  have k0 := blk_new w (.cells s.cells 30)
  generalize w.alloc (.cells s.cells 30) = W0 at q0 hs0 k0 ⊢
  have CB := Aside0.mk (big2_c s b off css x.2.2.2.1 W0 (fun g => ⟨((HL.out g).below q0).lg (by have := (HL.out g).len; have := hN.out; omega), (HL.out g).cx⟩))
  go_wp2_with (refine wpList_load_row rfl 30 (.tmp 2) rfl w.heap.size rfl 30 _ (0, 0) _ k0 Try.underlying30 rfl (hi30 _ rfl) ?_)
  refine CB.out.mono ?_
  rintro e w1 ⟨⟨B, rfl, hB⟩, hb⟩
  have k1 := (hb.block w.heap.size (by omega)).trans k0
  have q1 : Below w.heap.size w w1 := q0.trans (hb.mono q0.size)
  have hs1 : w.heap.size < w1.heap.size := by have := hb.size; omega
  clear hb CB
  cases B
  case true =>
    go_wp2
    go_ret
    exact ⟨rfl, q1⟩
  have hsm := hB rfl
  have hL0 := HL.out hsm.n
  have hc5 : ∀ y ∈ x.2.2.2.1, y.2.2.2.2.1.length ≤ 5000 ∧ y.2.2.2.2.2.length ≤ 5000 := fun y hy => by
    obtain ⟨j, hj, rfl⟩ := List.mem_iff_getElem.1 hy
    have := hsm.c j hj
    rwa [getElem!_pos x.2.2.2.1 j hj] at this
  have hLX : LX w s.A b off css x.2.2.2.1 := hL0.lx (fun y hy => by have := hc5 y hy; omega)
  have hOWN := Aside0.mk (own_c s x w1 (HS.out.below q1) b off css (hLX.below q1) (by have := hsm.g; omega) (by have := hsm.v; omega) (by have := hsm.l; omega))
  have SM := Aside0.mk hsm
  have LXw := Aside0.mk hLX
  have C5 := Aside0.mk hc5
  clear hsm hB hL0 hLX hc5 HL q0 k0 hs0
  go_wp2_with (refine wpList_load_row rfl 30 (.tmp 2) rfl w.heap.size rfl 30 _ (0, 0) _ k1 Try.underlying30 rfl (hi30 _ rfl) ?_)
  refine hOWN.out.mono ?_
  rintro e w2 ⟨s', rfl, hs', hb⟩
  have k2 := (hb.block w.heap.size hs1).trans k1
  have q2 : Below w.heap.size w w2 := q1.trans (hb.mono q1.size)
  have hs2 : w.heap.size < w2.heap.size := by have := hb.size; omega
  obtain ⟨b', off', css', hL'⟩ := hs'.lx0 HW.out (by have := SM.out.n; have := hN.out; have := hs'.n; omega)
  have hLX' : LX w2 s'.A b' off' css' x.2.2.2.1 := hL'.lx (fun y hy => by have := C5.out y hy; omega)
  clear hb k1 q1 hs1 hOWN hL' W0 HW
  have HS' := Aside0.mk hs'
  have LXo := Aside0.mk hLX'
  clear hs' hLX'
  have k3 := blk_alloc k2 (.cells s'.cells 30)
  have g3 := blk_new w2 (.cells s'.cells 30)
  have b23 : Below w2.heap.size w2 (w2.alloc (.cells s'.cells 30)) := (Below.refl _ w2).alloc (Nat.le_refl _) _
  have hs3 : (w2.alloc (.cells s'.cells 30)).heap.size = w2.heap.size + 1 := by simp
  go_wp2_with (first | (refine wpList_store_new rfl 30 (.tmp 5) (.tmp 16) rfl s'.cells _ 30 rfl rfl (hi30 _ rfl) rfl (sound_cells_one s') ?_) | (refine wpList_load_row rfl 30 (.tmp 2) rfl w.heap.size rfl 30 _ (0, 0) _ k3 Try.underlying30 rfl (hi30 _ rfl) ?_))
  generalize (w2.alloc (.cells s'.cells 30)) = w3 at k3 g3 b23 hs3 ⊢
  have q3 : Below w.heap.size w w3 := q2.trans (b23.mono q2.size)
  have S3 := HS.out.below q3
  have O3 := HS'.out.below b23
  have L3 := LXw.out.below q3
  have P3 := LXo.out.below b23
  have hg : w2.heap.size < w3.heap.size := by omega
  have hbx : w.heap.size < w3.heap.size := by omega
  generalize w2.heap.size = g at *
  clear LXo HS' q2 k2 b23 hs2 hs3
  have hn1 : s.n = css.length := by rw [L3.len]; exact S3.n
  have hcp1 : s.n ≤ s.cap := by rw [S3.n]; exact S3.cap
  have hn2 : s'.n = css'.length := by rw [P3.len]; exact O3.n
  have hsi : s.si = s'.si := S3.si.trans O3.si.symm
  have hst : s.st = s'.st := S3.st.trans O3.st.symm
  have hit : its css = its css' := by rw [L3.its_eq, P3.its_eq]
  have hv5 : x.2.2.1.2.2.1.1.length ≤ 5000 := by have := SM.out.v; have := S3.Vn; omega
  have hl5 : x.2.2.1.2.2.1.2.length ≤ 5000 := by have := SM.out.l; have := S3.Ln; omega
  have C18 := Aside0.mk (council_c s x b off css w3 S3 L3 (by omega) (by omega) index)
  have C19 : Aside0 (∀ W, Below w3.heap.size w3 W → Calls Try.prog 19 #[.agg s'.cells, .int .i64 index] W fun e w' => ∃ V L : Value, e = .returned (.tuple #[.agg #[V, L], .int .i64 (couX (sndX s x.2.2.2.1) index (sndC s x, (s.sound css).si) (sndX s x.2.2.2.1).length).2]) ∧
      (Kd.int .i64).R 3 w' W.heap.size (fun _ => True) V (couX (sndX s x.2.2.2.1) index (sndC s x, (s.sound css).si) (sndX s x.2.2.2.1).length).1.1 ∧ (Kd.int .i64).R 3 w' W.heap.size (fun _ => True) L (couX (sndX s x.2.2.2.1) index (sndC s x, (s.sound css).si) (sndX s x.2.2.2.1).length).1.2 ∧ Below W.heap.size W w') :=
    ⟨fun W hW => by
      have := rcouncil_c s' x b' off' css' W (O3.below hW) (P3.below hW) (by omega) (by omega) (fun y hy => by have := C5.out y hy; omega) index
      rw [cou_same hsi hit index] at this
      exact this⟩
  have C22 : Aside0 (∀ W, Below w3.heap.size w3 W → Calls Try.prog 22 #[.agg s.cells, .int .i64 index] W fun e w' => e = .returned (.int .i64 (runV s css index)) ∧ Below W.heap.size W w') :=
    ⟨fun W hW => run_c s b off css W ((L3.below hW).lg hn1) index⟩
  have C23 : Aside0 (∀ W, Below w3.heap.size w3 W → Calls Try.prog 23 #[.agg s'.cells, .int .i64 index] W fun e w' => e = .returned (.int .i64 (runV s css index)) ∧ Below W.heap.size W w') :=
    ⟨fun W hW => by rw [runV_same hsi hst hit index]; exact rrun_c s' b' off' css' W ((P3.below hW).lg hn2) index ri⟩
  have C24 : Aside0 (∀ W, Below w3.heap.size w3 W → Calls Try.prog 24 #[.agg s.cells, .agg s'.cells] W fun e w' => e = .returned (.bool true) ∧ Below W.heap.size W w') :=
    ⟨fun W hW => same_c s s' x W (S3.below hW) (O3.below hW) b off css (L3.below hW) b' off' css' (P3.below hW) (fun y hy => by have := C5.out y hy; omega) (by omega) (by omega) (by have := SM.out.g; have := S3.Gn; omega)⟩
  have hcb : (couX (sndX s x.2.2.2.1) index (sndC s x, (s.sound css).si) (sndX s x.2.2.2.1).length).1.1.length ≤ 5000 ∧ (couX (sndX s x.2.2.2.1) index (sndC s x, (s.sound css).si) (sndX s x.2.2.2.1).length).1.2.length ≤ 5000 := by
    have hz : (sndC s x).1.length ≤ 5000 ∧ (sndC s x).2.length ≤ 5000 := by unfold sndC; split; exact ⟨hv5, hl5⟩; exact ⟨by simp, by simp⟩
    have hy : ∀ y ∈ sndX s x.2.2.2.1, y.2.2.2.2.1.length ≤ 5000 ∧ y.2.2.2.2.2.length ≤ 5000 := fun y hy => C5.out y (sndX_mem hy)
    exact cou_bound _ index _ hy hz _ (Nat.le_refl _)
  generalize runV s css index = rv at *
  generalize couX (sndX s x.2.2.2.1) index (sndC s x, (s.sound css).si) (sndX s x.2.2.2.1).length = cvt at *
  clear HS hN LXw SM C5 S3 O3 L3 P3 hn1 hcp1 hn2 hsi hst hit hv5 hl5 b off css b' off' css' x
  obtain ⟨⟨cv1, cv2⟩, cat⟩ := cvt
  dsimp only at *
  refine C18.out.mono ?_
  have hi24 : ∀ cells : Array Value, cells.size = 2 → (Try.prog.info? 24).map (·.size) = some cells.size := fun c hc => by rw [hc]; exact size24
  rintro e w4 ⟨V, L, rfl, hV, hL, hb⟩
  have B4 : Below w3.heap.size w3 w4 := hb
  obtain ⟨Bv, dv, hv1, hvt⟩ := own_ints (Kd.R_bound hV)
  obtain ⟨Bl, dl, hl1, hlt⟩ := own_ints (Kd.R_bound hL)
  subst hv1 hl1
  have k4 := (hb.block _ hbx).trans k3
  have g4 := (hb.block _ hg).trans g3
  have RV4 := Aside0.mk hV
  have RL4 := Aside0.mk hL
  clear C18 hV hL hb
  obtain ⟨n1, hn1⟩ : ∃ n, cv1.length = n := ⟨_, rfl⟩
  obtain ⟨n2, hn2⟩ : ∃ n, cv2.length = n := ⟨_, rfl⟩
  rw [hn1] at hvt hcb RV4 ⊢
  rw [hn2] at hlt hcb RL4 ⊢
  have N1 := Aside0.mk hn1
  have N2 := Aside0.mk hn2
  have VT := Aside0.mk hvt
  have LT := Aside0.mk hlt
  clear hn1 hn2 hvt hlt
  have k5 := blk_alloc k4 (.cells #[.slice Bv n1 dv, .slice Bl n2 dl] 24)
  have g5 := blk_alloc g4 (.cells #[.slice Bv n1 dv, .slice Bl n2 dl] 24)
  have c5 := blk_new w4 (.cells #[.slice Bv n1 dv, .slice Bl n2 dl] 24)
  have B5 : Below w3.heap.size w3 (w4.alloc (.cells #[.slice Bv n1 dv, .slice Bl n2 dl] 24)) := B4.alloc B4.size _
  have q5 : Below w4.heap.size w4 (w4.alloc (.cells #[.slice Bv n1 dv, .slice Bl n2 dl] 24)) := (Below.refl _ w4).alloc (Nat.le_refl _) _
  have hs5 : (w4.alloc (.cells #[.slice Bv n1 dv, .slice Bl n2 dl] 24)).heap.size = w4.heap.size + 1 := by simp
  go_wp2_with (refine wpList_load_row rfl 30 (.tmp 5) rfl g rfl 30 _ (0, 0) _ g5 Try.underlying30 rfl (hi30 _ rfl) ?_)
  generalize (w4.alloc (.cells #[.slice Bv n1 dv, .slice Bl n2 dl] 24)) = w5 at k5 g5 c5 B5 q5 hs5 ⊢
  have RV5 := Aside0.mk (Kd.R_below RV4.out q5)
  have RL5 := Aside0.mk (Kd.R_below RL4.out q5)
  have VT5 : Aside0 (0 < n1 → ∃ p, Bv = some ⟨p, 0, none⟩ ∧ w3.heap.size ≤ p ∧ p < w4.heap.size ∧ w5.there p 0 n1) := ⟨fun g0 => by
    obtain ⟨p, e1, e2, e3, e4⟩ := VT.out g0
    refine ⟨p, e1, e2, e3.2.2.1, fun j hj => ?_⟩
    obtain ⟨h1, h2⟩ := e4 j hj
    have hbk := q5.block p e3.2.2.1
    simp only [World.cell?, World.frozen?, hbk] at h1 h2 ⊢
    exact ⟨h1, h2⟩⟩
  have LT5 : Aside0 (0 < n2 → ∃ p, Bl = some ⟨p, 0, none⟩ ∧ w3.heap.size ≤ p ∧ p < w4.heap.size ∧ w5.there p 0 n2) := ⟨fun g0 => by
    obtain ⟨p, e1, e2, e3, e4⟩ := LT.out g0
    refine ⟨p, e1, e2, e3.2.2.1, fun j hj => ?_⟩
    obtain ⟨h1, h2⟩ := e4 j hj
    have hbk := q5.block p e3.2.2.1
    simp only [World.cell?, World.frozen?, hbk] at h1 h2 ⊢
    exact ⟨h1, h2⟩⟩
  have hp6 : w3.heap.size ≤ w4.heap.size := B4.size
  generalize w4.heap.size = p6 at *
  clear k4 g4 RV4 RL4 VT LT B4 q5
  refine (C19.out w5 B5).mono ?_
  rintro e w6 ⟨V, L, rfl, hV, hL, hb⟩
  obtain ⟨Bw, dw, rfl⟩ := Kd.R_slice hV
  obtain ⟨Bm, dm, rfl⟩ := Kd.R_slice hL
  have B6 : Below w3.heap.size w3 w6 := B5.trans (hb.mono B5.size)
  have k6 := (hb.block _ (by omega)).trans k5
  have g6 := (hb.block _ (by omega)).trans g5
  have c6 := (hb.block _ (by omega)).trans c5
  have RV6 := Aside0.mk (Kd.R_below RV5.out hb)
  have RL6 := Aside0.mk (Kd.R_below RL5.out hb)
  have RW6 := Aside0.mk hV
  have RM6 := Aside0.mk hL
  have VT6 : Aside0 (0 < n1 → ∃ p, Bv = some ⟨p, 0, none⟩ ∧ w3.heap.size ≤ p ∧ p < p6 ∧ w6.there p 0 n1) := ⟨fun g0 => by
    obtain ⟨p, e1, e2, e3, e4⟩ := VT5.out g0
    refine ⟨p, e1, e2, e3, fun j hj => ?_⟩
    obtain ⟨h1, h2⟩ := e4 j hj
    have hbk := hb.block p (by omega)
    simp only [World.cell?, World.frozen?, hbk] at h1 h2 ⊢
    exact ⟨h1, h2⟩⟩
  have LT6 : Aside0 (0 < n2 → ∃ p, Bl = some ⟨p, 0, none⟩ ∧ w3.heap.size ≤ p ∧ p < p6 ∧ w6.there p 0 n2) := ⟨fun g0 => by
    obtain ⟨p, e1, e2, e3, e4⟩ := LT5.out g0
    refine ⟨p, e1, e2, e3, fun j hj => ?_⟩
    obtain ⟨h1, h2⟩ := e4 j hj
    have hbk := hb.block p (by omega)
    simp only [World.cell?, World.frozen?, hbk] at h1 h2 ⊢
    exact ⟨h1, h2⟩⟩
  have hp7 : p6 < w6.heap.size := (Array.getElem?_eq_some_iff.1 c6).1
  dsimp only
  rw [N1.out] at RW6 ⊢
  rw [N2.out] at RM6 ⊢
  clear hb hV hL VT5 LT5 RV5 RL5 k5 g5 c5 B5 hs5 C19
  have k7 := blk_alloc k6 (.cells #[.slice Bw n1 dw, .slice Bm n2 dm] 24)
  have g7 := blk_alloc g6 (.cells #[.slice Bw n1 dw, .slice Bm n2 dm] 24)
  have c7 := blk_alloc c6 (.cells #[.slice Bw n1 dw, .slice Bm n2 dm] 24)
  have d7 := blk_new w6 (.cells #[.slice Bw n1 dw, .slice Bm n2 dm] 24)
  have B7 : Below w3.heap.size w3 (w6.alloc (.cells #[.slice Bw n1 dw, .slice Bm n2 dm] 24)) := B6.alloc B6.size _
  have q7 : Below w6.heap.size w6 (w6.alloc (.cells #[.slice Bw n1 dw, .slice Bm n2 dm] 24)) := (Below.refl _ w6).alloc (Nat.le_refl _) _
  have H20 : Aside0 (Calls Try.prog 20 #[.agg #[.slice Bv n1 dv, .slice Bl n2 dl], .agg #[.slice Bw n1 dw, .slice Bm n2 dm]] (w6.alloc (.cells #[.slice Bw n1 dw, .slice Bm n2 dm] 24)) fun e w' => e = .returned (.bool true) ∧ Below (w6.alloc (.cells #[.slice Bw n1 dw, .slice Bm n2 dm] 24)).heap.size (w6.alloc (.cells #[.slice Bw n1 dw, .slice Bm n2 dm] 24)) w') := ⟨by
    obtain ⟨a1, a2, a3⟩ := Kd.R_reads' RV6.out
    obtain ⟨b1, b2, b3⟩ := Kd.R_reads' RL6.out
    obtain ⟨c1, c2, c3⟩ := Kd.R_reads' RW6.out
    obtain ⟨d1, d2, d3⟩ := Kd.R_reads' RM6.out
    have := r08_SameCouncil.calls (cv1.length + cv2.length + 1) Bv dv cv1 Bl dl cv2 Bw dw cv1 Bm dm cv2 true (w6.alloc (.cells #[.slice Bw n1 dw, .slice Bm n2 dm] 24)) (Kd.C_below a3 q7) (by omega) (Kd.C_below b3 q7) (by omega) (Kd.C_below c3 q7) (by omega) (Kd.C_below d3 q7) (by omega) (council_f cv1 cv2 (by omega) (by omega))
    rw [N1.out, N2.out] at this
    exact this⟩
  have VT7 : Aside0 (0 < n1 → ∃ p, Bv = some ⟨p, 0, none⟩ ∧ w3.heap.size ≤ p ∧ p < p6 ∧ (w6.alloc (.cells #[.slice Bw n1 dw, .slice Bm n2 dm] 24)).there p 0 n1) := ⟨fun g0 => by
    obtain ⟨p, e1, e2, e3, e4⟩ := VT6.out g0
    exact ⟨p, e1, e2, e3, World.there_alloc e4 _⟩⟩
  have LT7 : Aside0 (0 < n2 → ∃ p, Bl = some ⟨p, 0, none⟩ ∧ w3.heap.size ≤ p ∧ p < p6 ∧ (w6.alloc (.cells #[.slice Bw n1 dw, .slice Bm n2 dm] 24)).there p 0 n2) := ⟨fun g0 => by
    obtain ⟨p, e1, e2, e3, e4⟩ := LT6.out g0
    exact ⟨p, e1, e2, e3, World.there_alloc e4 _⟩⟩
  clear RV6 RL6 RW6 RM6 VT6 LT6 k6 g6 c6 B6 q7
  go_wp2_with (first | (refine wpList_load_row_if (by rfl) 24 (.tmp 6) rfl p6 rfl 24 _ (0, 0) _ c7 Try.underlying24 rfl (hi24 _ rfl) ?_) | (refine wpList_load_row_if (by rfl) 24 (.tmp 8) rfl w6.heap.size rfl 24 _ (0, 0) _ d7 Try.underlying24 rfl (hi24 _ rfl) ?_))
  refine H20.out.mono ?_
  rintro e w8 ⟨rfl, hb⟩
  have c8 := (hb.block p6 (by simp; omega)).trans c7
  have hq8 := hb
  have B8 : Below w3.heap.size w3 w8 := B7.trans (hb.mono B7.size)
  have VT8 : 0 < n1 → ∃ p, Bv = some ⟨p, 0, none⟩ ∧ w3.heap.size ≤ p ∧ p < p6 ∧ w8.there p 0 n1 := fun g0 => by
    obtain ⟨p, e1, e2, e3, e4⟩ := VT7.out g0
    refine ⟨p, e1, e2, e3, fun j hj => ?_⟩
    obtain ⟨h1, h2⟩ := e4 j hj
    have hbk := hb.block p (by simp; omega)
    simp only [World.cell?, World.frozen?, hbk] at h1 h2 ⊢
    exact ⟨h1, h2⟩
  have LT8 : 0 < n2 → ∃ p, Bl = some ⟨p, 0, none⟩ ∧ w3.heap.size ≤ p ∧ p < p6 ∧ w8.there p 0 n2 := fun g0 => by
    obtain ⟨p, e1, e2, e3, e4⟩ := LT7.out g0
    refine ⟨p, e1, e2, e3, fun j hj => ?_⟩
    obtain ⟨h1, h2⟩ := e4 j hj
    have hbk := hb.block p (by simp; omega)
    simp only [World.cell?, World.frozen?, hbk] at h1 h2 ⊢
    exact ⟨h1, h2⟩
  clear hb hq8 VT7 LT7 H20 k7 g7 c7 d7 B7
  generalize w6.heap.size = p8 at *
  go_wp2_with fail
  go_loopg [11] n1 (fun gg s_ wr => ∃ kk : Nat, kk ≤ n1 ∧ n1 - kk ≤ gg ∧ s_ = .int .i64 kk ∧ Aside (Below w3.heap.size w3 wr) ∧ Aside (wr.heap[p6]? = some (.cells #[.slice Bv n1 dv, .slice Bl n2 dl] 24 (0, 0))) ∧ Aside (0 < n1 → ∃ p, Bv = some ⟨p, 0, none⟩ ∧ w3.heap.size ≤ p ∧ p < p6 ∧ wr.there p 0 n1) ∧ Aside (0 < n2 → ∃ p, Bl = some ⟨p, 0, none⟩ ∧ w3.heap.size ≤ p ∧ p < p6 ∧ wr.there p 0 n2))
  case atStart => exact ⟨0, by omega, by omega, rfl, B8, c8, VT8, LT8⟩
  clear B8 c8 VT8 LT8
  case round =>
    obtain ⟨kk, hk, hgg, rfl, B, C, VT, LT⟩ := hrel
    have cc := C.out
    have cs0 : wr.cell? ⟨p6, 0, none⟩ = some (.slice Bv n1 dv) := cell_heap cc rfl
    by_cases hlt : kk < n1
    · have hltz : (kk : Int) < (n1 : Int) := by omega
      obtain ⟨p, e1, e2, e3, e4⟩ := VT.out (by omega)
      obtain ⟨u, cu, fu⟩ := there_at e4 kk hlt
      rw [Nat.zero_add] at cu fu
      have hVT : Aside0 (0 < n1 → ∃ p', Bv = some ⟨p', 0, none⟩ ∧ w3.heap.size ≤ p' ∧ p' < p6 ∧ (wr.setCell ⟨p, kk, none⟩ (.int .i64 77)).there p' 0 n1) := ⟨fun g0 => by
        obtain ⟨p', a1, a2, a3, a4⟩ := VT.out g0
        exact ⟨p', a1, a2, a3, there_setCell a4 _ rfl _⟩⟩
      have hLT : Aside0 (0 < n2 → ∃ p', Bl = some ⟨p', 0, none⟩ ∧ w3.heap.size ≤ p' ∧ p' < p6 ∧ (wr.setCell ⟨p, kk, none⟩ (.int .i64 77)).there p' 0 n2) := ⟨fun g0 => by
        obtain ⟨p', a1, a2, a3, a4⟩ := LT.out g0
        exact ⟨p', a1, a2, a3, there_setCell a4 _ rfl _⟩⟩
      have hC9 : Aside0 ((wr.setCell ⟨p, kk, none⟩ (.int .i64 77)).heap[p6]? = some (.cells #[.slice Bv n1 dv, .slice Bl n2 dl] 24 (0, 0))) := ⟨(heap_set_other (by omega) kk _).trans cc⟩
      have hB9 : Aside0 (Below w3.heap.size w3 (wr.setCell ⟨p, kk, none⟩ (.int .i64 77))) := ⟨B.out.setCell (p := ⟨p, kk, none⟩) e2 _⟩
      have E1 := Aside0.mk e1
      rw [e1] at cs0
      clear e1 e4 cc
      go_wp2_with fail
      go_roundg (n1 - (kk + 1))
      case measure => omega
      case rel => exact ⟨kk + 1, by omega, by omega, by go_num, hB9.out, hC9.out, hVT.out, hLT.out⟩
    · have hltz : ¬ (kk : Int) < (n1 : Int) := by omega
      have B0 := Aside0.mk B.out
      have C0 := Aside0.mk C.out
      have V0 := Aside0.mk VT.out
      have T0 := Aside0.mk LT.out
      go_wp2_with fail
      go_loopg [12] n2 (fun gg s_ wr => ∃ kk : Nat, kk ≤ n2 ∧ n2 - kk ≤ gg ∧ s_ = .int .i64 kk ∧ Aside (Below w3.heap.size w3 wr) ∧ Aside (wr.heap[p6]? = some (.cells #[.slice Bv n1 dv, .slice Bl n2 dl] 24 (0, 0))) ∧ Aside (0 < n1 → ∃ p, Bv = some ⟨p, 0, none⟩ ∧ w3.heap.size ≤ p ∧ p < p6 ∧ wr.there p 0 n1) ∧ Aside (0 < n2 → ∃ p, Bl = some ⟨p, 0, none⟩ ∧ w3.heap.size ≤ p ∧ p < p6 ∧ wr.there p 0 n2))
      case atStart => exact ⟨0, by omega, by omega, rfl, B0.out, C0.out, V0.out, T0.out⟩
      clear B0 C0 V0 T0 B C VT LT cc cs0 hgg hlt hltz hk
      case round =>
        obtain ⟨kk, hk, hgg, rfl, B, C, VT, LT⟩ := hrel
        have cc := C.out
        have cs0 : wr.cell? ⟨p6, 1, none⟩ = some (.slice Bl n2 dl) := cell_heap cc rfl
        by_cases hlt : kk < n2
        · have hltz : (kk : Int) < (n2 : Int) := by omega
          obtain ⟨p, e1, e2, e3, e4⟩ := LT.out (by omega)
          obtain ⟨u, cu, fu⟩ := there_at e4 kk hlt
          rw [Nat.zero_add] at cu fu
          have hVT : Aside0 (0 < n1 → ∃ p', Bv = some ⟨p', 0, none⟩ ∧ w3.heap.size ≤ p' ∧ p' < p6 ∧ (wr.setCell ⟨p, kk, none⟩ (.int .i64 77)).there p' 0 n1) := ⟨fun g0 => by
            obtain ⟨p', a1, a2, a3, a4⟩ := VT.out g0
            exact ⟨p', a1, a2, a3, there_setCell a4 _ rfl _⟩⟩
          have hLT : Aside0 (0 < n2 → ∃ p', Bl = some ⟨p', 0, none⟩ ∧ w3.heap.size ≤ p' ∧ p' < p6 ∧ (wr.setCell ⟨p, kk, none⟩ (.int .i64 77)).there p' 0 n2) := ⟨fun g0 => by
            obtain ⟨p', a1, a2, a3, a4⟩ := LT.out g0
            exact ⟨p', a1, a2, a3, there_setCell a4 _ rfl _⟩⟩
          have hC9 : Aside0 ((wr.setCell ⟨p, kk, none⟩ (.int .i64 77)).heap[p6]? = some (.cells #[.slice Bv n1 dv, .slice Bl n2 dl] 24 (0, 0))) := ⟨(heap_set_other (by omega) kk _).trans cc⟩
          have hB9 : Aside0 (Below w3.heap.size w3 (wr.setCell ⟨p, kk, none⟩ (.int .i64 77))) := ⟨B.out.setCell (p := ⟨p, kk, none⟩) e2 _⟩
          have E1 := Aside0.mk e1
          rw [e1] at cs0
          clear e1 e4 cc
          go_wp2_with fail
          go_roundg (n2 - (kk + 1))
          case measure => omega
          case rel => exact ⟨kk + 1, by omega, by omega, by go_num, hB9.out, hC9.out, hVT.out, hLT.out⟩
        · have hltz : ¬ (kk : Int) < (n2 : Int) := by omega
          have Bf := B.out
          go_wp2_with fail
          have rg1 : ∀ W, Below w3.heap.size w3 W → W.rangeAt w.heap.size 0 s.cells.toList := fun W hW => by
            have hh : W.heap[w.heap.size]? = some (.cells s.cells 30 (0, 0)) := (hW.block _ hbx).trans k3
            intro i u hiu
            simp only [Nat.zero_add]
            simp only [World.cell?, hh]
            simpa using hiu
          have rg2 : ∀ W, Below w3.heap.size w3 W → W.rangeAt g 0 s'.cells.toList := fun W hW => by
            have hh : W.heap[g]? = some (.cells s'.cells 30 (0, 0)) := (hW.block _ hg).trans g3
            intro i u hiu
            simp only [Nat.zero_add]
            simp only [World.cell?, hh]
            simpa using hiu
          have hi1 : (Try.prog.info? 30).map (·.size) = some s.cells.toList.length := hi30 _ rfl
          have hi2 : (Try.prog.info? 30).map (·.size) = some s'.cells.toList.length := hi30 _ rfl
          refine wp_region_held_drew (S := (fun W => Below w3.heap.size w3 W)) (by kernel_rfl) (by exact Bf.drew) (fun hHeld => ?_)
          refine wpAnyH_ready (rs := [0]) (by kernel_rfl) (by decide) (AllReadyH.cons rfl (fun K' hK => ?_) AllReadyH.nil)
          rw [if_pos (by rfl)]
          go_simp
          refine (councils_c _).mono ?_
          rintro e w' ⟨rfl, hb'⟩
          (try dsimp only)
          refine hK.out _ _ (by exact Below.trans (by assumption) (hb'.mono (Below.size (by assumption)))) (fun hHeld => ?_)
          clear hK
          (try simp only [Act.put, List.getElem_toArray, List.getElem_cons_zero, List.getElem_cons_succ, List.setIfInBounds_toArray, List.set_cons_zero, List.set_cons_succ])
          refine wpAnyH_take (i := 1) (oi := _) (v := ?_) rfl (by kernel_rfl) (by kernel_rfl) (by kernel_rfl) (fun _ _ _ h => h) (Or.inl ⟨by rfl, ?_⟩) (by assumption) ?_
          rotate_left
          · (intro w hSw; (try dsimp only at hSw); go_simp; (try with_reducible rfl))
          (try simp only [Act.put, List.getElem_toArray, List.getElem_cons_zero, List.getElem_cons_succ, List.setIfInBounds_toArray, List.set_cons_zero, List.set_cons_succ])
          refine wpAnyH_take (i := 2) (oi := _) (v := ?_) rfl (by kernel_rfl) (by kernel_rfl) (by kernel_rfl) (fun _ _ _ h => h) (Or.inl ⟨by rfl, ?_⟩) (by assumption) ?_
          rotate_left
          · (intro w hSw; (try dsimp only at hSw); go_simp; (try with_reducible rfl))
          (try simp only [Act.put, List.getElem_toArray, List.getElem_cons_zero, List.getElem_cons_succ, List.setIfInBounds_toArray, List.set_cons_zero, List.set_cons_succ])
          refine wpAnyH_take (i := 3) (oi := _) (v := ?_) rfl (by kernel_rfl) (by kernel_rfl) (by kernel_rfl) (fun _ _ _ h => h) (Or.inl ⟨by rfl, ?_⟩) (by assumption) ?_
          rotate_left
          · (intro w hSw; (try dsimp only at hSw); go_simp; (try with_reducible rfl))
          (try simp only [Act.put, List.getElem_toArray, List.getElem_cons_zero, List.getElem_cons_succ, List.setIfInBounds_toArray, List.set_cons_zero, List.set_cons_succ])
          refine wpAnyH_take (i := 4) (oi := _) (v := ?_) rfl (by kernel_rfl) (by kernel_rfl) (by kernel_rfl) (fun _ _ _ h => h) (Or.inl ⟨by rfl, ?_⟩) (by assumption) ?_
          rotate_left
          · (intro w hSw; (try dsimp only at hSw); go_simp; (try with_reducible rfl))
          (try simp only [Act.put, List.getElem_toArray, List.getElem_cons_zero, List.getElem_cons_succ, List.setIfInBounds_toArray, List.set_cons_zero, List.set_cons_succ])
          refine wpAnyH_take (i := 5) (oi := _) (v := _) rfl (by kernel_rfl) (by kernel_rfl) (by kernel_rfl) (fun _ _ _ h => h) (yieldsIf_load_mid (by rfl) 30 (.tmp 2) rfl w.heap.size 0 rfl s.cells.toList _ rg1 Try.underlying30 rfl hi1) (by assumption) ?_
          (try simp only [Act.put, List.getElem_toArray, List.getElem_cons_zero, List.getElem_cons_succ, List.setIfInBounds_toArray, List.set_cons_zero, List.set_cons_succ])
          refine wpAnyH_take (i := 6) (oi := _) (v := ?_) rfl (by kernel_rfl) (by kernel_rfl) (by kernel_rfl) (fun _ _ _ h => h) (Or.inl ⟨by rfl, ?_⟩) (by assumption) ?_
          rotate_left
          · (intro w hSw; (try dsimp only at hSw); go_simp; (try with_reducible rfl))
          (try simp only [Act.put, List.getElem_toArray, List.getElem_cons_zero, List.getElem_cons_succ, List.setIfInBounds_toArray, List.set_cons_zero, List.set_cons_succ])
          refine wpAnyH_take (i := 8) (oi := _) (v := _) rfl (by kernel_rfl) (by kernel_rfl) (by kernel_rfl) (fun _ _ _ h => h) (yieldsIf_load_mid (by rfl) 30 (.tmp 5) rfl g 0 rfl s'.cells.toList _ rg2 Try.underlying30 rfl hi2) (by assumption) ?_
          (try simp only [Act.put, List.getElem_toArray, List.getElem_cons_zero, List.getElem_cons_succ, List.setIfInBounds_toArray, List.set_cons_zero, List.set_cons_succ])
          refine wpAnyH_take (i := 9) (oi := _) (v := ?_) rfl (by kernel_rfl) (by kernel_rfl) (by kernel_rfl) (fun _ _ _ h => h) (Or.inl ⟨by rfl, ?_⟩) (by assumption) ?_
          rotate_left
          · (intro w hSw; (try dsimp only at hSw); go_simp; (try with_reducible rfl))
          (try simp only [Act.put, List.getElem_toArray, List.getElem_cons_zero, List.getElem_cons_succ, List.setIfInBounds_toArray, List.set_cons_zero, List.set_cons_succ])
          refine wpAnyH_ready (rs := [7]) (by kernel_rfl) (by decide) (AllReadyH.cons rfl (fun K' hK => ?_) AllReadyH.nil)
          rw [if_pos (by rfl)]
          go_simp
          refine (C22.out _ (by assumption)).mono ?_
          rintro e w' ⟨rfl, hb'⟩
          (try dsimp only)
          refine hK.out _ _ (by exact Below.trans (by assumption) (hb'.mono (Below.size (by assumption)))) (fun hHeld => ?_)
          clear hK
          (try simp only [Act.put, List.getElem_toArray, List.getElem_cons_zero, List.getElem_cons_succ, List.setIfInBounds_toArray, List.set_cons_zero, List.set_cons_succ])
          refine wpAnyH_ready (rs := [10]) (by kernel_rfl) (by decide) (AllReadyH.cons rfl (fun K' hK => ?_) AllReadyH.nil)
          rw [if_pos (by rfl)]
          go_simp
          refine (C23.out _ (by assumption)).mono ?_
          rintro e w' ⟨rfl, hb'⟩
          (try dsimp only)
          refine hK.out _ _ (by exact Below.trans (by assumption) (hb'.mono (Below.size (by assumption)))) (fun hHeld => ?_)
          clear hK
          (try simp only [Act.put, List.getElem_toArray, List.getElem_cons_zero, List.getElem_cons_succ, List.setIfInBounds_toArray, List.set_cons_zero, List.set_cons_succ])
          refine wpAnyH_take (i := 11) (oi := _) (v := ?_) rfl (by kernel_rfl) (by kernel_rfl) (by kernel_rfl) (fun _ _ _ h => h) (Or.inl ⟨by rfl, ?_⟩) (by assumption) ?_
          rotate_left
          · (intro w hSw; (try dsimp only at hSw); go_simp; (try with_reducible rfl))
          (try simp only [Act.put, List.getElem_toArray, List.getElem_cons_zero, List.getElem_cons_succ, List.setIfInBounds_toArray, List.set_cons_zero, List.set_cons_succ])
          refine wpAnyH_take (i := 12) (oi := _) (v := ?_) rfl (by kernel_rfl) (by kernel_rfl) (by kernel_rfl) (fun _ _ _ h => h) (Or.inl ⟨by rfl, ?_⟩) (by assumption) ?_
          rotate_left
          · (intro w hSw; (try dsimp only at hSw); go_simp; (try with_reducible rfl))
          (try simp only [Act.put, List.getElem_toArray, List.getElem_cons_zero, List.getElem_cons_succ, List.setIfInBounds_toArray, List.set_cons_zero, List.set_cons_succ])
          refine wpAnyH_take (i := 13) (oi := _) (v := ?_) rfl (by kernel_rfl) (by kernel_rfl) (by kernel_rfl) (fun _ _ _ h => h) (Or.inl ⟨by rfl, ?_⟩) (by assumption) ?_
          rotate_left
          · (intro w hSw; (try dsimp only at hSw); go_simp; (try with_reducible rfl))
          (try simp only [Act.put, List.getElem_toArray, List.getElem_cons_zero, List.getElem_cons_succ, List.setIfInBounds_toArray, List.set_cons_zero, List.set_cons_succ])
          refine wpAnyH_take (i := 14) (oi := _) (v := _) rfl (by kernel_rfl) (by kernel_rfl) (by kernel_rfl) (fun _ _ _ h => h) (yieldsIf_load_mid (by rfl) 30 (.tmp 2) rfl w.heap.size 0 rfl s.cells.toList _ rg1 Try.underlying30 rfl hi1) (by assumption) ?_
          (try simp only [Act.put, List.getElem_toArray, List.getElem_cons_zero, List.getElem_cons_succ, List.setIfInBounds_toArray, List.set_cons_zero, List.set_cons_succ])
          refine wpAnyH_take (i := 15) (oi := _) (v := _) rfl (by kernel_rfl) (by kernel_rfl) (by kernel_rfl) (fun _ _ _ h => h) (yieldsIf_load_mid (by rfl) 30 (.tmp 5) rfl g 0 rfl s'.cells.toList _ rg2 Try.underlying30 rfl hi2) (by assumption) ?_
          (try simp only [Act.put, List.getElem_toArray, List.getElem_cons_zero, List.getElem_cons_succ, List.setIfInBounds_toArray, List.set_cons_zero, List.set_cons_succ])
          refine wpAnyH_ready (rs := [16]) (by kernel_rfl) (by decide) (AllReadyH.cons rfl (fun K' hK => ?_) AllReadyH.nil)
          rw [if_pos (by rfl)]
          go_simp
          refine (C24.out _ (by assumption)).mono ?_
          rintro e w' ⟨rfl, hb'⟩
          (try dsimp only)
          refine hK.out _ _ (by exact Below.trans (by assumption) (hb'.mono (Below.size (by assumption)))) (fun hHeld => ?_)
          clear hK
          (try simp only [Act.put, List.getElem_toArray, List.getElem_cons_zero, List.getElem_cons_succ, List.setIfInBounds_toArray, List.set_cons_zero, List.set_cons_succ])
          refine wpAnyH_take (i := 17) (oi := _) (v := ?_) rfl (by kernel_rfl) (by kernel_rfl) (by kernel_rfl) (fun _ _ _ h => h) (Or.inl ⟨by rfl, ?_⟩) (by assumption) ?_
          rotate_left
          · (intro w hSw; (try dsimp only at hSw); go_simp; (try with_reducible rfl))
          (try simp only [Act.put, List.getElem_toArray, List.getElem_cons_zero, List.getElem_cons_succ, List.setIfInBounds_toArray, List.set_cons_zero, List.set_cons_succ])
          refine wpAnyH_take (i := 18) (oi := _) (v := ?_) rfl (by kernel_rfl) (by kernel_rfl) (by kernel_rfl) (fun _ _ _ h => h) (Or.inl ⟨by rfl, ?_⟩) (by assumption) ?_
          rotate_left
          · (intro w hSw; (try dsimp only at hSw); go_simp; (try with_reducible rfl))
          (try simp only [Act.put, List.getElem_toArray, List.getElem_cons_zero, List.getElem_cons_succ, List.setIfInBounds_toArray, List.set_cons_zero, List.set_cons_succ])
          refine wpAnyH_done (by kernel_rfl) ?_ _
          have hfin : Below w3.heap.size w3 w' := Below.trans (by assumption) (hb'.mono (Below.size (by assumption)))
          clear hb'
          go_wp2_with fail
          go_ret
          exact ⟨rfl, q3.trans (hfin.mono q3.size)⟩
end Go.Proofs.Ytpjachbmllklgaa.Rng
