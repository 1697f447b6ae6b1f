/- A client's command is done. -/
import Derived.Test.YtadkeohohehmcaaGreatDoorAdA
namespace Go.Proofs.YtadkeohohehmcaaGreatDoor.Top
open Go.RowKit Go.Proofs.YtadkeohohehmcaaGreatDoorW.PrintWords Go.Proofs.YtadkeohohehmcaaGreatDoorW.PrintLast Go.Proofs.YtadkeohohehmcaaGreatDoorW.PrintMore Go.Proofs.YtadkeohohehmcaaGreatDoor.PTop
set_option linter.unusedVariables false
set_option linter.unusedSimpArgs false
attribute [local go_sem] Oper.semAt_some
set_option maxHeartbeats 16000000 in
set_option maxRecDepth 100000 in
theorem req_c (d : Dir) (c : Cmd) (wb n0 : Nat) (A : Array Value) (w : World) (hA : A.toList = ccells c) (hw : Wk w wb n0 d) (ok : ReqOk d c) :
    Calls Tryz.prog 17 #[.pointer (some ⟨wb, 0, none⟩), .agg A] w fun e w' => ReqPost d c n0 wb w e w' := by
  have HWK := Aside0.mk hw
  obtain ⟨hn0, x1, x2, x3, hb, hd⟩ := hw
  have AP : Aside0 (∀ (i j : Nat) (w' : World), Pos d.us.length (fun t => cmpN (nameAt d.us t) c.u) i → Pos d.ss.length (fun t => Lib.compareInt (cliAt d.ss t) c.c) j → (reqCode d c j = 0 → Wk w' wb n0 (reqD d c i j)) → Below n0 w w' → ReqPost d c n0 wb w (.returned (.int .i64 (reqCode d c j))) w') := ⟨fun i j w' a b e f => ⟨i, j, a, b, rfl, e, f⟩⟩
  have hwl := (Array.getElem?_eq_some_iff.1 hb).1
  have OK := Aside0.mk ok
  have HA := Aside0.mk hA
  have HN0 := Aside0.mk hn0
  have EX : Aside0 (∃ i, Pos d.us.length (fun t => cmpN (nameAt d.us t) c.u) i) := ⟨Pos.ex _ _ ok.add.rise'⟩
  have SC : Aside0 (∀ W, Below w.heap.size w W → Calls Tryz.prog 30 #[.pointer (some ⟨wb, 0, none⟩), .int .i64 c.c] W fun e w' => SessPost d.ss c.c W e w') := ⟨fun W hW => session_c d.ss c.c wb W ⟨_, _, _, _, (hW.block wb hwl).trans hb, Reads.below (Reads.of_own hd.2.2) hW⟩ ok.len ok.rise⟩
  have HD := Aside0.mk hd
  have HB := Aside0.mk hb
  obtain ⟨SA, sc, rfl, hsc⟩ := (Reads.of_own hd.2.2).form
  have hAl : A.size = 38 := by
    rw [← Array.length_toList, hA]
    simp [ccells, ok.root]
  have hi41 : (Tryz.prog.info? 41).map (·.size) = some A.size := by rw [hAl]; exact size41
  obtain ⟨W0, hW0⟩ : ∃ W0, w.alloc (.cells A 41) = W0 := ⟨_, rfl⟩
  have b0 : Below w.heap.size w W0 := by rw [← hW0]; exact (Below.refl _ w).alloc (Nat.le_refl _) _
  have s0 : W0.heap.size = w.heap.size + 1 := by rw [← hW0]; simp
  have k0 : W0.heap[w.heap.size]? = some (.cells A 41 (0, 0)) := by rw [← hW0]; exact blk_new w _
  have hAa : A = (ccells c).toArray := by rw [← hA]
  have c1 : W0.cell? ⟨w.heap.size, 1, none⟩ = some (.int .i64 c.c) := cell_in (l := ccells c) (by rw [← hAa]; exact k0) rfl
  have HW0 := Aside0.mk hW0
  have B0 := Aside0.mk b0
  have K41 := Aside0.mk k0
  have HAA := Aside0.mk hAa
  have S0 := Aside0.mk (SC.out W0 b0)
  have hnw : n0 ≤ w.heap.size := by omega
  have hxl0 : w.heap.size < W0.heap.size := by omega
  have hwl0 : wb < W0.heap.size := by omega
  obtain ⟨xb, hxb⟩ : ∃ xb, w.heap.size = xb := ⟨_, rfl⟩
  have HXB := Aside0.mk hxb
  rw [hxb] at c1 K41 hnw hxl0
  clear hd hb ok hW0 b0 k0 hA hAa hxb s0 hn0 SC hAl
  go_enter Tryz.func17, Tryz.ntmps17
  go_upto_region 1 with fail
  rw [HW0.out, HXB.out]
  go_upto_region 2 with (go_at_call 30; refine S0.out.mono ?_; rintro e W1 ⟨j, hp, rfl, hb1⟩; refine Aside0.out ?_)
  refine ⟨?_⟩
  have HPJ := Aside0.mk hp
  have q1 : Below w.heap.size w W1 := B0.out.trans (hb1.mono (by have := HXB.out; omega))
  have B1 := Aside0.mk (q1.mono (by have := HXB.out; omega) : Below n0 w W1)
  have K1 := Aside0.mk ((q1.block wb hwl).trans HB.out)
  have X1 := Aside0.mk ((hb1.block xb hxl0).trans K41.out)
  have D1 := Aside0.mk (DirC.below HD.out q1)
  have SZ1 := Aside0.mk q1.size
  have c1 : W1.cell? ⟨xb, 1, none⟩ = some (.int .i64 c.c) := cell_in (l := ccells c) (by rw [← HAA.out]; exact X1.out) rfl
  have c2 : W1.cell? ⟨xb, 2, none⟩ = some (.int .i64 c.s) := cell_in (l := ccells c) (by rw [← HAA.out]; exact X1.out) rfl
  have cw3 : W1.cell? ⟨wb, 3, none⟩ = some (.slice SA d.ss.length sc) := by have := K1.out; simp [World.cell?, this]
  have hxl1 : xb < W1.heap.size := (Array.getElem?_eq_some_iff.1 X1.out).1
  have hwl1 : wb < W1.heap.size := (Array.getElem?_eq_some_iff.1 K1.out).1
  clear hp q1 hb1 S0
  by_cases ht : thereS d.ss j c.c
  · have hfl : (decide (j < d.ss.length) && decide (Lib.compareInt (cliAt d.ss j) c.c = 0)) = true := by rw [decide_eq_true ht.1, decide_eq_true ht.2]; rfl
    rw [hfl]
    have hin := ht.1
    obtain ⟨g, rfl⟩ : ∃ g, SA = some ⟨g, 0, none⟩ := by
      rcases D1.out.2.2.2 with ⟨h, h0⟩ | ⟨g, cap, cur, h, _⟩
      · omega
      · injection h with h
        exact ⟨g, h⟩
    obtain ⟨sj, hsj⟩ : ∃ sj, d.ss[j]? = some sj := ⟨_, List.getElem?_eq_getElem hin⟩
    have HX1 := Aside0.mk hsj
    have hsat : sesAt d.ss j = sj := by unfold sesAt; rw [hsj]; rfl
    have g1 : W1.cell? ⟨g, j * 4 + 1, none⟩ = some (.int .i64 sj.s) := by
      have := D1.out.2.2.cells (g := g) rfl _ _ (ssC_at d.ss j sj hsj 1 _ rfl)
      rwa [Addr.add_lit, Nat.zero_add] at this
    have hgl := (D1.out.2.2.lt g rfl).2
    have hj0 : (0 : Int) ≤ (j : Int) := by omega
    have hji : (j : Int) < (d.ss.length : Int) := by omega
    have RC : Aside0 (reqCode d c j = if sj.s > c.s then 71 else 0) := ⟨by
      unfold reqCode
      rw [hsat]
      by_cases hg : sj.s > c.s
      · rw [if_pos ⟨ht, hg⟩, if_pos hg]
      · rw [if_neg (fun h => hg h.2), if_neg hg]⟩
    have RD : Aside0 (∀ i, reqD d c i j = if sj.s = c.s then d else doneD d c i j d.ss) := ⟨fun i => by
      unfold reqD ss1
      rw [hsat, if_pos ht]
      by_cases hg : sj.s = c.s
      · rw [if_pos ⟨ht, hg⟩, if_pos hg]
      · rw [if_neg (fun h => hg h.2), if_neg hg]⟩
    have DN : Aside0 (∀ i, doneD d c i j d.ss = ⟨(addD d c i).e, (addD d c i).us, (addD d c i).hs, d.ss.set j ⟨sj.c, c.s, addCode d c i, d.e⟩⟩) := ⟨fun i => by unfold doneD; rw [hsat]⟩
    clear hfl hsj hsat ht
    by_cases hgt : sj.s > c.s
    · have PP : Aside0 (∀ W : World, Below n0 w W → ReqPost d c n0 wb w (.returned (.int .i64 71)) W) := ⟨fun W hW => by
        obtain ⟨i, hi⟩ := EX.out
        have e : reqCode d c j = 71 := by rw [RC.out, if_pos hgt]
        have := AP.out i j W hi HPJ.out (fun h => by rw [e] at h; exact absurd h (by decide)) hW
        rw [e] at this
        exact this⟩
      have hgt' : c.s < sj.s := hgt
      go_upto_region 4 with fail
      refine wp_region_held_drew (S := (fun W => W.cell? ⟨wb, 3, none⟩ = some (.slice (some ⟨g, 0, none⟩) d.ss.length sc) ∧ W.cell? ⟨g, j * 4 + 1, none⟩ = some (.int .i64 sj.s) ∧ W.cell? ⟨xb, 2, none⟩ = some (.int .i64 c.s))) (by kernel_rfl) (by exact ⟨cw3, g1, c2⟩) (fun hHeld => ?_)
      refine wpAnyH_take (i := 0) (oi := _) (v := ?_) rfl (by kernel_rfl) (by kernel_rfl) (by kernel_rfl) (fun _ _ _ h => h) (Or.inl ⟨by rfl, ?_⟩) (by assumption) ?_
      rotate_left
      · (intro w hSw; (try dsimp only at hSw); obtain ⟨s1_, s2_, s3_⟩ := hSw; go_simp; (try with_reducible rfl))
      (try simp only [uA, uB, uC, uD, uE, uF, uG, uH])
      refine wpAnyH_take (i := 1) (oi := _) (v := ?_) rfl (by kernel_rfl) (by kernel_rfl) (by kernel_rfl) (fun _ _ _ h => h) (Or.inl ⟨by rfl, ?_⟩) (by assumption) ?_
      rotate_left
      · (intro w hSw; (try dsimp only at hSw); obtain ⟨s1_, s2_, s3_⟩ := hSw; go_simp; (try with_reducible rfl))
      (try simp only [uA, uB, uC, uD, uE, uF, uG, uH])
      refine wpAnyH_take (i := 2) (oi := _) (v := ?_) rfl (by kernel_rfl) (by kernel_rfl) (by kernel_rfl) (fun _ _ _ h => h) (Or.inl ⟨by rfl, ?_⟩) (by assumption) ?_
      rotate_left
      · (intro w hSw; (try dsimp only at hSw); obtain ⟨s1_, s2_, s3_⟩ := hSw; go_simp; (try with_reducible rfl))
      (try simp only [uA, uB, uC, uD, uE, uF, uG, uH])
      refine wpAnyH_take (i := 3) (oi := _) (v := ?_) rfl (by kernel_rfl) (by kernel_rfl) (by kernel_rfl) (fun _ _ _ h => h) (Or.inl ⟨by rfl, ?_⟩) (by assumption) ?_
      rotate_left
      · (intro w hSw; (try dsimp only at hSw); obtain ⟨s1_, s2_, s3_⟩ := hSw; go_simp; (try with_reducible rfl))
      (try simp only [uA, uB, uC, uD, uE, uF, uG, uH])
      refine wpAnyH_take (i := 4) (oi := _) (v := ?_) rfl (by kernel_rfl) (by kernel_rfl) (by kernel_rfl) (fun _ _ _ h => h) (Or.inl ⟨by rfl, ?_⟩) (by assumption) ?_
      rotate_left
      · (intro w hSw; (try dsimp only at hSw); obtain ⟨s1_, s2_, s3_⟩ := hSw; go_simp; (try with_reducible rfl))
      (try simp only [uA, uB, uC, uD, uE, uF, uG, uH])
      refine wpAnyH_take (i := 5) (oi := _) (v := ?_) rfl (by kernel_rfl) (by kernel_rfl) (by kernel_rfl) (fun _ _ _ h => h) (Or.inl ⟨by rfl, ?_⟩) (by assumption) ?_
      rotate_left
      · (intro w hSw; (try dsimp only at hSw); obtain ⟨s1_, s2_, s3_⟩ := hSw; go_simp; (try with_reducible rfl))
      (try simp only [uA, uB, uC, uD, uE, uF, uG, uH])
      refine wpAnyH_take (i := 6) (oi := _) (v := ?_) rfl (by kernel_rfl) (by kernel_rfl) (by kernel_rfl) (fun _ _ _ h => h) (Or.inl ⟨by rfl, ?_⟩) (by assumption) ?_
      rotate_left
      · (intro w hSw; (try dsimp only at hSw); obtain ⟨s1_, s2_, s3_⟩ := hSw; go_simp; (try with_reducible rfl))
      (try simp only [uA, uB, uC, uD, uE, uF, uG, uH])
      refine wpAnyH_take (i := 7) (oi := _) (v := ?_) rfl (by kernel_rfl) (by kernel_rfl) (by kernel_rfl) (fun _ _ _ h => h) (Or.inl ⟨by rfl, ?_⟩) (by assumption) ?_
      rotate_left
      · (intro w hSw; (try dsimp only at hSw); obtain ⟨s1_, s2_, s3_⟩ := hSw; go_simp; (try with_reducible rfl))
      (try simp only [uA, uB, uC, uD, uE, uF, uG, uH])
      refine wpAnyH_take (i := 8) (oi := _) (v := ?_) rfl (by kernel_rfl) (by kernel_rfl) (by kernel_rfl) (fun _ _ _ h => h) (Or.inl ⟨by rfl, ?_⟩) (by assumption) ?_
      rotate_left
      · (intro w hSw; (try dsimp only at hSw); obtain ⟨s1_, s2_, s3_⟩ := hSw; go_simp; (try with_reducible rfl))
      (try simp only [uA, uB, uC, uD, uE, uF, uG, uH])
      refine wpAnyH_take (i := 9) (oi := _) (v := ?_) rfl (by kernel_rfl) (by kernel_rfl) (by kernel_rfl) (fun _ _ _ h => h) (Or.inl ⟨by rfl, ?_⟩) (by assumption) ?_
      rotate_left
      · (intro w hSw; (try dsimp only at hSw); obtain ⟨s1_, s2_, s3_⟩ := hSw; go_simp; (try with_reducible rfl))
      (try simp only [uA, uB, uC, uD, uE, uF, uG, uH])
      refine wpAnyH_take (i := 10) (oi := _) (v := ?_) rfl (by kernel_rfl) (by kernel_rfl) (by kernel_rfl) (fun _ _ _ h => h) (Or.inl ⟨by rfl, ?_⟩) (by assumption) ?_
      rotate_left
      · (intro w hSw; (try dsimp only at hSw); obtain ⟨s1_, s2_, s3_⟩ := hSw; go_simp; (try with_reducible rfl))
      (try simp only [uA, uB, uC, uD, uE, uF, uG, uH])
      refine wpAnyH_take (i := 11) (oi := _) (v := ?_) rfl (by kernel_rfl) (by kernel_rfl) (by kernel_rfl) (fun _ _ _ h => h) (Or.inl ⟨by rfl, ?_⟩) (by assumption) ?_
      rotate_left
      · (intro w hSw; (try dsimp only at hSw); obtain ⟨s1_, s2_, s3_⟩ := hSw; go_simp; (try with_reducible rfl))
      (try simp only [uA, uB, uC, uD, uE, uF, uG, uH])
      refine wpAnyH_take (i := 12) (oi := _) (v := ?_) rfl (by kernel_rfl) (by kernel_rfl) (by kernel_rfl) (fun _ _ _ h => h) (Or.inl ⟨by rfl, ?_⟩) (by assumption) ?_
      rotate_left
      · (intro w hSw; (try dsimp only at hSw); obtain ⟨s1_, s2_, s3_⟩ := hSw; go_simp; (try with_reducible rfl))
      (try simp only [uA, uB, uC, uD, uE, uF, uG, uH])
      refine wpAnyH_done (by kernel_rfl) ?_ _
      clear hHeld
      go_wp2_with fail
      go_ret
      exact PP.out _ B1.out.drew
    have hgt2 : ¬ c.s < sj.s := hgt
    go_upto_region 4 with fail
    refine wp_region_held_drew (S := (fun W => W.cell? ⟨wb, 3, none⟩ = some (.slice (some ⟨g, 0, none⟩) d.ss.length sc) ∧ W.cell? ⟨g, j * 4 + 1, none⟩ = some (.int .i64 sj.s) ∧ W.cell? ⟨xb, 2, none⟩ = some (.int .i64 c.s))) (by kernel_rfl) (by exact ⟨cw3, g1, c2⟩) (fun hHeld => ?_)
    refine wpAnyH_take (i := 0) (oi := _) (v := ?_) rfl (by kernel_rfl) (by kernel_rfl) (by kernel_rfl) (fun _ _ _ h => h) (Or.inl ⟨by rfl, ?_⟩) (by assumption) ?_
    rotate_left
    · (intro w hSw; (try dsimp only at hSw); obtain ⟨s1_, s2_, s3_⟩ := hSw; go_simp; (try with_reducible rfl))
    (try simp only [uA, uB, uC, uD, uE, uF, uG, uH])
    refine wpAnyH_take (i := 1) (oi := _) (v := ?_) rfl (by kernel_rfl) (by kernel_rfl) (by kernel_rfl) (fun _ _ _ h => h) (Or.inl ⟨by rfl, ?_⟩) (by assumption) ?_
    rotate_left
    · (intro w hSw; (try dsimp only at hSw); obtain ⟨s1_, s2_, s3_⟩ := hSw; go_simp; (try with_reducible rfl))
    (try simp only [uA, uB, uC, uD, uE, uF, uG, uH])
    refine wpAnyH_take (i := 2) (oi := _) (v := ?_) rfl (by kernel_rfl) (by kernel_rfl) (by kernel_rfl) (fun _ _ _ h => h) (Or.inl ⟨by rfl, ?_⟩) (by assumption) ?_
    rotate_left
    · (intro w hSw; (try dsimp only at hSw); obtain ⟨s1_, s2_, s3_⟩ := hSw; go_simp; (try with_reducible rfl))
    (try simp only [uA, uB, uC, uD, uE, uF, uG, uH])
    refine wpAnyH_take (i := 3) (oi := _) (v := ?_) rfl (by kernel_rfl) (by kernel_rfl) (by kernel_rfl) (fun _ _ _ h => h) (Or.inl ⟨by rfl, ?_⟩) (by assumption) ?_
    rotate_left
    · (intro w hSw; (try dsimp only at hSw); obtain ⟨s1_, s2_, s3_⟩ := hSw; go_simp; (try with_reducible rfl))
    (try simp only [uA, uB, uC, uD, uE, uF, uG, uH])
    refine wpAnyH_take (i := 4) (oi := _) (v := ?_) rfl (by kernel_rfl) (by kernel_rfl) (by kernel_rfl) (fun _ _ _ h => h) (Or.inl ⟨by rfl, ?_⟩) (by assumption) ?_
    rotate_left
    · (intro w hSw; (try dsimp only at hSw); obtain ⟨s1_, s2_, s3_⟩ := hSw; go_simp; (try with_reducible rfl))
    (try simp only [uA, uB, uC, uD, uE, uF, uG, uH])
    refine wpAnyH_take (i := 5) (oi := _) (v := ?_) rfl (by kernel_rfl) (by kernel_rfl) (by kernel_rfl) (fun _ _ _ h => h) (Or.inl ⟨by rfl, ?_⟩) (by assumption) ?_
    rotate_left
    · (intro w hSw; (try dsimp only at hSw); obtain ⟨s1_, s2_, s3_⟩ := hSw; go_simp; (try with_reducible rfl))
    (try simp only [uA, uB, uC, uD, uE, uF, uG, uH])
    refine wpAnyH_take (i := 6) (oi := _) (v := ?_) rfl (by kernel_rfl) (by kernel_rfl) (by kernel_rfl) (fun _ _ _ h => h) (Or.inl ⟨by rfl, ?_⟩) (by assumption) ?_
    rotate_left
    · (intro w hSw; (try dsimp only at hSw); obtain ⟨s1_, s2_, s3_⟩ := hSw; go_simp; (try with_reducible rfl))
    (try simp only [uA, uB, uC, uD, uE, uF, uG, uH])
    refine wpAnyH_take (i := 7) (oi := _) (v := ?_) rfl (by kernel_rfl) (by kernel_rfl) (by kernel_rfl) (fun _ _ _ h => h) (Or.inl ⟨by rfl, ?_⟩) (by assumption) ?_
    rotate_left
    · (intro w hSw; (try dsimp only at hSw); obtain ⟨s1_, s2_, s3_⟩ := hSw; go_simp; (try with_reducible rfl))
    (try simp only [uA, uB, uC, uD, uE, uF, uG, uH])
    refine wpAnyH_take (i := 8) (oi := _) (v := ?_) rfl (by kernel_rfl) (by kernel_rfl) (by kernel_rfl) (fun _ _ _ h => h) (Or.inl ⟨by rfl, ?_⟩) (by assumption) ?_
    rotate_left
    · (intro w hSw; (try dsimp only at hSw); obtain ⟨s1_, s2_, s3_⟩ := hSw; go_simp; (try with_reducible rfl))
    (try simp only [uA, uB, uC, uD, uE, uF, uG, uH])
    refine wpAnyH_take (i := 9) (oi := _) (v := ?_) rfl (by kernel_rfl) (by kernel_rfl) (by kernel_rfl) (fun _ _ _ h => h) (Or.inl ⟨by rfl, ?_⟩) (by assumption) ?_
    rotate_left
    · (intro w hSw; (try dsimp only at hSw); obtain ⟨s1_, s2_, s3_⟩ := hSw; go_simp; (try with_reducible rfl))
    (try simp only [uA, uB, uC, uD, uE, uF, uG, uH])
    refine wpAnyH_take (i := 10) (oi := _) (v := ?_) rfl (by kernel_rfl) (by kernel_rfl) (by kernel_rfl) (fun _ _ _ h => h) (Or.inl ⟨by rfl, ?_⟩) (by assumption) ?_
    rotate_left
    · (intro w hSw; (try dsimp only at hSw); obtain ⟨s1_, s2_, s3_⟩ := hSw; go_simp; (try with_reducible rfl))
    (try simp only [uA, uB, uC, uD, uE, uF, uG, uH])
    refine wpAnyH_take (i := 11) (oi := _) (v := ?_) rfl (by kernel_rfl) (by kernel_rfl) (by kernel_rfl) (fun _ _ _ h => h) (Or.inl ⟨by rfl, ?_⟩) (by assumption) ?_
    rotate_left
    · (intro w hSw; (try dsimp only at hSw); obtain ⟨s1_, s2_, s3_⟩ := hSw; go_simp; (try with_reducible rfl))
    (try simp only [uA, uB, uC, uD, uE, uF, uG, uH])
    refine wpAnyH_take (i := 12) (oi := _) (v := ?_) rfl (by kernel_rfl) (by kernel_rfl) (by kernel_rfl) (fun _ _ _ h => h) (Or.inl ⟨by rfl, ?_⟩) (by assumption) ?_
    rotate_left
    · (intro w hSw; (try dsimp only at hSw); obtain ⟨s1_, s2_, s3_⟩ := hSw; go_simp; (try with_reducible rfl))
    (try simp only [uA, uB, uC, uD, uE, uF, uG, uH])
    refine wpAnyH_done (by kernel_rfl) ?_ _
    clear hHeld
    go_upto_region 6 with fail
    by_cases heq : sj.s = c.s
    · have PP : Aside0 (∀ W : World, Below W1.heap.size W1 W → ReqPost d c n0 wb w (.returned (.int .i64 0)) W) := ⟨fun W hW => by
        obtain ⟨i, hi⟩ := EX.out
        have e : reqCode d c j = 0 := by rw [RC.out, if_neg hgt]
        have := AP.out i j W hi HPJ.out (fun _ => by
          rw [RD.out i, if_pos heq]
          exact ⟨HN0.out, _, _, _, (hW.block wb hwl1).trans K1.out, DirC.below D1.out hW⟩) (B1.out.trans (hW.mono (by have := SZ1.out; have := HXB.out; omega)))
        rw [e] at this
        exact this⟩
      refine wp_region_held_drew (S := (fun W => W.cell? ⟨wb, 3, none⟩ = some (.slice (some ⟨g, 0, none⟩) d.ss.length sc) ∧ W.cell? ⟨g, j * 4 + 1, none⟩ = some (.int .i64 sj.s) ∧ W.cell? ⟨xb, 2, none⟩ = some (.int .i64 c.s))) (by kernel_rfl) (by exact ⟨cw3, g1, c2⟩) (fun hHeld => ?_)
      refine wpAnyH_take (i := 0) (oi := _) (v := ?_) rfl (by kernel_rfl) (by kernel_rfl) (by kernel_rfl) (fun _ _ _ h => h) (Or.inl ⟨by rfl, ?_⟩) (by assumption) ?_
      rotate_left
      · (intro w hSw; (try dsimp only at hSw); obtain ⟨s1_, s2_, s3_⟩ := hSw; go_simp; (try with_reducible rfl))
      (try simp only [uA, uB, uC, uD, uE, uF, uG, uH])
      refine wpAnyH_take (i := 1) (oi := _) (v := ?_) rfl (by kernel_rfl) (by kernel_rfl) (by kernel_rfl) (fun _ _ _ h => h) (Or.inl ⟨by rfl, ?_⟩) (by assumption) ?_
      rotate_left
      · (intro w hSw; (try dsimp only at hSw); obtain ⟨s1_, s2_, s3_⟩ := hSw; go_simp; (try with_reducible rfl))
      (try simp only [uA, uB, uC, uD, uE, uF, uG, uH])
      refine wpAnyH_take (i := 2) (oi := _) (v := ?_) rfl (by kernel_rfl) (by kernel_rfl) (by kernel_rfl) (fun _ _ _ h => h) (Or.inl ⟨by rfl, ?_⟩) (by assumption) ?_
      rotate_left
      · (intro w hSw; (try dsimp only at hSw); obtain ⟨s1_, s2_, s3_⟩ := hSw; go_simp; (try with_reducible rfl))
      (try simp only [uA, uB, uC, uD, uE, uF, uG, uH])
      refine wpAnyH_take (i := 3) (oi := _) (v := ?_) rfl (by kernel_rfl) (by kernel_rfl) (by kernel_rfl) (fun _ _ _ h => h) (Or.inl ⟨by rfl, ?_⟩) (by assumption) ?_
      rotate_left
      · (intro w hSw; (try dsimp only at hSw); obtain ⟨s1_, s2_, s3_⟩ := hSw; go_simp; (try with_reducible rfl))
      (try simp only [uA, uB, uC, uD, uE, uF, uG, uH])
      refine wpAnyH_take (i := 4) (oi := _) (v := ?_) rfl (by kernel_rfl) (by kernel_rfl) (by kernel_rfl) (fun _ _ _ h => h) (Or.inl ⟨by rfl, ?_⟩) (by assumption) ?_
      rotate_left
      · (intro w hSw; (try dsimp only at hSw); obtain ⟨s1_, s2_, s3_⟩ := hSw; go_simp; (try with_reducible rfl))
      (try simp only [uA, uB, uC, uD, uE, uF, uG, uH])
      refine wpAnyH_take (i := 5) (oi := _) (v := ?_) rfl (by kernel_rfl) (by kernel_rfl) (by kernel_rfl) (fun _ _ _ h => h) (Or.inl ⟨by rfl, ?_⟩) (by assumption) ?_
      rotate_left
      · (intro w hSw; (try dsimp only at hSw); obtain ⟨s1_, s2_, s3_⟩ := hSw; go_simp; (try with_reducible rfl))
      (try simp only [uA, uB, uC, uD, uE, uF, uG, uH])
      refine wpAnyH_take (i := 6) (oi := _) (v := ?_) rfl (by kernel_rfl) (by kernel_rfl) (by kernel_rfl) (fun _ _ _ h => h) (Or.inl ⟨by rfl, ?_⟩) (by assumption) ?_
      rotate_left
      · (intro w hSw; (try dsimp only at hSw); obtain ⟨s1_, s2_, s3_⟩ := hSw; go_simp; (try with_reducible rfl))
      (try simp only [uA, uB, uC, uD, uE, uF, uG, uH])
      refine wpAnyH_take (i := 7) (oi := _) (v := ?_) rfl (by kernel_rfl) (by kernel_rfl) (by kernel_rfl) (fun _ _ _ h => h) (Or.inl ⟨by rfl, ?_⟩) (by assumption) ?_
      rotate_left
      · (intro w hSw; (try dsimp only at hSw); obtain ⟨s1_, s2_, s3_⟩ := hSw; go_simp; (try with_reducible rfl))
      (try simp only [uA, uB, uC, uD, uE, uF, uG, uH])
      refine wpAnyH_take (i := 8) (oi := _) (v := ?_) rfl (by kernel_rfl) (by kernel_rfl) (by kernel_rfl) (fun _ _ _ h => h) (Or.inl ⟨by rfl, ?_⟩) (by assumption) ?_
      rotate_left
      · (intro w hSw; (try dsimp only at hSw); obtain ⟨s1_, s2_, s3_⟩ := hSw; go_simp; (try with_reducible rfl))
      (try simp only [uA, uB, uC, uD, uE, uF, uG, uH])
      refine wpAnyH_take (i := 9) (oi := _) (v := ?_) rfl (by kernel_rfl) (by kernel_rfl) (by kernel_rfl) (fun _ _ _ h => h) (Or.inl ⟨by rfl, ?_⟩) (by assumption) ?_
      rotate_left
      · (intro w hSw; (try dsimp only at hSw); obtain ⟨s1_, s2_, s3_⟩ := hSw; go_simp; (try with_reducible rfl))
      (try simp only [uA, uB, uC, uD, uE, uF, uG, uH])
      refine wpAnyH_take (i := 10) (oi := _) (v := ?_) rfl (by kernel_rfl) (by kernel_rfl) (by kernel_rfl) (fun _ _ _ h => h) (Or.inl ⟨by rfl, ?_⟩) (by assumption) ?_
      rotate_left
      · (intro w hSw; (try dsimp only at hSw); obtain ⟨s1_, s2_, s3_⟩ := hSw; go_simp; (try with_reducible rfl))
      (try simp only [uA, uB, uC, uD, uE, uF, uG, uH])
      refine wpAnyH_take (i := 11) (oi := _) (v := ?_) rfl (by kernel_rfl) (by kernel_rfl) (by kernel_rfl) (fun _ _ _ h => h) (Or.inl ⟨by rfl, ?_⟩) (by assumption) ?_
      rotate_left
      · (intro w hSw; (try dsimp only at hSw); obtain ⟨s1_, s2_, s3_⟩ := hSw; go_simp; (try with_reducible rfl))
      (try simp only [uA, uB, uC, uD, uE, uF, uG, uH])
      refine wpAnyH_take (i := 12) (oi := _) (v := ?_) rfl (by kernel_rfl) (by kernel_rfl) (by kernel_rfl) (fun _ _ _ h => h) (Or.inl ⟨by rfl, ?_⟩) (by assumption) ?_
      rotate_left
      · (intro w hSw; (try dsimp only at hSw); obtain ⟨s1_, s2_, s3_⟩ := hSw; go_simp; (try with_reducible rfl))
      (try simp only [uA, uB, uC, uD, uE, uF, uG, uH])
      refine wpAnyH_done (by kernel_rfl) ?_ _
      go_wp2_with fail
      go_ret
      exact PP.out _ (Below.refl _ _).drew.drew
    refine wp_region_held_drew (S := (fun W => W.cell? ⟨wb, 3, none⟩ = some (.slice (some ⟨g, 0, none⟩) d.ss.length sc) ∧ W.cell? ⟨g, j * 4 + 1, none⟩ = some (.int .i64 sj.s) ∧ W.cell? ⟨xb, 2, none⟩ = some (.int .i64 c.s))) (by kernel_rfl) (by exact ⟨cw3, g1, c2⟩) (fun hHeld => ?_)
    refine wpAnyH_take (i := 0) (oi := _) (v := ?_) rfl (by kernel_rfl) (by kernel_rfl) (by kernel_rfl) (fun _ _ _ h => h) (Or.inl ⟨by rfl, ?_⟩) (by assumption) ?_
    rotate_left
    · (intro w hSw; (try dsimp only at hSw); obtain ⟨s1_, s2_, s3_⟩ := hSw; go_simp; (try with_reducible rfl))
    (try simp only [uA, uB, uC, uD, uE, uF, uG, uH])
    refine wpAnyH_take (i := 1) (oi := _) (v := ?_) rfl (by kernel_rfl) (by kernel_rfl) (by kernel_rfl) (fun _ _ _ h => h) (Or.inl ⟨by rfl, ?_⟩) (by assumption) ?_
    rotate_left
    · (intro w hSw; (try dsimp only at hSw); obtain ⟨s1_, s2_, s3_⟩ := hSw; go_simp; (try with_reducible rfl))
    (try simp only [uA, uB, uC, uD, uE, uF, uG, uH])
    refine wpAnyH_take (i := 2) (oi := _) (v := ?_) rfl (by kernel_rfl) (by kernel_rfl) (by kernel_rfl) (fun _ _ _ h => h) (Or.inl ⟨by rfl, ?_⟩) (by assumption) ?_
    rotate_left
    · (intro w hSw; (try dsimp only at hSw); obtain ⟨s1_, s2_, s3_⟩ := hSw; go_simp; (try with_reducible rfl))
    (try simp only [uA, uB, uC, uD, uE, uF, uG, uH])
    refine wpAnyH_take (i := 3) (oi := _) (v := ?_) rfl (by kernel_rfl) (by kernel_rfl) (by kernel_rfl) (fun _ _ _ h => h) (Or.inl ⟨by rfl, ?_⟩) (by assumption) ?_
    rotate_left
    · (intro w hSw; (try dsimp only at hSw); obtain ⟨s1_, s2_, s3_⟩ := hSw; go_simp; (try with_reducible rfl))
    (try simp only [uA, uB, uC, uD, uE, uF, uG, uH])
    refine wpAnyH_take (i := 4) (oi := _) (v := ?_) rfl (by kernel_rfl) (by kernel_rfl) (by kernel_rfl) (fun _ _ _ h => h) (Or.inl ⟨by rfl, ?_⟩) (by assumption) ?_
    rotate_left
    · (intro w hSw; (try dsimp only at hSw); obtain ⟨s1_, s2_, s3_⟩ := hSw; go_simp; (try with_reducible rfl))
    (try simp only [uA, uB, uC, uD, uE, uF, uG, uH])
    refine wpAnyH_take (i := 5) (oi := _) (v := ?_) rfl (by kernel_rfl) (by kernel_rfl) (by kernel_rfl) (fun _ _ _ h => h) (Or.inl ⟨by rfl, ?_⟩) (by assumption) ?_
    rotate_left
    · (intro w hSw; (try dsimp only at hSw); obtain ⟨s1_, s2_, s3_⟩ := hSw; go_simp; (try with_reducible rfl))
    (try simp only [uA, uB, uC, uD, uE, uF, uG, uH])
    refine wpAnyH_take (i := 6) (oi := _) (v := ?_) rfl (by kernel_rfl) (by kernel_rfl) (by kernel_rfl) (fun _ _ _ h => h) (Or.inl ⟨by rfl, ?_⟩) (by assumption) ?_
    rotate_left
    · (intro w hSw; (try dsimp only at hSw); obtain ⟨s1_, s2_, s3_⟩ := hSw; go_simp; (try with_reducible rfl))
    (try simp only [uA, uB, uC, uD, uE, uF, uG, uH])
    refine wpAnyH_take (i := 7) (oi := _) (v := ?_) rfl (by kernel_rfl) (by kernel_rfl) (by kernel_rfl) (fun _ _ _ h => h) (Or.inl ⟨by rfl, ?_⟩) (by assumption) ?_
    rotate_left
    · (intro w hSw; (try dsimp only at hSw); obtain ⟨s1_, s2_, s3_⟩ := hSw; go_simp; (try with_reducible rfl))
    (try simp only [uA, uB, uC, uD, uE, uF, uG, uH])
    refine wpAnyH_take (i := 8) (oi := _) (v := ?_) rfl (by kernel_rfl) (by kernel_rfl) (by kernel_rfl) (fun _ _ _ h => h) (Or.inl ⟨by rfl, ?_⟩) (by assumption) ?_
    rotate_left
    · (intro w hSw; (try dsimp only at hSw); obtain ⟨s1_, s2_, s3_⟩ := hSw; go_simp; (try with_reducible rfl))
    (try simp only [uA, uB, uC, uD, uE, uF, uG, uH])
    refine wpAnyH_take (i := 9) (oi := _) (v := ?_) rfl (by kernel_rfl) (by kernel_rfl) (by kernel_rfl) (fun _ _ _ h => h) (Or.inl ⟨by rfl, ?_⟩) (by assumption) ?_
    rotate_left
    · (intro w hSw; (try dsimp only at hSw); obtain ⟨s1_, s2_, s3_⟩ := hSw; go_simp; (try with_reducible rfl))
    (try simp only [uA, uB, uC, uD, uE, uF, uG, uH])
    refine wpAnyH_take (i := 10) (oi := _) (v := ?_) rfl (by kernel_rfl) (by kernel_rfl) (by kernel_rfl) (fun _ _ _ h => h) (Or.inl ⟨by rfl, ?_⟩) (by assumption) ?_
    rotate_left
    · (intro w hSw; (try dsimp only at hSw); obtain ⟨s1_, s2_, s3_⟩ := hSw; go_simp; (try with_reducible rfl))
    (try simp only [uA, uB, uC, uD, uE, uF, uG, uH])
    refine wpAnyH_take (i := 11) (oi := _) (v := ?_) rfl (by kernel_rfl) (by kernel_rfl) (by kernel_rfl) (fun _ _ _ h => h) (Or.inl ⟨by rfl, ?_⟩) (by assumption) ?_
    rotate_left
    · (intro w hSw; (try dsimp only at hSw); obtain ⟨s1_, s2_, s3_⟩ := hSw; go_simp; (try with_reducible rfl))
    (try simp only [uA, uB, uC, uD, uE, uF, uG, uH])
    refine wpAnyH_take (i := 12) (oi := _) (v := ?_) rfl (by kernel_rfl) (by kernel_rfl) (by kernel_rfl) (fun _ _ _ h => h) (Or.inl ⟨by rfl, ?_⟩) (by assumption) ?_
    rotate_left
    · (intro w hSw; (try dsimp only at hSw); obtain ⟨s1_, s2_, s3_⟩ := hSw; go_simp; (try with_reducible rfl))
    (try simp only [uA, uB, uC, uD, uE, uF, uG, uH])
    refine wpAnyH_done (by kernel_rfl) ?_ _
    clear hHeld
    have TP : Aside0 (∀ (i : Nat) (w' : World), Pos d.us.length (fun t => cmpN (nameAt d.us t) c.u) i → Wk w' wb n0 ⟨(addD d c i).e, (addD d c i).us, (addD d c i).hs, d.ss.set j ⟨sj.c, c.s, addCode d c i, d.e⟩⟩ → Below n0 w w' → ReqPost d c n0 wb w (.returned (.int .i64 0)) w') := ⟨fun i w' hi h1 h2 => by
      have e : reqCode d c j = 0 := by rw [RC.out, if_neg hgt]
      have := AP.out i j w' hi HPJ.out (fun _ => by rw [RD.out i, if_neg heq, DN.out i]; exact h1) h2
      rw [e] at this
      exact this⟩
    go_upto_region 8 with fail
    have bd : Below W1.heap.size W1 W1.drew.drew := (Below.refl _ _).drew.drew
    have K3 := Aside0.mk ((bd.block wb hwl1).trans K1.out)
    have X3 := Aside0.mk ((bd.block xb hxl1).trans X1.out)
    have D3 : Aside0 (DirC W1.drew.drew n0 ⟨d.e, d.us, d.hs, d.ss⟩ x1 x2 (.slice (some ⟨g, 0, none⟩) d.ss.length sc)) := ⟨DirC.below D1.out bd⟩
    have B3 := Aside0.mk (B1.out.drew.drew)
    clear AP RC RD DN bd cw3 g1 c1 c2 K1 X1 D1 B1 hgt2 hgt heq
    generalize W1.drew.drew = W3 at *
    obtain ⟨L1, hL1⟩ : ∃ L1, d.ss = L1 := ⟨_, rfl⟩
    have HL1 := Aside0.mk hL1
    rw [hL1] at TP K3 D3 HX1 hji
    clear hL1 hin
    obtain ⟨⟨uc3, hu3, hv3⟩, hh3, row3⟩ := D3.out
    dsimp only at hu3 hv3 hh3 row3
    have hjl : j < L1.length := (List.getElem?_eq_some_iff.1 HX1.out).1
    have gs : ∀ (k : Nat) (v : Value), (scells sj)[k]? = some v → W3.cell? ⟨g, j * 4 + k, none⟩ = some v := fun k v hk => by
      have := row3.cells (g := g) rfl _ _ (ssC_at L1 j sj HX1.out k v hk)
      rwa [Addr.add_lit, Nat.zero_add] at this
    have g1 : W3.cell? ⟨g, j * 4 + 1, none⟩ = some (.int .i64 sj.s) := gs 1 _ rfl
    have g3 : W3.cell? ⟨g, j * 4 + 3, none⟩ = some (.int .i64 sj.e) := gs 3 _ rfl
    have z1 : W3.frozen? ⟨g, j * 4 + 1, none⟩ = false := row3.frozenAt _
    have hgb : n0 ≤ g := (row3.lt g rfl).1
    obtain ⟨curg, hcg⟩ := own_typed row3 g rfl
    have hne : ∀ (t : TypeId), t ≠ 71 → ∀ (k : Nat) (cur : Array Value), W3.heap[k]? = some (.cells cur t (0, 0)) → k ≠ g := fun t ht k cur hk e => by
      rw [e, hcg] at hk
      injection hk with hk
      injection hk with _ hk
      exact ht hk.symm
    have hwg : wb ≠ g := hne 47 (by decide) wb _ K3.out
    have hxg : xb ≠ g := hne 41 (by decide) xb _ X3.out
    have cw0 : W3.cell? ⟨wb, 0, none⟩ = some (.int .i64 d.e) := by have := K3.out; simp [World.cell?, this]
    have cw3 : W3.cell? ⟨wb, 3, none⟩ = some (.slice (some ⟨g, 0, none⟩) L1.length sc) := by have := K3.out; simp [World.cell?, this]
    have cx2 : W3.cell? ⟨xb, 2, none⟩ = some (.int .i64 c.s) := cell_in (l := ccells c) (by rw [← HAA.out]; exact X3.out) rfl
    obtain ⟨W4, hW4⟩ : ∃ W4, (W3.setCell ⟨g, j * 4 + 1, none⟩ (.int .i64 c.s)).drew = W4 := ⟨_, rfl⟩
    have hW4' : W3.drew.setCell ⟨g, j * 4 + 1, none⟩ (.int .i64 c.s) = W4 := by rw [← hW4]; rfl
    obtain ⟨W5, hW5⟩ : ∃ W5, W4.setCell ⟨g, j * 4 + 3, none⟩ (.int .i64 d.e) = W5 := ⟨_, rfl⟩
    have far4 : ∀ k, k ≠ g → W4.heap[k]? = W3.heap[k]? := fun k hk => by rw [← hW4]; exact Below.heap_setCell W3 _ _ k hk
    have far5 : ∀ k, k ≠ g → W5.heap[k]? = W3.heap[k]? := fun k hk => by rw [← hW5]; exact (Below.heap_setCell W4 _ _ k hk).trans (far4 k hk)
    have row4 : W4.ownsRow n0 71 4 (.slice (some ⟨g, 0, none⟩) L1.length sc) L1.length (ssC (L1.set j ⟨sj.c, c.s, sj.code, sj.e⟩)) := by
      have := (row3.stored (j * 4 + 1) (.int .i64 c.s)).1
      rw [ssC_set L1 j sj ⟨sj.c, c.s, sj.code, sj.e⟩ 1 _ HX1.out (by decide) rfl] at this
      rw [← hW4]
      exact own_drew this
    have row5 : W5.ownsRow n0 71 4 (.slice (some ⟨g, 0, none⟩) L1.length sc) L1.length (ssC (L1.set j ⟨sj.c, c.s, sj.code, d.e⟩)) := by
      have := (row4.stored (j * 4 + 3) (.int .i64 d.e)).1
      rw [ssC_set (L1.set j ⟨sj.c, c.s, sj.code, sj.e⟩) j ⟨sj.c, c.s, sj.code, sj.e⟩ ⟨sj.c, c.s, sj.code, d.e⟩ 3 _ (by rw [List.getElem?_set_self hjl]) (by decide) rfl, List.set_set] at this
      rw [← hW5]
      exact this
    have h4 : W4.cell? ⟨g, j * 4 + 3, none⟩ = some (.int .i64 sj.e) := by
      have := row4.cells (g := g) rfl _ _ (ssC_at (L1.set j ⟨sj.c, c.s, sj.code, sj.e⟩) j ⟨sj.c, c.s, sj.code, sj.e⟩ (by rw [List.getElem?_set_self hjl]) 3 _ rfl)
      rwa [Addr.add_lit, Nat.zero_add] at this
    have z4 : W4.frozen? ⟨g, j * 4 + 3, none⟩ = false := row4.frozenAt _
    have e4x : W4.cell? ⟨xb, 2, none⟩ = some (.int .i64 c.s) := (World.cell?_of_block (w := W3) (far4 xb hxg)).trans cx2
    have e4w : W4.cell? ⟨wb, 0, none⟩ = some (.int .i64 d.e) := (World.cell?_of_block (w := W3) (far4 wb hwg)).trans cw0
    have e5x : W5.cell? ⟨xb, 2, none⟩ = some (.int .i64 c.s) := (World.cell?_of_block (w := W3) (far5 xb hxg)).trans cx2
    have e5w : W5.cell? ⟨wb, 0, none⟩ = some (.int .i64 d.e) := (World.cell?_of_block (w := W3) (far5 wb hwg)).trans cw0
    have k5 := (far5 wb hwg).trans K3.out
    have x5 := (far5 xb hxg).trans X3.out
    have B5 : Aside0 (Below n0 w W5) := ⟨by
      rw [← hW5, ← hW4]
      exact ((B3.out.setCell hgb _).drew).setCell hgb _⟩
    have far : ∀ (t : TypeId), t ≠ 71 → ∀ (k : Nat) (cur : Array Value), W3.heap[k]? = some (.cells cur t (0, 0)) → W5.heap[k]? = W3.heap[k]? := fun t ht k cur hk => far5 k (hne t ht k cur hk)
    have d5 : DirC W5 n0 ⟨d.e, d.us, d.hs, L1.set j ⟨sj.c, c.s, sj.code, d.e⟩⟩ x1 x2 (.slice (some ⟨g, 0, none⟩) L1.length sc) := by
      refine ⟨⟨uc3, own_move hu3 fun k e => ?_, UsC.move (fun k cur _ hk => far 68 (by decide) k cur hk) hv3⟩, own_move hh3 fun k e => ?_, ?_⟩
      · obtain ⟨cur, hc⟩ := own_typed hu3 k e
        exact far 63 (by decide) k cur hc
      · obtain ⟨cur, hc⟩ := own_typed hh3 k e
        exact far 36 (by decide) k cur hc
      · dsimp only
        rw [List.length_set]
        exact row5
    have HLS := Aside0.mk (show (L1.set j (⟨sj.c, c.s, sj.code, d.e⟩ : Ses)).length = L1.length from List.length_set)
    have AC : Aside0 (∀ W, W.heap = W5.heap → W.os = W5.os → W.tape = W5.tape → W.output = W5.output → Calls Tryz.prog 32 #[.pointer (some ⟨wb, 0, none⟩), .agg A] W fun e w' => AddPost ⟨d.e, d.us, d.hs, L1.set j ⟨sj.c, c.s, sj.code, d.e⟩⟩ c n0 wb x2 (.slice (some ⟨g, 0, none⟩) L1.length sc) W5 e w') := ⟨fun W h1 h2 h3 h4 => by
      have hbw : Below W5.heap.size W5 W := ⟨h2, h3, h4, by rw [h1]; exact Nat.le_refl _, fun k _ => by rw [h1]⟩
      refine (add_c ⟨d.e, d.us, d.hs, L1.set j ⟨sj.c, c.s, sj.code, d.e⟩⟩ c wb n0 A x1 x2 (.slice (some ⟨g, 0, none⟩) L1.length sc) W HA.out (by rw [h1]; exact k5) (d5.below hbw) HN0.out ⟨OK.out.add.len, OK.out.add.rise, OK.out.add.lo, OK.out.add.hi, OK.out.add.kl, OK.out.add.kh, OK.out.add.may, OK.out.add.us⟩).mono ?_
      rintro e w' ⟨i, x1', a1, a2, a3, a4, a5⟩
      exact ⟨i, x1', a1, a2, a3, a4, (hbw.mono (by have := (row5.lt g rfl).2; omega)).trans a5⟩⟩
    have hj0 : (0 : Int) ≤ (j : Int) := by omega
    have hji : (j : Int) < (L1.length : Int) := by omega
    have D5 := Aside0.mk d5
    clear hu3 hv3 hh3 row3 gs hne curg hcg d5 row4 row5 far4 far5 far k5 D3
    have HJL := Aside0.mk hjl
    obtain ⟨n1, hn1⟩ : ∃ n1, L1.length = n1 := ⟨_, rfl⟩
    have HN1 := Aside0.mk hn1
    rw [hn1] at cw3 hji AC HLS D5
    clear hjl hn1
    go_upto_region 9 with fail
    refine wp_region_held_drew (S := (fun W => W.cell? ⟨xb, 2, none⟩ = some (.int .i64 c.s) ∧ W.cell? ⟨wb, 0, none⟩ = some (.int .i64 d.e))) (by kernel_rfl) (by exact ⟨cx2, cw0⟩) (fun hHeld => ?_)
    refine wpAnyH_take (i := 0) (oi := _) (v := ?_) rfl (by kernel_rfl) (by kernel_rfl) (by kernel_rfl) (fun _ _ _ h => h) (Or.inl ⟨by rfl, ?_⟩) (by assumption) ?_
    rotate_left
    · (intro w hSw; (try dsimp only at hSw); obtain ⟨s1_, s2_⟩ := hSw; go_simp; (try with_reducible rfl))
    (try simp only [uA, uB, uC, uD, uE, uF, uG, uH])
    refine wpAnyH_take (i := 1) (oi := _) (v := ?_) rfl (by kernel_rfl) (by kernel_rfl) (by kernel_rfl) (fun _ _ _ h => h) (Or.inl ⟨by rfl, ?_⟩) (by assumption) ?_
    rotate_left
    · (intro w hSw; (try dsimp only at hSw); obtain ⟨s1_, s2_⟩ := hSw; go_simp; (try with_reducible rfl))
    (try simp only [uA, uB, uC, uD, uE, uF, uG, uH])
    refine wpAnyH_take (i := 2) (oi := _) (v := ?_) rfl (by kernel_rfl) (by kernel_rfl) (by kernel_rfl) (fun _ _ _ h => h) (Or.inl ⟨by rfl, ?_⟩) (by assumption) ?_
    rotate_left
    · (intro w hSw; (try dsimp only at hSw); obtain ⟨s1_, s2_⟩ := hSw; go_simp; (try with_reducible rfl))
    (try simp only [uA, uB, uC, uD, uE, uF, uG, uH])
    refine wpAnyH_take (i := 3) (oi := _) (v := ?_) rfl (by kernel_rfl) (by kernel_rfl) (by kernel_rfl) (fun _ _ _ h => h) (Or.inl ⟨by rfl, ?_⟩) (by assumption) ?_
    rotate_left
    · (intro w hSw; (try dsimp only at hSw); obtain ⟨s1_, s2_⟩ := hSw; go_simp; (try with_reducible rfl))
    (try simp only [uA, uB, uC, uD, uE, uF, uG, uH])
    refine wpAnyH_take (i := 4) (oi := _) (v := ?_) rfl (by kernel_rfl) (by kernel_rfl) (by kernel_rfl) (fun _ _ _ h => h) (Or.inl ⟨by rfl, ?_⟩) (by assumption) ?_
    rotate_left
    · (intro w hSw; (try dsimp only at hSw); obtain ⟨s1_, s2_⟩ := hSw; go_simp; (try with_reducible rfl))
    (try simp only [uA, uB, uC, uD, uE, uF, uG, uH])
    refine wpAnyH_take (i := 5) (oi := _) (v := ?_) rfl (by kernel_rfl) (by kernel_rfl) (by kernel_rfl) (fun _ _ _ h => h) (Or.inl ⟨by rfl, ?_⟩) (by assumption) ?_
    rotate_left
    · (intro w hSw; (try dsimp only at hSw); obtain ⟨s1_, s2_⟩ := hSw; go_simp; (try with_reducible rfl))
    (try simp only [uA, uB, uC, uD, uE, uF, uG, uH])
    refine wpAnyH_take (i := 6) (oi := _) (v := ?_) rfl (by kernel_rfl) (by kernel_rfl) (by kernel_rfl) (fun _ _ _ h => h) (Or.inl ⟨by rfl, ?_⟩) (by assumption) ?_
    rotate_left
    · (intro w hSw; (try dsimp only at hSw); obtain ⟨s1_, s2_⟩ := hSw; go_simp; (try with_reducible rfl))
    (try simp only [uA, uB, uC, uD, uE, uF, uG, uH])
    refine wpAnyH_take (i := 7) (oi := _) (v := ?_) rfl (by kernel_rfl) (by kernel_rfl) (by kernel_rfl) (fun _ _ _ h => h) (Or.inl ⟨by rfl, ?_⟩) (by assumption) ?_
    rotate_left
    · (intro w hSw; (try dsimp only at hSw); obtain ⟨s1_, s2_⟩ := hSw; go_simp; (try with_reducible rfl))
    (try simp only [uA, uB, uC, uD, uE, uF, uG, uH])
    refine wpAnyH_take (i := 8) (oi := _) (v := ?_) rfl (by kernel_rfl) (by kernel_rfl) (by kernel_rfl) (fun _ _ _ h => h) (Or.inl ⟨by rfl, ?_⟩) (by assumption) ?_
    rotate_left
    · (intro w hSw; (try dsimp only at hSw); obtain ⟨s1_, s2_⟩ := hSw; go_simp; (try with_reducible rfl))
    (try simp only [uA, uB, uC, uD, uE, uF, uG, uH])
    refine wpAnyH_take (i := 9) (oi := _) (v := ?_) rfl (by kernel_rfl) (by kernel_rfl) (by kernel_rfl) (fun _ _ _ h => h) (Or.inl ⟨by rfl, ?_⟩) (by assumption) ?_
    rotate_left
    · (intro w hSw; (try dsimp only at hSw); obtain ⟨s1_, s2_⟩ := hSw; go_simp; (try with_reducible rfl))
    (try simp only [uA, uB, uC, uD, uE, uF, uG, uH])
    refine wpAnyH_take (i := 10) (oi := _) (v := ?_) rfl (by kernel_rfl) (by kernel_rfl) (by kernel_rfl) (fun _ _ _ h => h) (Or.inl ⟨by rfl, ?_⟩) (by assumption) ?_
    rotate_left
    · (intro w hSw; (try dsimp only at hSw); obtain ⟨s1_, s2_⟩ := hSw; go_simp; (try with_reducible rfl))
    (try simp only [uA, uB, uC, uD, uE, uF, uG, uH])
    refine wpAnyH_ready (rs := [11]) (by kernel_rfl) (by decide) (AllReadyH.cons rfl (fun K' hK => ?_) AllReadyH.nil)
    rw [if_pos (by rfl)]
    go_simp
    (first | rw [hW4] | rw [hW4'] | skip)
    refine hK.out _ _ (by exact ⟨e4x, e4w⟩) (fun hHeld => ?_)
    clear hK
    (try simp only [uA, uB, uC, uD, uE, uF, uG, uH])
    refine wpAnyH_take (i := 12) (oi := _) (v := ?_) rfl (by kernel_rfl) (by kernel_rfl) (by kernel_rfl) (fun _ _ _ h => h) (Or.inl ⟨by rfl, ?_⟩) (by assumption) ?_
    rotate_left
    · (intro w hSw; (try dsimp only at hSw); obtain ⟨s1_, s2_⟩ := hSw; go_simp; (try with_reducible rfl))
    (try simp only [uA, uB, uC, uD, uE, uF, uG, uH])
    refine wpAnyH_take (i := 13) (oi := _) (v := ?_) rfl (by kernel_rfl) (by kernel_rfl) (by kernel_rfl) (fun _ _ _ h => h) (Or.inl ⟨by rfl, ?_⟩) (by assumption) ?_
    rotate_left
    · (intro w hSw; (try dsimp only at hSw); obtain ⟨s1_, s2_⟩ := hSw; go_simp; (try with_reducible rfl))
    (try simp only [uA, uB, uC, uD, uE, uF, uG, uH])
    refine wpAnyH_ready (rs := [14]) (by kernel_rfl) (by decide) (AllReadyH.cons rfl (fun K' hK => ?_) AllReadyH.nil)
    rw [if_pos (by rfl)]
    go_simp
    (first | rw [hW5] | skip)
    refine hK.out _ _ (by exact ⟨e5x, e5w⟩) (fun hHeld => ?_)
    clear hK
    (try simp only [uA, uB, uC, uD, uE, uF, uG, uH])
    refine wpAnyH_done (by kernel_rfl) ?_ _
    have A5 := Aside0.mk (AC.out W5 rfl rfl rfl rfl)
    clear AC g1 g3 z1 h4 z4 e4x e4w cw0 cw3 cx2 hW4 hW4' hW5
    go_upto_region 11 with (first | (refine wpList_load_row rfl 41 (.tmp 3) rfl xb rfl 41 _ (0, 0) _ x5 Tryz.underlying41 rfl hi41 ?_) | (go_at_call 32; refine A5.out.mono ?_; rintro e W6 ⟨i, x1', a1, rfl, a3, a4, a5⟩; refine Aside0.out ?_))
    refine ⟨?_⟩
    rw [(addD_ss d c i _).2] at a4
    have hac : addCode ⟨d.e, d.us, d.hs, L1.set j ⟨sj.c, c.s, sj.code, d.e⟩⟩ c i = addCode d c i := rfl
    rw [hac]
    obtain ⟨⟨uc6, hu6, hv6⟩, hh6, row6⟩ := a4
    dsimp only at hu6 hv6 hh6 row6
    rw [HLS.out] at row6
    have g6 : W6.cell? ⟨g, j * 4 + 2, none⟩ = some (.int .i64 sj.code) := by
      have := row6.cells (g := g) rfl _ _ (ssC_at (L1.set j ⟨sj.c, c.s, sj.code, d.e⟩) j ⟨sj.c, c.s, sj.code, d.e⟩ (by rw [List.getElem?_set_self HJL.out]) 2 _ rfl)
      rwa [Addr.add_lit, Nat.zero_add] at this
    have z6 : W6.frozen? ⟨g, j * 4 + 2, none⟩ = false := row6.frozenAt _
    have PP : Aside0 (ReqPost d c n0 wb w (.returned (.int .i64 0)) (W6.setCell ⟨g, j * 4 + 2, none⟩ (.int .i64 (addCode d c i)))) := ⟨by
      obtain ⟨curg, hcg⟩ := own_typed row6 g rfl
      have hne : ∀ (t : TypeId), t ≠ 71 → ∀ (k : Nat) (cur : Array Value), W6.heap[k]? = some (.cells cur t (0, 0)) → (W6.setCell ⟨g, j * 4 + 2, none⟩ (.int .i64 (addCode d c i))).heap[k]? = W6.heap[k]? := fun t ht k cur hk => Below.heap_setCell W6 _ _ k fun e => by
        have e' : k = g := e
        rw [e', hcg] at hk
        injection hk with hk
        injection hk with _ hk
        exact ht hk.symm
      refine TP.out i _ a1 ⟨HN0.out, x1', x2, .slice (some ⟨g, 0, none⟩) n1 sc, ?_, ⟨uc6, own_move hu6 fun k e => ?_, UsC.move (fun k cur _ hk => hne 68 (by decide) k cur hk) hv6⟩, own_move hh6 fun k e => ?_, ?_⟩ ((B5.out.trans a5).setCell hgb _)
      · dsimp only
        rw [(addD_e d c i).1]
        exact (hne 47 (by decide) wb _ a3).trans a3
      · obtain ⟨cur, hc⟩ := own_typed hu6 k e
        exact hne 63 (by decide) k cur hc
      · obtain ⟨cur, hc⟩ := own_typed hh6 k e
        exact hne 36 (by decide) k cur hc
      · dsimp only
        have := (row6.stored (j * 4 + 2) (.int .i64 (addCode d c i))).1
        rw [ssC_set (L1.set j ⟨sj.c, c.s, sj.code, d.e⟩) j ⟨sj.c, c.s, sj.code, d.e⟩ ⟨sj.c, c.s, addCode d c i, d.e⟩ 2 _ (by rw [List.getElem?_set_self HJL.out]) (by decide) rfl, List.set_set] at this
        rw [List.length_set]
        rw [HN1.out]
        exact this⟩
    clear row6 hu6 hv6 hh6 a3 a5 hac
    generalize addCode d c i = cd at *
    go_wp2_with fail
    go_ret
    exact PP.out
  · have hfl : (decide (j < d.ss.length) && decide (Lib.compareInt (cliAt d.ss j) c.c = 0)) = false := by
      cases hq : decide (j < d.ss.length) && decide (Lib.compareInt (cliAt d.ss j) c.c = 0)
      · rfl
      · rw [Bool.and_eq_true, decide_eq_true_eq, decide_eq_true_eq] at hq
        exact absurd hq ht
    rw [hfl]
    have hjle := HPJ.out.le
    have IC : Aside0 (∀ (vb : Nat) (W : World), Below W1.heap.size W1 W → W1.heap.size ≤ vb → W.heap[vb]? = some (.cells [Value.int .i64 c.c, .int .i64 0, .int .i64 0, .int .i64 0].toArray 71 (0, 0)) → Calls Tryz.prog 31 #[.slice SA d.ss.length sc, .int .i64 (j : Int), .slice (some ⟨vb, 0, none⟩) 1 1] W fun e w' => InsPost 71 4 n0 d.ss.length j (.slice SA d.ss.length sc) (ssC d.ss) [.int .i64 c.c, .int .i64 0, .int .i64 0, .int .i64 0] W e w') := ⟨fun vb W hW hvl hv => insS_c _ _ _ _ _ vb n0 W (own_move D1.out.2.2 fun k e => hW.block k (D1.out.2.2.lt k e).2) hv (fun h => by have := (D1.out.2.2.lt vb h.symm).2; omega) rfl (by simp [Value.oneCell']) (ssC_one _) (by have := OK.out.len; omega) hjle (by have := hW.size; have := SZ1.out; have := HXB.out; omega)⟩
    have TP : Aside0 (∀ (i : Nat) (w' : World), Pos d.us.length (fun t => cmpN (nameAt d.us t) c.u) i → Wk w' wb n0 ⟨(addD d c i).e, (addD d c i).us, (addD d c i).hs, (insSs d.ss j c.c).set j ⟨c.c, c.s, addCode d c i, d.e⟩⟩ → Below n0 w w' → ReqPost d c n0 wb w (.returned (.int .i64 0)) w') := ⟨fun i w' hi h1 h2 => by
      have e : reqCode d c j = 0 := by unfold reqCode; rw [if_neg (fun h => ht h.1)]
      have := AP.out i j w' hi HPJ.out (fun _ => by
        unfold reqD ss1
        rw [if_neg (fun h => ht h.1), if_neg ht]
        unfold doneD
        rw [insSs_at d.ss j c.c hjle]
        exact h1) h2
      rw [e] at this
      exact this⟩
    have SK : Aside0 (∀ W, Below W1.heap.size W1 W → W.cell? ⟨wb, 3, none⟩ = some (.slice SA d.ss.length sc) ∧ W.cell? ⟨xb, 1, none⟩ = some (.int .i64 c.c)) := ⟨fun W hW => ⟨(hW.cell (p := ⟨wb, 3, none⟩) hwl1).trans cw3, (hW.cell (p := ⟨xb, 1, none⟩) hxl1).trans c1⟩⟩
    clear AP ht hfl EX
    go_upto_region 3 with fail
    refine wp_region_held_drew (S := (fun W => W.cell? ⟨xb, 1, none⟩ = some (.int .i64 c.c))) (by kernel_rfl) (by exact c1) (fun hHeld => ?_)
    refine wpAnyH_take (i := 0) (oi := _) (v := ?_) rfl (by kernel_rfl) (by kernel_rfl) (by kernel_rfl) (fun _ _ _ h => h) (Or.inl ⟨by rfl, ?_⟩) (by assumption) ?_
    rotate_left
    · (intro w hSw; (try dsimp only at hSw); go_simp; (try with_reducible rfl))
    (try simp only [uA, uB, uC, uD, uE, uF, uG, uH])
    refine wpAnyH_take (i := 1) (oi := _) (v := ?_) rfl (by kernel_rfl) (by kernel_rfl) (by kernel_rfl) (fun _ _ _ h => h) (Or.inl ⟨by rfl, ?_⟩) (by assumption) ?_
    rotate_left
    · (intro w hSw; (try dsimp only at hSw); go_simp; (try with_reducible rfl))
    (try simp only [uA, uB, uC, uD, uE, uF, uG, uH])
    refine wpAnyH_take (i := 2) (oi := _) (v := ?_) rfl (by kernel_rfl) (by kernel_rfl) (by kernel_rfl) (fun _ _ _ h => h) (Or.inl ⟨by rfl, ?_⟩) (by assumption) ?_
    rotate_left
    · (intro w hSw; (try dsimp only at hSw); go_simp; (try with_reducible rfl))
    (try simp only [uA, uB, uC, uD, uE, uF, uG, uH])
    refine wpAnyH_take (i := 3) (oi := _) (v := ?_) rfl (by kernel_rfl) (by kernel_rfl) (by kernel_rfl) (fun _ _ _ h => h) (Or.inl ⟨by rfl, ?_⟩) (by assumption) ?_
    rotate_left
    · (intro w hSw; (try dsimp only at hSw); go_simp; (try with_reducible rfl))
    (try simp only [uA, uB, uC, uD, uE, uF, uG, uH])
    refine wpAnyH_take (i := 4) (oi := _) (v := ?_) rfl (by kernel_rfl) (by kernel_rfl) (by kernel_rfl) (fun _ _ _ h => h) (Or.inl ⟨by rfl, ?_⟩) (by assumption) ?_
    rotate_left
    · (intro w hSw; (try dsimp only at hSw); go_simp; (try with_reducible rfl))
    (try simp only [uA, uB, uC, uD, uE, uF, uG, uH])
    refine wpAnyH_take (i := 6) (oi := _) (v := ?_) rfl (by kernel_rfl) (by kernel_rfl) (by kernel_rfl) (fun _ _ _ h => h) (Or.inl ⟨by rfl, ?_⟩) (by assumption) ?_
    rotate_left
    · (intro w hSw; (try dsimp only at hSw); go_simp; (try with_reducible rfl))
    (try simp only [uA, uB, uC, uD, uE, uF, uG, uH])
    refine wpAnyH_take (i := 7) (oi := _) (v := ?_) rfl (by kernel_rfl) (by kernel_rfl) (by kernel_rfl) (fun _ _ _ h => h) (Or.inl ⟨by rfl, ?_⟩) (by assumption) ?_
    rotate_left
    · (intro w hSw; (try dsimp only at hSw); go_simp; (try with_reducible rfl))
    (try simp only [uA, uB, uC, uD, uE, uF, uG, uH])
    refine wpAnyH_take (i := 8) (oi := _) (v := ?_) rfl (by kernel_rfl) (by kernel_rfl) (by kernel_rfl) (fun _ _ _ h => h) (Or.inl ⟨by rfl, ?_⟩) (by assumption) ?_
    rotate_left
    · (intro w hSw; (try dsimp only at hSw); go_simp; (try with_reducible rfl))
    (try simp only [uA, uB, uC, uD, uE, uF, uG, uH])
    refine wpAnyH_take (i := 9) (oi := _) (v := ?_) rfl (by kernel_rfl) (by kernel_rfl) (by kernel_rfl) (fun _ _ _ h => h) (Or.inl ⟨by rfl, ?_⟩) (by assumption) ?_
    rotate_left
    · (intro w hSw; (try dsimp only at hSw); go_simp; (try with_reducible rfl))
    (try simp only [uA, uB, uC, uD, uE, uF, uG, uH])
    refine wpAnyH_ready (rs := [5, 10]) (by kernel_rfl) (by decide) (AllReadyH.cons rfl (fun K' hK => ?_) (AllReadyH.cons rfl (fun K' hK => ?_) AllReadyH.nil))
    · rw [if_pos (by rfl)]
      go_simp

      refine hK.out _ _ (by exact c1) (fun hHeld => ?_)
      clear hK
      (try simp only [uA, uB, uC, uD, uE, uF, uG, uH])
      refine wpAnyH_ready (rs := [10]) (by kernel_rfl) (by decide) (AllReadyH.cons rfl (fun K' hK => ?_) AllReadyH.nil)
      rw [if_pos (by rfl)]
      go_simp
      obtain ⟨W4, hW4⟩ : ∃ W4, (World.alloc W1.drew (Obj.cells #[.int .i64 c.c, .int .i64 0, .int .i64 0, .int .i64 0] 71)) = W4 := ⟨_, rfl⟩
      have hW4' : (W1.alloc (.cells #[.int .i64 c.c, .int .i64 0, .int .i64 0, .int .i64 0] 71)).drew = W4 := by rw [← hW4]; rfl
      have b4 : Below W1.heap.size W1 W4 := by rw [← hW4']; exact ((Below.refl _ _).alloc (Nat.le_refl _) _).drew
      have k4 : W4.heap[W1.heap.size]? = some (.cells #[.int .i64 c.c, .int .i64 0, .int .i64 0, .int .i64 0] 71 (0, 0)) := by rw [← hW4']; exact blk_new W1 _
      have C12 := Aside0.mk (IC.out W1.heap.size W4 b4 (Nat.le_refl _) k4)
      (first | rw [hW4] | rw [hW4'] | skip)
      refine hK.out _ _ (by exact (SK.out W4 b4).2) (fun hHeld => ?_)
      clear hK
      (try simp only [uA, uB, uC, uD, uE, uF, uG, uH])
      refine wpAnyH_ready (rs := [11]) (by kernel_rfl) (by decide) (AllReadyH.cons rfl (fun K' hK => ?_) AllReadyH.nil)
      rw [if_pos (by rfl)]
      go_simp
      refine (C12.out).mono ?_
      rintro e W5 ⟨v5, rfl, ho5, hg5⟩
      (try dsimp only)
      have hfar : ∀ k, k < W1.heap.size → some k ≠ (Value.slice SA d.ss.length sc).ownBlock → W5.heap[k]? = W1.heap[k]? := fun k hk hne => (hg5.block k (by have := b4.size; omega) hne).trans (b4.block k hk)
      obtain ⟨zA, zc, rfl, hzc⟩ := (Reads.of_own ho5).form
      obtain ⟨g, rfl⟩ : ∃ g, zA = some ⟨g, 0, none⟩ := by
        rcases ho5.2 with ⟨h, h0⟩ | ⟨g, cap, cur, h, _⟩
        · cases h
        · injection h with h
          exact ⟨g, h⟩
      have hm : ∀ (t : TypeId), 71 ≠ t → ∀ (k : Nat) (cur : Array Value), W1.heap[k]? = some (.cells cur t (0, 0)) → W5.heap[k]? = W1.heap[k]? := fun t ht k cur hk => hfar k (Array.getElem?_eq_some_iff.1 hk).1 (own_ne D1.out.2.2 hk ht)
      have k5 := (hm 47 (by decide) wb _ K1.out).trans K1.out
      have X5 := Aside0.mk ((hm 41 (by decide) xb _ X1.out).trans X1.out)
      have g5 : W5.cell? ⟨wb, 3, none⟩ = some (.slice SA d.ss.length sc) := by simp [World.cell?, k5]
      have f5 : W5.frozen? ⟨wb, 3, none⟩ = false := by simp [World.frozen?, k5]
      have x5 : W5.cell? ⟨xb, 1, none⟩ = some (.int .i64 c.c) := cell_in (l := ccells c) (by rw [← HAA.out]; exact X5.out) rfl
      rw [ssC_ins] at ho5
      obtain ⟨⟨uc1, hu1, hv1⟩, hh1, _⟩ := D1.out
      have D5 : Aside0 (W5.ownsRow n0 63 2 x1 d.us.length uc1 ∧ UsC W5 n0 d.us uc1 ∧ W5.ownsRow n0 36 65 x2 d.hs.length (hsC d.hs) ∧ W5.ownsRow n0 71 4 (.slice (some ⟨g, 0, none⟩) (d.ss.length + 1) zc) (d.ss.length + 1) (ssC (insSs d.ss j c.c)) ∧ Below n0 w W5) := ⟨by
        refine ⟨own_move hu1 fun k e => ?_, UsC.move (fun k cur _ hk => hm 68 (by decide) k cur hk) hv1, own_move hh1 fun k e => ?_, ho5, B1.out.trans ((b4.mono (by have := SZ1.out; have := HXB.out; omega)).grown hg5 (by have := b4.size; have := SZ1.out; have := HXB.out; omega) fun k e => (D1.out.2.2.lt k e).1)⟩
        · obtain ⟨cur, hc⟩ := own_typed hu1 k e
          exact hm 63 (by decide) k cur hc
        · obtain ⟨cur, hc⟩ := own_typed hh1 k e
          exact hm 36 (by decide) k cur hc⟩
      have K5 := Aside0.mk k5
      clear ho5 k5 hm hfar hg5 hu1 hv1 hh1
      refine hK.out _ _ (by exact x5) (fun hHeld => ?_)
      clear hK
      (try simp only [uA, uB, uC, uD, uE, uF, uG, uH])
      refine wpAnyH_take (i := 12) (oi := _) (v := ?_) rfl (by kernel_rfl) (by kernel_rfl) (by kernel_rfl) (fun _ _ _ h => h) (Or.inl ⟨by rfl, ?_⟩) (by assumption) ?_
      rotate_left
      · (intro w hSw; (try dsimp only at hSw); go_simp; (try with_reducible rfl))
      (try simp only [uA, uB, uC, uD, uE, uF, uG, uH])
      refine wpAnyH_take (i := 13) (oi := _) (v := ?_) rfl (by kernel_rfl) (by kernel_rfl) (by kernel_rfl) (fun _ _ _ h => h) (Or.inl ⟨by rfl, ?_⟩) (by assumption) ?_
      rotate_left
      · (intro w hSw; (try dsimp only at hSw); go_simp; (try with_reducible rfl))
      (try simp only [uA, uB, uC, uD, uE, uF, uG, uH])
      refine wpAnyH_take (i := 14) (oi := _) (v := ?_) rfl (by kernel_rfl) (by kernel_rfl) (by kernel_rfl) (fun _ _ _ h => h) (Or.inl ⟨by rfl, ?_⟩) (by assumption) ?_
      rotate_left
      · (intro w hSw; (try dsimp only at hSw); go_simp; (try with_reducible rfl))
      (try simp only [uA, uB, uC, uD, uE, uF, uG, uH])
      refine wpAnyH_ready (rs := [15]) (by kernel_rfl) (by decide) (AllReadyH.cons rfl (fun K' hK => ?_) AllReadyH.nil)
      rw [if_pos (by rfl)]
      go_simp
      obtain ⟨W3, hW3⟩ : ∃ W3, W5.setCell ⟨wb, 3, none⟩ (.slice (some ⟨g, 0, none⟩) (d.ss.length + 1) zc) = W3 := ⟨_, rfl⟩
      have K3 : Aside0 (W3.heap[wb]? = some (.cells #[.int .i64 d.e, x1, x2, .slice (some ⟨g, 0, none⟩) (d.ss.length + 1) zc] 47 (0, 0))) := ⟨by rw [← hW3]; exact blk_put K5.out 3 _ rfl⟩
      have hfar : ∀ k, k ≠ wb → W3.heap[k]? = W5.heap[k]? := fun k hk => by rw [← hW3]; exact Below.heap_setCell W5 _ _ k hk
      have hm : ∀ (t : TypeId), t ≠ 47 → ∀ (k : Nat) (cur : Array Value), W5.heap[k]? = some (.cells cur t (0, 0)) → W3.heap[k]? = W5.heap[k]? := fun t ht k cur hk => hfar k fun e => by
        rw [e, K5.out] at hk
        injection hk with hk
        injection hk with _ hk
        exact ht hk.symm
      have X3 := Aside0.mk ((hm 41 (by decide) xb _ X5.out).trans X5.out)
      have hlen : (insSs d.ss j c.c).length = d.ss.length + 1 := insSs_len d.ss j c.c hjle
      have D3 : Aside0 (DirC W3 n0 ⟨d.e, d.us, d.hs, insSs d.ss j c.c⟩ x1 x2 (.slice (some ⟨g, 0, none⟩) (d.ss.length + 1) zc)) := ⟨by
        obtain ⟨d1, d2, d3, d4, d5⟩ := D5.out
        refine ⟨⟨_, own_move d1 fun k e => ?_, UsC.move (fun k cur _ hk => hm 68 (by decide) k cur hk) d2⟩, own_move d3 fun k e => ?_, ?_⟩
        · obtain ⟨cur, hc⟩ := own_typed d1 k e
          exact hm 63 (by decide) k cur hc
        · obtain ⟨cur, hc⟩ := own_typed d3 k e
          exact hm 36 (by decide) k cur hc
        · dsimp only
          rw [hlen]
          refine own_move d4 fun k e => ?_
          obtain ⟨cur, hc⟩ := own_typed d4 k e
          exact hm 71 (by decide) k cur hc⟩
      have B3 : Aside0 (Below n0 w W3) := ⟨by rw [← hW3]; exact D5.out.2.2.2.2.setCell HN0.out _⟩
      have HX1 : Aside0 ((insSs d.ss j c.c)[j]? = some ⟨c.c, 0, 0, 0⟩) := ⟨by
        have := insSs_at d.ss j c.c hjle
        have hl : j < (insSs d.ss j c.c).length := by omega
        rw [List.getElem?_eq_getElem hl]
        unfold sesAt at this
        rw [List.getElem?_eq_getElem hl] at this
        exact congrArg some this⟩
      have x3 : W3.cell? ⟨xb, 1, none⟩ = some (.int .i64 c.c) := cell_in (l := ccells c) (by rw [← HAA.out]; exact X3.out) rfl
      (first | rw [hW3] | skip)
      refine hK.out _ _ (by exact x3) (fun hHeld => ?_)
      clear hK
      (try simp only [uA, uB, uC, uD, uE, uF, uG, uH])
      refine wpAnyH_done (by kernel_rfl) ?_ _
      clear hW3 g5 f5 x5 hm hfar K5 D5 X5 cw3 c1 c2
      obtain ⟨L1, hL1⟩ : ∃ L1, insSs d.ss j c.c = L1 := ⟨_, rfl⟩
      rw [hL1] at TP D3 HX1 hlen
      obtain ⟨sj, hsj⟩ : ∃ sj : Ses, sj = ⟨c.c, 0, 0, 0⟩ := ⟨_, rfl⟩
      have hsjc : sj.c = c.c := by rw [hsj]
      rw [← hsj] at HX1
      rw [← hlen] at K3 D3
      have TP : Aside0 (∀ (i : Nat) (w' : World), Pos d.us.length (fun t => cmpN (nameAt d.us t) c.u) i → Wk w' wb n0 ⟨(addD d c i).e, (addD d c i).us, (addD d c i).hs, L1.set j ⟨sj.c, c.s, addCode d c i, d.e⟩⟩ → Below n0 w w' → ReqPost d c n0 wb w (.returned (.int .i64 0)) w') := by rw [hsjc]; exact TP
      have HLN := Aside0.mk hlen
      clear hlen hL1 hsj hsjc IC SK C12 b4 k4
      obtain ⟨⟨uc3, hu3, hv3⟩, hh3, row3⟩ := D3.out
      dsimp only at hu3 hv3 hh3 row3
      have hjl : j < L1.length := (List.getElem?_eq_some_iff.1 HX1.out).1
      have gs : ∀ (k : Nat) (v : Value), (scells sj)[k]? = some v → W3.cell? ⟨g, j * 4 + k, none⟩ = some v := fun k v hk => by
        have := row3.cells (g := g) rfl _ _ (ssC_at L1 j sj HX1.out k v hk)
        rwa [Addr.add_lit, Nat.zero_add] at this
      have g1 : W3.cell? ⟨g, j * 4 + 1, none⟩ = some (.int .i64 sj.s) := gs 1 _ rfl
      have g3 : W3.cell? ⟨g, j * 4 + 3, none⟩ = some (.int .i64 sj.e) := gs 3 _ rfl
      have z1 : W3.frozen? ⟨g, j * 4 + 1, none⟩ = false := row3.frozenAt _
      have hgb : n0 ≤ g := (row3.lt g rfl).1
      obtain ⟨curg, hcg⟩ := own_typed row3 g rfl
      have hne : ∀ (t : TypeId), t ≠ 71 → ∀ (k : Nat) (cur : Array Value), W3.heap[k]? = some (.cells cur t (0, 0)) → k ≠ g := fun t ht k cur hk e => by
        rw [e, hcg] at hk
        injection hk with hk
        injection hk with _ hk
        exact ht hk.symm
      have hwg : wb ≠ g := hne 47 (by decide) wb _ K3.out
      have hxg : xb ≠ g := hne 41 (by decide) xb _ X3.out
      have cw0 : W3.cell? ⟨wb, 0, none⟩ = some (.int .i64 d.e) := by have := K3.out; simp [World.cell?, this]
      have cw3 : W3.cell? ⟨wb, 3, none⟩ = some (.slice (some ⟨g, 0, none⟩) L1.length zc) := by have := K3.out; simp [World.cell?, this]
      have cx2 : W3.cell? ⟨xb, 2, none⟩ = some (.int .i64 c.s) := cell_in (l := ccells c) (by rw [← HAA.out]; exact X3.out) rfl
      obtain ⟨W4, hW4⟩ : ∃ W4, (W3.setCell ⟨g, j * 4 + 1, none⟩ (.int .i64 c.s)).drew = W4 := ⟨_, rfl⟩
      have hW4' : W3.drew.setCell ⟨g, j * 4 + 1, none⟩ (.int .i64 c.s) = W4 := by rw [← hW4]; rfl
      obtain ⟨W5, hW5⟩ : ∃ W5, W4.setCell ⟨g, j * 4 + 3, none⟩ (.int .i64 d.e) = W5 := ⟨_, rfl⟩
      have far4 : ∀ k, k ≠ g → W4.heap[k]? = W3.heap[k]? := fun k hk => by rw [← hW4]; exact Below.heap_setCell W3 _ _ k hk
      have far5 : ∀ k, k ≠ g → W5.heap[k]? = W3.heap[k]? := fun k hk => by rw [← hW5]; exact (Below.heap_setCell W4 _ _ k hk).trans (far4 k hk)
      have row4 : W4.ownsRow n0 71 4 (.slice (some ⟨g, 0, none⟩) L1.length zc) L1.length (ssC (L1.set j ⟨sj.c, c.s, sj.code, sj.e⟩)) := by
        have := (row3.stored (j * 4 + 1) (.int .i64 c.s)).1
        rw [ssC_set L1 j sj ⟨sj.c, c.s, sj.code, sj.e⟩ 1 _ HX1.out (by decide) rfl] at this
        rw [← hW4]
        exact own_drew this
      have row5 : W5.ownsRow n0 71 4 (.slice (some ⟨g, 0, none⟩) L1.length zc) L1.length (ssC (L1.set j ⟨sj.c, c.s, sj.code, d.e⟩)) := by
        have := (row4.stored (j * 4 + 3) (.int .i64 d.e)).1
        rw [ssC_set (L1.set j ⟨sj.c, c.s, sj.code, sj.e⟩) j ⟨sj.c, c.s, sj.code, sj.e⟩ ⟨sj.c, c.s, sj.code, d.e⟩ 3 _ (by rw [List.getElem?_set_self hjl]) (by decide) rfl, List.set_set] at this
        rw [← hW5]
        exact this
      have h4 : W4.cell? ⟨g, j * 4 + 3, none⟩ = some (.int .i64 sj.e) := by
        have := row4.cells (g := g) rfl _ _ (ssC_at (L1.set j ⟨sj.c, c.s, sj.code, sj.e⟩) j ⟨sj.c, c.s, sj.code, sj.e⟩ (by rw [List.getElem?_set_self hjl]) 3 _ rfl)
        rwa [Addr.add_lit, Nat.zero_add] at this
      have z4 : W4.frozen? ⟨g, j * 4 + 3, none⟩ = false := row4.frozenAt _
      have e4x : W4.cell? ⟨xb, 2, none⟩ = some (.int .i64 c.s) := (World.cell?_of_block (w := W3) (far4 xb hxg)).trans cx2
      have e4w : W4.cell? ⟨wb, 0, none⟩ = some (.int .i64 d.e) := (World.cell?_of_block (w := W3) (far4 wb hwg)).trans cw0
      have e5x : W5.cell? ⟨xb, 2, none⟩ = some (.int .i64 c.s) := (World.cell?_of_block (w := W3) (far5 xb hxg)).trans cx2
      have e5w : W5.cell? ⟨wb, 0, none⟩ = some (.int .i64 d.e) := (World.cell?_of_block (w := W3) (far5 wb hwg)).trans cw0
      have k5 := (far5 wb hwg).trans K3.out
      have x5 := (far5 xb hxg).trans X3.out
      have B5 : Aside0 (Below n0 w W5) := ⟨by
        rw [← hW5, ← hW4]
        exact ((B3.out.setCell hgb _).drew).setCell hgb _⟩
      have far : ∀ (t : TypeId), t ≠ 71 → ∀ (k : Nat) (cur : Array Value), W3.heap[k]? = some (.cells cur t (0, 0)) → W5.heap[k]? = W3.heap[k]? := fun t ht k cur hk => far5 k (hne t ht k cur hk)
      have d5 : DirC W5 n0 ⟨d.e, d.us, d.hs, L1.set j ⟨sj.c, c.s, sj.code, d.e⟩⟩ x1 x2 (.slice (some ⟨g, 0, none⟩) L1.length zc) := by
        refine ⟨⟨uc3, own_move hu3 fun k e => ?_, UsC.move (fun k cur _ hk => far 68 (by decide) k cur hk) hv3⟩, own_move hh3 fun k e => ?_, ?_⟩
        · obtain ⟨cur, hc⟩ := own_typed hu3 k e
          exact far 63 (by decide) k cur hc
        · obtain ⟨cur, hc⟩ := own_typed hh3 k e
          exact far 36 (by decide) k cur hc
        · dsimp only
          rw [List.length_set]
          exact row5
      have HLS := Aside0.mk (show (L1.set j (⟨sj.c, c.s, sj.code, d.e⟩ : Ses)).length = L1.length from List.length_set)
      have AC : Aside0 (∀ W, W.heap = W5.heap → W.os = W5.os → W.tape = W5.tape → W.output = W5.output → Calls Tryz.prog 32 #[.pointer (some ⟨wb, 0, none⟩), .agg A] W fun e w' => AddPost ⟨d.e, d.us, d.hs, L1.set j ⟨sj.c, c.s, sj.code, d.e⟩⟩ c n0 wb x2 (.slice (some ⟨g, 0, none⟩) L1.length zc) W5 e w') := ⟨fun W h1 h2 h3 h4 => by
        have hbw : Below W5.heap.size W5 W := ⟨h2, h3, h4, by rw [h1]; exact Nat.le_refl _, fun k _ => by rw [h1]⟩
        refine (add_c ⟨d.e, d.us, d.hs, L1.set j ⟨sj.c, c.s, sj.code, d.e⟩⟩ c wb n0 A x1 x2 (.slice (some ⟨g, 0, none⟩) L1.length zc) W HA.out (by rw [h1]; exact k5) (d5.below hbw) HN0.out ⟨OK.out.add.len, OK.out.add.rise, OK.out.add.lo, OK.out.add.hi, OK.out.add.kl, OK.out.add.kh, OK.out.add.may, OK.out.add.us⟩).mono ?_
        rintro e w' ⟨i, x1', a1, a2, a3, a4, a5⟩
        exact ⟨i, x1', a1, a2, a3, a4, (hbw.mono (by have := (row5.lt g rfl).2; omega)).trans a5⟩⟩
      have hj0 : (0 : Int) ≤ (j : Int) := by omega
      have hji : (j : Int) < (L1.length : Int) := by omega
      have D5 := Aside0.mk d5
      clear hu3 hv3 hh3 row3 gs hne curg hcg d5 row4 row5 far4 far5 far k5 D3
      have HJL := Aside0.mk hjl
      obtain ⟨n1, hn1⟩ : ∃ n1, L1.length = n1 := ⟨_, rfl⟩
      have HN1 := Aside0.mk hn1
      rw [hn1] at cw3 hji AC HLS D5
      clear hjl hn1
      go_upto_region 9 with fail
      refine wp_region_held_drew (S := (fun W => W.cell? ⟨xb, 2, none⟩ = some (.int .i64 c.s) ∧ W.cell? ⟨wb, 0, none⟩ = some (.int .i64 d.e))) (by kernel_rfl) (by exact ⟨cx2, cw0⟩) (fun hHeld => ?_)
      refine wpAnyH_take (i := 0) (oi := _) (v := ?_) rfl (by kernel_rfl) (by kernel_rfl) (by kernel_rfl) (fun _ _ _ h => h) (Or.inl ⟨by rfl, ?_⟩) (by assumption) ?_
      rotate_left
      · (intro w hSw; (try dsimp only at hSw); obtain ⟨s1_, s2_⟩ := hSw; go_simp; (try with_reducible rfl))
      (try simp only [uA, uB, uC, uD, uE, uF, uG, uH])
      refine wpAnyH_take (i := 1) (oi := _) (v := ?_) rfl (by kernel_rfl) (by kernel_rfl) (by kernel_rfl) (fun _ _ _ h => h) (Or.inl ⟨by rfl, ?_⟩) (by assumption) ?_
      rotate_left
      · (intro w hSw; (try dsimp only at hSw); obtain ⟨s1_, s2_⟩ := hSw; go_simp; (try with_reducible rfl))
      (try simp only [uA, uB, uC, uD, uE, uF, uG, uH])
      refine wpAnyH_take (i := 2) (oi := _) (v := ?_) rfl (by kernel_rfl) (by kernel_rfl) (by kernel_rfl) (fun _ _ _ h => h) (Or.inl ⟨by rfl, ?_⟩) (by assumption) ?_
      rotate_left
      · (intro w hSw; (try dsimp only at hSw); obtain ⟨s1_, s2_⟩ := hSw; go_simp; (try with_reducible rfl))
      (try simp only [uA, uB, uC, uD, uE, uF, uG, uH])
      refine wpAnyH_take (i := 3) (oi := _) (v := ?_) rfl (by kernel_rfl) (by kernel_rfl) (by kernel_rfl) (fun _ _ _ h => h) (Or.inl ⟨by rfl, ?_⟩) (by assumption) ?_
      rotate_left
      · (intro w hSw; (try dsimp only at hSw); obtain ⟨s1_, s2_⟩ := hSw; go_simp; (try with_reducible rfl))
      (try simp only [uA, uB, uC, uD, uE, uF, uG, uH])
      refine wpAnyH_take (i := 4) (oi := _) (v := ?_) rfl (by kernel_rfl) (by kernel_rfl) (by kernel_rfl) (fun _ _ _ h => h) (Or.inl ⟨by rfl, ?_⟩) (by assumption) ?_
      rotate_left
      · (intro w hSw; (try dsimp only at hSw); obtain ⟨s1_, s2_⟩ := hSw; go_simp; (try with_reducible rfl))
      (try simp only [uA, uB, uC, uD, uE, uF, uG, uH])
      refine wpAnyH_take (i := 5) (oi := _) (v := ?_) rfl (by kernel_rfl) (by kernel_rfl) (by kernel_rfl) (fun _ _ _ h => h) (Or.inl ⟨by rfl, ?_⟩) (by assumption) ?_
      rotate_left
      · (intro w hSw; (try dsimp only at hSw); obtain ⟨s1_, s2_⟩ := hSw; go_simp; (try with_reducible rfl))
      (try simp only [uA, uB, uC, uD, uE, uF, uG, uH])
      refine wpAnyH_take (i := 6) (oi := _) (v := ?_) rfl (by kernel_rfl) (by kernel_rfl) (by kernel_rfl) (fun _ _ _ h => h) (Or.inl ⟨by rfl, ?_⟩) (by assumption) ?_
      rotate_left
      · (intro w hSw; (try dsimp only at hSw); obtain ⟨s1_, s2_⟩ := hSw; go_simp; (try with_reducible rfl))
      (try simp only [uA, uB, uC, uD, uE, uF, uG, uH])
      refine wpAnyH_take (i := 7) (oi := _) (v := ?_) rfl (by kernel_rfl) (by kernel_rfl) (by kernel_rfl) (fun _ _ _ h => h) (Or.inl ⟨by rfl, ?_⟩) (by assumption) ?_
      rotate_left
      · (intro w hSw; (try dsimp only at hSw); obtain ⟨s1_, s2_⟩ := hSw; go_simp; (try with_reducible rfl))
      (try simp only [uA, uB, uC, uD, uE, uF, uG, uH])
      refine wpAnyH_take (i := 8) (oi := _) (v := ?_) rfl (by kernel_rfl) (by kernel_rfl) (by kernel_rfl) (fun _ _ _ h => h) (Or.inl ⟨by rfl, ?_⟩) (by assumption) ?_
      rotate_left
      · (intro w hSw; (try dsimp only at hSw); obtain ⟨s1_, s2_⟩ := hSw; go_simp; (try with_reducible rfl))
      (try simp only [uA, uB, uC, uD, uE, uF, uG, uH])
      refine wpAnyH_take (i := 9) (oi := _) (v := ?_) rfl (by kernel_rfl) (by kernel_rfl) (by kernel_rfl) (fun _ _ _ h => h) (Or.inl ⟨by rfl, ?_⟩) (by assumption) ?_
      rotate_left
      · (intro w hSw; (try dsimp only at hSw); obtain ⟨s1_, s2_⟩ := hSw; go_simp; (try with_reducible rfl))
      (try simp only [uA, uB, uC, uD, uE, uF, uG, uH])
      refine wpAnyH_take (i := 10) (oi := _) (v := ?_) rfl (by kernel_rfl) (by kernel_rfl) (by kernel_rfl) (fun _ _ _ h => h) (Or.inl ⟨by rfl, ?_⟩) (by assumption) ?_
      rotate_left
      · (intro w hSw; (try dsimp only at hSw); obtain ⟨s1_, s2_⟩ := hSw; go_simp; (try with_reducible rfl))
      (try simp only [uA, uB, uC, uD, uE, uF, uG, uH])
      refine wpAnyH_ready (rs := [11]) (by kernel_rfl) (by decide) (AllReadyH.cons rfl (fun K' hK => ?_) AllReadyH.nil)
      rw [if_pos (by rfl)]
      go_simp
      (first | rw [hW4] | rw [hW4'] | skip)
      refine hK.out _ _ (by exact ⟨e4x, e4w⟩) (fun hHeld => ?_)
      clear hK
      (try simp only [uA, uB, uC, uD, uE, uF, uG, uH])
      refine wpAnyH_take (i := 12) (oi := _) (v := ?_) rfl (by kernel_rfl) (by kernel_rfl) (by kernel_rfl) (fun _ _ _ h => h) (Or.inl ⟨by rfl, ?_⟩) (by assumption) ?_
      rotate_left
      · (intro w hSw; (try dsimp only at hSw); obtain ⟨s1_, s2_⟩ := hSw; go_simp; (try with_reducible rfl))
      (try simp only [uA, uB, uC, uD, uE, uF, uG, uH])
      refine wpAnyH_take (i := 13) (oi := _) (v := ?_) rfl (by kernel_rfl) (by kernel_rfl) (by kernel_rfl) (fun _ _ _ h => h) (Or.inl ⟨by rfl, ?_⟩) (by assumption) ?_
      rotate_left
      · (intro w hSw; (try dsimp only at hSw); obtain ⟨s1_, s2_⟩ := hSw; go_simp; (try with_reducible rfl))
      (try simp only [uA, uB, uC, uD, uE, uF, uG, uH])
      refine wpAnyH_ready (rs := [14]) (by kernel_rfl) (by decide) (AllReadyH.cons rfl (fun K' hK => ?_) AllReadyH.nil)
      rw [if_pos (by rfl)]
      go_simp
      (first | rw [hW5] | skip)
      refine hK.out _ _ (by exact ⟨e5x, e5w⟩) (fun hHeld => ?_)
      clear hK
      (try simp only [uA, uB, uC, uD, uE, uF, uG, uH])
      refine wpAnyH_done (by kernel_rfl) ?_ _
      have A5 := Aside0.mk (AC.out W5 rfl rfl rfl rfl)
      clear AC g1 g3 z1 h4 z4 e4x e4w cw0 cw3 cx2 hW4 hW4' hW5
      go_upto_region 11 with (first | (refine wpList_load_row rfl 41 (.tmp 3) rfl xb rfl 41 _ (0, 0) _ x5 Tryz.underlying41 rfl hi41 ?_) | (go_at_call 32; refine A5.out.mono ?_; rintro e W6 ⟨i, x1', a1, rfl, a3, a4, a5⟩; refine Aside0.out ?_))
      refine ⟨?_⟩
      rw [(addD_ss d c i _).2] at a4
      have hac : addCode ⟨d.e, d.us, d.hs, L1.set j ⟨sj.c, c.s, sj.code, d.e⟩⟩ c i = addCode d c i := rfl
      rw [hac]
      obtain ⟨⟨uc6, hu6, hv6⟩, hh6, row6⟩ := a4
      dsimp only at hu6 hv6 hh6 row6
      rw [HLS.out] at row6
      have g6 : W6.cell? ⟨g, j * 4 + 2, none⟩ = some (.int .i64 sj.code) := by
        have := row6.cells (g := g) rfl _ _ (ssC_at (L1.set j ⟨sj.c, c.s, sj.code, d.e⟩) j ⟨sj.c, c.s, sj.code, d.e⟩ (by rw [List.getElem?_set_self HJL.out]) 2 _ rfl)
        rwa [Addr.add_lit, Nat.zero_add] at this
      have z6 : W6.frozen? ⟨g, j * 4 + 2, none⟩ = false := row6.frozenAt _
      have PP : Aside0 (ReqPost d c n0 wb w (.returned (.int .i64 0)) (W6.setCell ⟨g, j * 4 + 2, none⟩ (.int .i64 (addCode d c i)))) := ⟨by
        obtain ⟨curg, hcg⟩ := own_typed row6 g rfl
        have hne : ∀ (t : TypeId), t ≠ 71 → ∀ (k : Nat) (cur : Array Value), W6.heap[k]? = some (.cells cur t (0, 0)) → (W6.setCell ⟨g, j * 4 + 2, none⟩ (.int .i64 (addCode d c i))).heap[k]? = W6.heap[k]? := fun t ht k cur hk => Below.heap_setCell W6 _ _ k fun e => by
          have e' : k = g := e
          rw [e', hcg] at hk
          injection hk with hk
          injection hk with _ hk
          exact ht hk.symm
        refine TP.out i _ a1 ⟨HN0.out, x1', x2, .slice (some ⟨g, 0, none⟩) n1 zc, ?_, ⟨uc6, own_move hu6 fun k e => ?_, UsC.move (fun k cur _ hk => hne 68 (by decide) k cur hk) hv6⟩, own_move hh6 fun k e => ?_, ?_⟩ ((B5.out.trans a5).setCell hgb _)
        · dsimp only
          rw [(addD_e d c i).1]
          exact (hne 47 (by decide) wb _ a3).trans a3
        · obtain ⟨cur, hc⟩ := own_typed hu6 k e
          exact hne 63 (by decide) k cur hc
        · obtain ⟨cur, hc⟩ := own_typed hh6 k e
          exact hne 36 (by decide) k cur hc
        · dsimp only
          have := (row6.stored (j * 4 + 2) (.int .i64 (addCode d c i))).1
          rw [ssC_set (L1.set j ⟨sj.c, c.s, sj.code, d.e⟩) j ⟨sj.c, c.s, sj.code, d.e⟩ ⟨sj.c, c.s, addCode d c i, d.e⟩ 2 _ (by rw [List.getElem?_set_self HJL.out]) (by decide) rfl, List.set_set] at this
          rw [List.length_set]
          rw [HN1.out]
          exact this⟩
      clear row6 hu6 hv6 hh6 a3 a5 hac
      generalize addCode d c i = cd at *
      go_wp2_with fail
      go_ret
      exact PP.out
    · rw [if_pos (by rfl)]
      go_simp
      obtain ⟨W4, hW4⟩ : ∃ W4, (World.alloc W1.drew (Obj.cells #[.int .i64 c.c, .int .i64 0, .int .i64 0, .int .i64 0] 71)) = W4 := ⟨_, rfl⟩
      have hW4' : (W1.alloc (.cells #[.int .i64 c.c, .int .i64 0, .int .i64 0, .int .i64 0] 71)).drew = W4 := by rw [← hW4]; rfl
      have b4 : Below W1.heap.size W1 W4 := by rw [← hW4']; exact ((Below.refl _ _).alloc (Nat.le_refl _) _).drew
      have k4 : W4.heap[W1.heap.size]? = some (.cells #[.int .i64 c.c, .int .i64 0, .int .i64 0, .int .i64 0] 71 (0, 0)) := by rw [← hW4']; exact blk_new W1 _
      have C12 := Aside0.mk (IC.out W1.heap.size W4 b4 (Nat.le_refl _) k4)
      (first | rw [hW4] | rw [hW4'] | skip)
      have c5 := (SK.out W4 b4).1
      refine hK.out _ _ (by exact (SK.out W4 b4).2) (fun hHeld => ?_)
      clear hK
      (try simp only [uA, uB, uC, uD, uE, uF, uG, uH])
      refine wpAnyH_ready (rs := [5]) (by kernel_rfl) (by decide) (AllReadyH.cons rfl (fun K' hK => ?_) AllReadyH.nil)
      rw [if_pos (by rfl)]
      go_simp

      refine hK.out _ _ (by exact (SK.out W4 b4).2) (fun hHeld => ?_)
      clear hK
      (try simp only [uA, uB, uC, uD, uE, uF, uG, uH])
      refine wpAnyH_ready (rs := [11]) (by kernel_rfl) (by decide) (AllReadyH.cons rfl (fun K' hK => ?_) AllReadyH.nil)
      rw [if_pos (by rfl)]
      go_simp
      refine (C12.out).mono ?_
      rintro e W5 ⟨v5, rfl, ho5, hg5⟩
      (try dsimp only)
      have hfar : ∀ k, k < W1.heap.size → some k ≠ (Value.slice SA d.ss.length sc).ownBlock → W5.heap[k]? = W1.heap[k]? := fun k hk hne => (hg5.block k (by have := b4.size; omega) hne).trans (b4.block k hk)
      obtain ⟨zA, zc, rfl, hzc⟩ := (Reads.of_own ho5).form
      obtain ⟨g, rfl⟩ : ∃ g, zA = some ⟨g, 0, none⟩ := by
        rcases ho5.2 with ⟨h, h0⟩ | ⟨g, cap, cur, h, _⟩
        · cases h
        · injection h with h
          exact ⟨g, h⟩
      have hm : ∀ (t : TypeId), 71 ≠ t → ∀ (k : Nat) (cur : Array Value), W1.heap[k]? = some (.cells cur t (0, 0)) → W5.heap[k]? = W1.heap[k]? := fun t ht k cur hk => hfar k (Array.getElem?_eq_some_iff.1 hk).1 (own_ne D1.out.2.2 hk ht)
      have k5 := (hm 47 (by decide) wb _ K1.out).trans K1.out
      have X5 := Aside0.mk ((hm 41 (by decide) xb _ X1.out).trans X1.out)
      have g5 : W5.cell? ⟨wb, 3, none⟩ = some (.slice SA d.ss.length sc) := by simp [World.cell?, k5]
      have f5 : W5.frozen? ⟨wb, 3, none⟩ = false := by simp [World.frozen?, k5]
      have x5 : W5.cell? ⟨xb, 1, none⟩ = some (.int .i64 c.c) := cell_in (l := ccells c) (by rw [← HAA.out]; exact X5.out) rfl
      rw [ssC_ins] at ho5
      obtain ⟨⟨uc1, hu1, hv1⟩, hh1, _⟩ := D1.out
      have D5 : Aside0 (W5.ownsRow n0 63 2 x1 d.us.length uc1 ∧ UsC W5 n0 d.us uc1 ∧ W5.ownsRow n0 36 65 x2 d.hs.length (hsC d.hs) ∧ W5.ownsRow n0 71 4 (.slice (some ⟨g, 0, none⟩) (d.ss.length + 1) zc) (d.ss.length + 1) (ssC (insSs d.ss j c.c)) ∧ Below n0 w W5) := ⟨by
        refine ⟨own_move hu1 fun k e => ?_, UsC.move (fun k cur _ hk => hm 68 (by decide) k cur hk) hv1, own_move hh1 fun k e => ?_, ho5, B1.out.trans ((b4.mono (by have := SZ1.out; have := HXB.out; omega)).grown hg5 (by have := b4.size; have := SZ1.out; have := HXB.out; omega) fun k e => (D1.out.2.2.lt k e).1)⟩
        · obtain ⟨cur, hc⟩ := own_typed hu1 k e
          exact hm 63 (by decide) k cur hc
        · obtain ⟨cur, hc⟩ := own_typed hh1 k e
          exact hm 36 (by decide) k cur hc⟩
      have K5 := Aside0.mk k5
      clear ho5 k5 hm hfar hg5 hu1 hv1 hh1
      refine hK.out _ _ (by exact x5) (fun hHeld => ?_)
      clear hK
      (try simp only [uA, uB, uC, uD, uE, uF, uG, uH])
      refine wpAnyH_take (i := 12) (oi := _) (v := ?_) rfl (by kernel_rfl) (by kernel_rfl) (by kernel_rfl) (fun _ _ _ h => h) (Or.inl ⟨by rfl, ?_⟩) (by assumption) ?_
      rotate_left
      · (intro w hSw; (try dsimp only at hSw); go_simp; (try with_reducible rfl))
      (try simp only [uA, uB, uC, uD, uE, uF, uG, uH])
      refine wpAnyH_take (i := 13) (oi := _) (v := ?_) rfl (by kernel_rfl) (by kernel_rfl) (by kernel_rfl) (fun _ _ _ h => h) (Or.inl ⟨by rfl, ?_⟩) (by assumption) ?_
      rotate_left
      · (intro w hSw; (try dsimp only at hSw); go_simp; (try with_reducible rfl))
      (try simp only [uA, uB, uC, uD, uE, uF, uG, uH])
      refine wpAnyH_take (i := 14) (oi := _) (v := ?_) rfl (by kernel_rfl) (by kernel_rfl) (by kernel_rfl) (fun _ _ _ h => h) (Or.inl ⟨by rfl, ?_⟩) (by assumption) ?_
      rotate_left
      · (intro w hSw; (try dsimp only at hSw); go_simp; (try with_reducible rfl))
      (try simp only [uA, uB, uC, uD, uE, uF, uG, uH])
      refine wpAnyH_ready (rs := [15]) (by kernel_rfl) (by decide) (AllReadyH.cons rfl (fun K' hK => ?_) AllReadyH.nil)
      rw [if_pos (by rfl)]
      go_simp
      obtain ⟨W3, hW3⟩ : ∃ W3, W5.setCell ⟨wb, 3, none⟩ (.slice (some ⟨g, 0, none⟩) (d.ss.length + 1) zc) = W3 := ⟨_, rfl⟩
      have K3 : Aside0 (W3.heap[wb]? = some (.cells #[.int .i64 d.e, x1, x2, .slice (some ⟨g, 0, none⟩) (d.ss.length + 1) zc] 47 (0, 0))) := ⟨by rw [← hW3]; exact blk_put K5.out 3 _ rfl⟩
      have hfar : ∀ k, k ≠ wb → W3.heap[k]? = W5.heap[k]? := fun k hk => by rw [← hW3]; exact Below.heap_setCell W5 _ _ k hk
      have hm : ∀ (t : TypeId), t ≠ 47 → ∀ (k : Nat) (cur : Array Value), W5.heap[k]? = some (.cells cur t (0, 0)) → W3.heap[k]? = W5.heap[k]? := fun t ht k cur hk => hfar k fun e => by
        rw [e, K5.out] at hk
        injection hk with hk
        injection hk with _ hk
        exact ht hk.symm
      have X3 := Aside0.mk ((hm 41 (by decide) xb _ X5.out).trans X5.out)
      have hlen : (insSs d.ss j c.c).length = d.ss.length + 1 := insSs_len d.ss j c.c hjle
      have D3 : Aside0 (DirC W3 n0 ⟨d.e, d.us, d.hs, insSs d.ss j c.c⟩ x1 x2 (.slice (some ⟨g, 0, none⟩) (d.ss.length + 1) zc)) := ⟨by
        obtain ⟨d1, d2, d3, d4, d5⟩ := D5.out
        refine ⟨⟨_, own_move d1 fun k e => ?_, UsC.move (fun k cur _ hk => hm 68 (by decide) k cur hk) d2⟩, own_move d3 fun k e => ?_, ?_⟩
        · obtain ⟨cur, hc⟩ := own_typed d1 k e
          exact hm 63 (by decide) k cur hc
        · obtain ⟨cur, hc⟩ := own_typed d3 k e
          exact hm 36 (by decide) k cur hc
        · dsimp only
          rw [hlen]
          refine own_move d4 fun k e => ?_
          obtain ⟨cur, hc⟩ := own_typed d4 k e
          exact hm 71 (by decide) k cur hc⟩
      have B3 : Aside0 (Below n0 w W3) := ⟨by rw [← hW3]; exact D5.out.2.2.2.2.setCell HN0.out _⟩
      have HX1 : Aside0 ((insSs d.ss j c.c)[j]? = some ⟨c.c, 0, 0, 0⟩) := ⟨by
        have := insSs_at d.ss j c.c hjle
        have hl : j < (insSs d.ss j c.c).length := by omega
        rw [List.getElem?_eq_getElem hl]
        unfold sesAt at this
        rw [List.getElem?_eq_getElem hl] at this
        exact congrArg some this⟩
      have x3 : W3.cell? ⟨xb, 1, none⟩ = some (.int .i64 c.c) := cell_in (l := ccells c) (by rw [← HAA.out]; exact X3.out) rfl
      (first | rw [hW3] | skip)
      refine hK.out _ _ (by exact x3) (fun hHeld => ?_)
      clear hK
      (try simp only [uA, uB, uC, uD, uE, uF, uG, uH])
      refine wpAnyH_done (by kernel_rfl) ?_ _
      clear hW3 g5 f5 x5 hm hfar K5 D5 X5 cw3 c1 c2
      obtain ⟨L1, hL1⟩ : ∃ L1, insSs d.ss j c.c = L1 := ⟨_, rfl⟩
      rw [hL1] at TP D3 HX1 hlen
      obtain ⟨sj, hsj⟩ : ∃ sj : Ses, sj = ⟨c.c, 0, 0, 0⟩ := ⟨_, rfl⟩
      have hsjc : sj.c = c.c := by rw [hsj]
      rw [← hsj] at HX1
      rw [← hlen] at K3 D3
      have TP : Aside0 (∀ (i : Nat) (w' : World), Pos d.us.length (fun t => cmpN (nameAt d.us t) c.u) i → Wk w' wb n0 ⟨(addD d c i).e, (addD d c i).us, (addD d c i).hs, L1.set j ⟨sj.c, c.s, addCode d c i, d.e⟩⟩ → Below n0 w w' → ReqPost d c n0 wb w (.returned (.int .i64 0)) w') := by rw [hsjc]; exact TP
      have HLN := Aside0.mk hlen
      clear hlen hL1 hsj hsjc IC SK C12 b4 k4
      obtain ⟨⟨uc3, hu3, hv3⟩, hh3, row3⟩ := D3.out
      dsimp only at hu3 hv3 hh3 row3
      have hjl : j < L1.length := (List.getElem?_eq_some_iff.1 HX1.out).1
      have gs : ∀ (k : Nat) (v : Value), (scells sj)[k]? = some v → W3.cell? ⟨g, j * 4 + k, none⟩ = some v := fun k v hk => by
        have := row3.cells (g := g) rfl _ _ (ssC_at L1 j sj HX1.out k v hk)
        rwa [Addr.add_lit, Nat.zero_add] at this
      have g1 : W3.cell? ⟨g, j * 4 + 1, none⟩ = some (.int .i64 sj.s) := gs 1 _ rfl
      have g3 : W3.cell? ⟨g, j * 4 + 3, none⟩ = some (.int .i64 sj.e) := gs 3 _ rfl
      have z1 : W3.frozen? ⟨g, j * 4 + 1, none⟩ = false := row3.frozenAt _
      have hgb : n0 ≤ g := (row3.lt g rfl).1
      obtain ⟨curg, hcg⟩ := own_typed row3 g rfl
      have hne : ∀ (t : TypeId), t ≠ 71 → ∀ (k : Nat) (cur : Array Value), W3.heap[k]? = some (.cells cur t (0, 0)) → k ≠ g := fun t ht k cur hk e => by
        rw [e, hcg] at hk
        injection hk with hk
        injection hk with _ hk
        exact ht hk.symm
      have hwg : wb ≠ g := hne 47 (by decide) wb _ K3.out
      have hxg : xb ≠ g := hne 41 (by decide) xb _ X3.out
      have cw0 : W3.cell? ⟨wb, 0, none⟩ = some (.int .i64 d.e) := by have := K3.out; simp [World.cell?, this]
      have cw3 : W3.cell? ⟨wb, 3, none⟩ = some (.slice (some ⟨g, 0, none⟩) L1.length zc) := by have := K3.out; simp [World.cell?, this]
      have cx2 : W3.cell? ⟨xb, 2, none⟩ = some (.int .i64 c.s) := cell_in (l := ccells c) (by rw [← HAA.out]; exact X3.out) rfl
      obtain ⟨W4, hW4⟩ : ∃ W4, (W3.setCell ⟨g, j * 4 + 1, none⟩ (.int .i64 c.s)).drew = W4 := ⟨_, rfl⟩
      have hW4' : W3.drew.setCell ⟨g, j * 4 + 1, none⟩ (.int .i64 c.s) = W4 := by rw [← hW4]; rfl
      obtain ⟨W5, hW5⟩ : ∃ W5, W4.setCell ⟨g, j * 4 + 3, none⟩ (.int .i64 d.e) = W5 := ⟨_, rfl⟩
      have far4 : ∀ k, k ≠ g → W4.heap[k]? = W3.heap[k]? := fun k hk => by rw [← hW4]; exact Below.heap_setCell W3 _ _ k hk
      have far5 : ∀ k, k ≠ g → W5.heap[k]? = W3.heap[k]? := fun k hk => by rw [← hW5]; exact (Below.heap_setCell W4 _ _ k hk).trans (far4 k hk)
      have row4 : W4.ownsRow n0 71 4 (.slice (some ⟨g, 0, none⟩) L1.length zc) L1.length (ssC (L1.set j ⟨sj.c, c.s, sj.code, sj.e⟩)) := by
        have := (row3.stored (j * 4 + 1) (.int .i64 c.s)).1
        rw [ssC_set L1 j sj ⟨sj.c, c.s, sj.code, sj.e⟩ 1 _ HX1.out (by decide) rfl] at this
        rw [← hW4]
        exact own_drew this
      have row5 : W5.ownsRow n0 71 4 (.slice (some ⟨g, 0, none⟩) L1.length zc) L1.length (ssC (L1.set j ⟨sj.c, c.s, sj.code, d.e⟩)) := by
        have := (row4.stored (j * 4 + 3) (.int .i64 d.e)).1
        rw [ssC_set (L1.set j ⟨sj.c, c.s, sj.code, sj.e⟩) j ⟨sj.c, c.s, sj.code, sj.e⟩ ⟨sj.c, c.s, sj.code, d.e⟩ 3 _ (by rw [List.getElem?_set_self hjl]) (by decide) rfl, List.set_set] at this
        rw [← hW5]
        exact this
      have h4 : W4.cell? ⟨g, j * 4 + 3, none⟩ = some (.int .i64 sj.e) := by
        have := row4.cells (g := g) rfl _ _ (ssC_at (L1.set j ⟨sj.c, c.s, sj.code, sj.e⟩) j ⟨sj.c, c.s, sj.code, sj.e⟩ (by rw [List.getElem?_set_self hjl]) 3 _ rfl)
        rwa [Addr.add_lit, Nat.zero_add] at this
      have z4 : W4.frozen? ⟨g, j * 4 + 3, none⟩ = false := row4.frozenAt _
      have e4x : W4.cell? ⟨xb, 2, none⟩ = some (.int .i64 c.s) := (World.cell?_of_block (w := W3) (far4 xb hxg)).trans cx2
      have e4w : W4.cell? ⟨wb, 0, none⟩ = some (.int .i64 d.e) := (World.cell?_of_block (w := W3) (far4 wb hwg)).trans cw0
      have e5x : W5.cell? ⟨xb, 2, none⟩ = some (.int .i64 c.s) := (World.cell?_of_block (w := W3) (far5 xb hxg)).trans cx2
      have e5w : W5.cell? ⟨wb, 0, none⟩ = some (.int .i64 d.e) := (World.cell?_of_block (w := W3) (far5 wb hwg)).trans cw0
      have k5 := (far5 wb hwg).trans K3.out
      have x5 := (far5 xb hxg).trans X3.out
      have B5 : Aside0 (Below n0 w W5) := ⟨by
        rw [← hW5, ← hW4]
        exact ((B3.out.setCell hgb _).drew).setCell hgb _⟩
      have far : ∀ (t : TypeId), t ≠ 71 → ∀ (k : Nat) (cur : Array Value), W3.heap[k]? = some (.cells cur t (0, 0)) → W5.heap[k]? = W3.heap[k]? := fun t ht k cur hk => far5 k (hne t ht k cur hk)
      have d5 : DirC W5 n0 ⟨d.e, d.us, d.hs, L1.set j ⟨sj.c, c.s, sj.code, d.e⟩⟩ x1 x2 (.slice (some ⟨g, 0, none⟩) L1.length zc) := by
        refine ⟨⟨uc3, own_move hu3 fun k e => ?_, UsC.move (fun k cur _ hk => far 68 (by decide) k cur hk) hv3⟩, own_move hh3 fun k e => ?_, ?_⟩
        · obtain ⟨cur, hc⟩ := own_typed hu3 k e
          exact far 63 (by decide) k cur hc
        · obtain ⟨cur, hc⟩ := own_typed hh3 k e
          exact far 36 (by decide) k cur hc
        · dsimp only
          rw [List.length_set]
          exact row5
      have HLS := Aside0.mk (show (L1.set j (⟨sj.c, c.s, sj.code, d.e⟩ : Ses)).length = L1.length from List.length_set)
      have AC : Aside0 (∀ W, W.heap = W5.heap → W.os = W5.os → W.tape = W5.tape → W.output = W5.output → Calls Tryz.prog 32 #[.pointer (some ⟨wb, 0, none⟩), .agg A] W fun e w' => AddPost ⟨d.e, d.us, d.hs, L1.set j ⟨sj.c, c.s, sj.code, d.e⟩⟩ c n0 wb x2 (.slice (some ⟨g, 0, none⟩) L1.length zc) W5 e w') := ⟨fun W h1 h2 h3 h4 => by
        have hbw : Below W5.heap.size W5 W := ⟨h2, h3, h4, by rw [h1]; exact Nat.le_refl _, fun k _ => by rw [h1]⟩
        refine (add_c ⟨d.e, d.us, d.hs, L1.set j ⟨sj.c, c.s, sj.code, d.e⟩⟩ c wb n0 A x1 x2 (.slice (some ⟨g, 0, none⟩) L1.length zc) W HA.out (by rw [h1]; exact k5) (d5.below hbw) HN0.out ⟨OK.out.add.len, OK.out.add.rise, OK.out.add.lo, OK.out.add.hi, OK.out.add.kl, OK.out.add.kh, OK.out.add.may, OK.out.add.us⟩).mono ?_
        rintro e w' ⟨i, x1', a1, a2, a3, a4, a5⟩
        exact ⟨i, x1', a1, a2, a3, a4, (hbw.mono (by have := (row5.lt g rfl).2; omega)).trans a5⟩⟩
      have hj0 : (0 : Int) ≤ (j : Int) := by omega
      have hji : (j : Int) < (L1.length : Int) := by omega
      have D5 := Aside0.mk d5
      clear hu3 hv3 hh3 row3 gs hne curg hcg d5 row4 row5 far4 far5 far k5 D3
      have HJL := Aside0.mk hjl
      obtain ⟨n1, hn1⟩ : ∃ n1, L1.length = n1 := ⟨_, rfl⟩
      have HN1 := Aside0.mk hn1
      rw [hn1] at cw3 hji AC HLS D5
      clear hjl hn1
      go_upto_region 9 with fail
      refine wp_region_held_drew (S := (fun W => W.cell? ⟨xb, 2, none⟩ = some (.int .i64 c.s) ∧ W.cell? ⟨wb, 0, none⟩ = some (.int .i64 d.e))) (by kernel_rfl) (by exact ⟨cx2, cw0⟩) (fun hHeld => ?_)
      refine wpAnyH_take (i := 0) (oi := _) (v := ?_) rfl (by kernel_rfl) (by kernel_rfl) (by kernel_rfl) (fun _ _ _ h => h) (Or.inl ⟨by rfl, ?_⟩) (by assumption) ?_
      rotate_left
      · (intro w hSw; (try dsimp only at hSw); obtain ⟨s1_, s2_⟩ := hSw; go_simp; (try with_reducible rfl))
      (try simp only [uA, uB, uC, uD, uE, uF, uG, uH])
      refine wpAnyH_take (i := 1) (oi := _) (v := ?_) rfl (by kernel_rfl) (by kernel_rfl) (by kernel_rfl) (fun _ _ _ h => h) (Or.inl ⟨by rfl, ?_⟩) (by assumption) ?_
      rotate_left
      · (intro w hSw; (try dsimp only at hSw); obtain ⟨s1_, s2_⟩ := hSw; go_simp; (try with_reducible rfl))
      (try simp only [uA, uB, uC, uD, uE, uF, uG, uH])
      refine wpAnyH_take (i := 2) (oi := _) (v := ?_) rfl (by kernel_rfl) (by kernel_rfl) (by kernel_rfl) (fun _ _ _ h => h) (Or.inl ⟨by rfl, ?_⟩) (by assumption) ?_
      rotate_left
      · (intro w hSw; (try dsimp only at hSw); obtain ⟨s1_, s2_⟩ := hSw; go_simp; (try with_reducible rfl))
      (try simp only [uA, uB, uC, uD, uE, uF, uG, uH])
      refine wpAnyH_take (i := 3) (oi := _) (v := ?_) rfl (by kernel_rfl) (by kernel_rfl) (by kernel_rfl) (fun _ _ _ h => h) (Or.inl ⟨by rfl, ?_⟩) (by assumption) ?_
      rotate_left
      · (intro w hSw; (try dsimp only at hSw); obtain ⟨s1_, s2_⟩ := hSw; go_simp; (try with_reducible rfl))
      (try simp only [uA, uB, uC, uD, uE, uF, uG, uH])
      refine wpAnyH_take (i := 4) (oi := _) (v := ?_) rfl (by kernel_rfl) (by kernel_rfl) (by kernel_rfl) (fun _ _ _ h => h) (Or.inl ⟨by rfl, ?_⟩) (by assumption) ?_
      rotate_left
      · (intro w hSw; (try dsimp only at hSw); obtain ⟨s1_, s2_⟩ := hSw; go_simp; (try with_reducible rfl))
      (try simp only [uA, uB, uC, uD, uE, uF, uG, uH])
      refine wpAnyH_take (i := 5) (oi := _) (v := ?_) rfl (by kernel_rfl) (by kernel_rfl) (by kernel_rfl) (fun _ _ _ h => h) (Or.inl ⟨by rfl, ?_⟩) (by assumption) ?_
      rotate_left
      · (intro w hSw; (try dsimp only at hSw); obtain ⟨s1_, s2_⟩ := hSw; go_simp; (try with_reducible rfl))
      (try simp only [uA, uB, uC, uD, uE, uF, uG, uH])
      refine wpAnyH_take (i := 6) (oi := _) (v := ?_) rfl (by kernel_rfl) (by kernel_rfl) (by kernel_rfl) (fun _ _ _ h => h) (Or.inl ⟨by rfl, ?_⟩) (by assumption) ?_
      rotate_left
      · (intro w hSw; (try dsimp only at hSw); obtain ⟨s1_, s2_⟩ := hSw; go_simp; (try with_reducible rfl))
      (try simp only [uA, uB, uC, uD, uE, uF, uG, uH])
      refine wpAnyH_take (i := 7) (oi := _) (v := ?_) rfl (by kernel_rfl) (by kernel_rfl) (by kernel_rfl) (fun _ _ _ h => h) (Or.inl ⟨by rfl, ?_⟩) (by assumption) ?_
      rotate_left
      · (intro w hSw; (try dsimp only at hSw); obtain ⟨s1_, s2_⟩ := hSw; go_simp; (try with_reducible rfl))
      (try simp only [uA, uB, uC, uD, uE, uF, uG, uH])
      refine wpAnyH_take (i := 8) (oi := _) (v := ?_) rfl (by kernel_rfl) (by kernel_rfl) (by kernel_rfl) (fun _ _ _ h => h) (Or.inl ⟨by rfl, ?_⟩) (by assumption) ?_
      rotate_left
      · (intro w hSw; (try dsimp only at hSw); obtain ⟨s1_, s2_⟩ := hSw; go_simp; (try with_reducible rfl))
      (try simp only [uA, uB, uC, uD, uE, uF, uG, uH])
      refine wpAnyH_take (i := 9) (oi := _) (v := ?_) rfl (by kernel_rfl) (by kernel_rfl) (by kernel_rfl) (fun _ _ _ h => h) (Or.inl ⟨by rfl, ?_⟩) (by assumption) ?_
      rotate_left
      · (intro w hSw; (try dsimp only at hSw); obtain ⟨s1_, s2_⟩ := hSw; go_simp; (try with_reducible rfl))
      (try simp only [uA, uB, uC, uD, uE, uF, uG, uH])
      refine wpAnyH_take (i := 10) (oi := _) (v := ?_) rfl (by kernel_rfl) (by kernel_rfl) (by kernel_rfl) (fun _ _ _ h => h) (Or.inl ⟨by rfl, ?_⟩) (by assumption) ?_
      rotate_left
      · (intro w hSw; (try dsimp only at hSw); obtain ⟨s1_, s2_⟩ := hSw; go_simp; (try with_reducible rfl))
      (try simp only [uA, uB, uC, uD, uE, uF, uG, uH])
      refine wpAnyH_ready (rs := [11]) (by kernel_rfl) (by decide) (AllReadyH.cons rfl (fun K' hK => ?_) AllReadyH.nil)
      rw [if_pos (by rfl)]
      go_simp
      (first | rw [hW4] | rw [hW4'] | skip)
      refine hK.out _ _ (by exact ⟨e4x, e4w⟩) (fun hHeld => ?_)
      clear hK
      (try simp only [uA, uB, uC, uD, uE, uF, uG, uH])
      refine wpAnyH_take (i := 12) (oi := _) (v := ?_) rfl (by kernel_rfl) (by kernel_rfl) (by kernel_rfl) (fun _ _ _ h => h) (Or.inl ⟨by rfl, ?_⟩) (by assumption) ?_
      rotate_left
      · (intro w hSw; (try dsimp only at hSw); obtain ⟨s1_, s2_⟩ := hSw; go_simp; (try with_reducible rfl))
      (try simp only [uA, uB, uC, uD, uE, uF, uG, uH])
      refine wpAnyH_take (i := 13) (oi := _) (v := ?_) rfl (by kernel_rfl) (by kernel_rfl) (by kernel_rfl) (fun _ _ _ h => h) (Or.inl ⟨by rfl, ?_⟩) (by assumption) ?_
      rotate_left
      · (intro w hSw; (try dsimp only at hSw); obtain ⟨s1_, s2_⟩ := hSw; go_simp; (try with_reducible rfl))
      (try simp only [uA, uB, uC, uD, uE, uF, uG, uH])
      refine wpAnyH_ready (rs := [14]) (by kernel_rfl) (by decide) (AllReadyH.cons rfl (fun K' hK => ?_) AllReadyH.nil)
      rw [if_pos (by rfl)]
      go_simp
      (first | rw [hW5] | skip)
      refine hK.out _ _ (by exact ⟨e5x, e5w⟩) (fun hHeld => ?_)
      clear hK
      (try simp only [uA, uB, uC, uD, uE, uF, uG, uH])
      refine wpAnyH_done (by kernel_rfl) ?_ _
      have A5 := Aside0.mk (AC.out W5 rfl rfl rfl rfl)
      clear AC g1 g3 z1 h4 z4 e4x e4w cw0 cw3 cx2 hW4 hW4' hW5
      go_upto_region 11 with (first | (refine wpList_load_row rfl 41 (.tmp 3) rfl xb rfl 41 _ (0, 0) _ x5 Tryz.underlying41 rfl hi41 ?_) | (go_at_call 32; refine A5.out.mono ?_; rintro e W6 ⟨i, x1', a1, rfl, a3, a4, a5⟩; refine Aside0.out ?_))
      refine ⟨?_⟩
      rw [(addD_ss d c i _).2] at a4
      have hac : addCode ⟨d.e, d.us, d.hs, L1.set j ⟨sj.c, c.s, sj.code, d.e⟩⟩ c i = addCode d c i := rfl
      rw [hac]
      obtain ⟨⟨uc6, hu6, hv6⟩, hh6, row6⟩ := a4
      dsimp only at hu6 hv6 hh6 row6
      rw [HLS.out] at row6
      have g6 : W6.cell? ⟨g, j * 4 + 2, none⟩ = some (.int .i64 sj.code) := by
        have := row6.cells (g := g) rfl _ _ (ssC_at (L1.set j ⟨sj.c, c.s, sj.code, d.e⟩) j ⟨sj.c, c.s, sj.code, d.e⟩ (by rw [List.getElem?_set_self HJL.out]) 2 _ rfl)
        rwa [Addr.add_lit, Nat.zero_add] at this
      have z6 : W6.frozen? ⟨g, j * 4 + 2, none⟩ = false := row6.frozenAt _
      have PP : Aside0 (ReqPost d c n0 wb w (.returned (.int .i64 0)) (W6.setCell ⟨g, j * 4 + 2, none⟩ (.int .i64 (addCode d c i)))) := ⟨by
        obtain ⟨curg, hcg⟩ := own_typed row6 g rfl
        have hne : ∀ (t : TypeId), t ≠ 71 → ∀ (k : Nat) (cur : Array Value), W6.heap[k]? = some (.cells cur t (0, 0)) → (W6.setCell ⟨g, j * 4 + 2, none⟩ (.int .i64 (addCode d c i))).heap[k]? = W6.heap[k]? := fun t ht k cur hk => Below.heap_setCell W6 _ _ k fun e => by
          have e' : k = g := e
          rw [e', hcg] at hk
          injection hk with hk
          injection hk with _ hk
          exact ht hk.symm
        refine TP.out i _ a1 ⟨HN0.out, x1', x2, .slice (some ⟨g, 0, none⟩) n1 zc, ?_, ⟨uc6, own_move hu6 fun k e => ?_, UsC.move (fun k cur _ hk => hne 68 (by decide) k cur hk) hv6⟩, own_move hh6 fun k e => ?_, ?_⟩ ((B5.out.trans a5).setCell hgb _)
        · dsimp only
          rw [(addD_e d c i).1]
          exact (hne 47 (by decide) wb _ a3).trans a3
        · obtain ⟨cur, hc⟩ := own_typed hu6 k e
          exact hne 63 (by decide) k cur hc
        · obtain ⟨cur, hc⟩ := own_typed hh6 k e
          exact hne 36 (by decide) k cur hc
        · dsimp only
          have := (row6.stored (j * 4 + 2) (.int .i64 (addCode d c i))).1
          rw [ssC_set (L1.set j ⟨sj.c, c.s, sj.code, d.e⟩) j ⟨sj.c, c.s, sj.code, d.e⟩ ⟨sj.c, c.s, addCode d c i, d.e⟩ 2 _ (by rw [List.getElem?_set_self HJL.out]) (by decide) rfl, List.set_set] at this
          rw [List.length_set]
          rw [HN1.out]
          exact this⟩
      clear row6 hu6 hv6 hh6 a3 a5 hac
      generalize addCode d c i = cd at *
      go_wp2_with fail
      go_ret
      exact PP.out
end Go.Proofs.YtadkeohohehmcaaGreatDoor.Top
