/- An intent is done. -/
import Derived.Test.YtadkeohohehmcaaGreatDoorIntA
namespace Go.Proofs.YtadkeohohehmcaaGreatDoor.Top
open Go.RowKit Go.Proofs.YtadkeohohehmcaaGreatDoorW.PrintWords Go.Proofs.YtadkeohohehmcaaGreatDoorW.PrintLast Go.Proofs.YtadkeohohehmcaaGreatDoorW.PrintMore Go.Proofs.YtadkeohohehmcaaGreatDoor.PTop
set_option linter.unusedVariables false
set_option linter.unusedSimpArgs false
attribute [local go_sem] Oper.semAt_some
set_option maxHeartbeats 16000000 in
set_option maxRecDepth 100000 in
theorem int_c (KS : List Int) (d : Dir) (c : Cmd) (wb n0 : Nat) (A : Array Value) (w : World) (hk : HKey KS w) (hA : A.toList = ccells c) (hw : Wk w wb n0 d) (ok : IntOk d c) :
    Calls Tryz.prog 16 #[.pointer (some ⟨wb, 0, none⟩), .agg A] w fun e w' => IntPost KS d c n0 wb w e w' := by
  obtain ⟨hn0, x1, x2, x3, hb, hd⟩ := hw
  have hwl := (Array.getElem?_eq_some_iff.1 hb).1
  have hk0 := hk.pos
  have HN0 := Aside0.mk hn0
  have HD := Aside0.mk hd
  have HB := Aside0.mk hb
  have RT : Aside0 (∀ W, Below w.heap.size w W → Calls Tryz.prog 11 #[.pointer (some ⟨wb, 0, none⟩), .int .i64 c.e] W fun e w' => e = .returned (dv (rootE KS c.e d.us)) ∧ Below W.heap.size W w') := ⟨fun W hW => root_c KS d.us c.e wb W (hk.below hW hk0) (UsAt.below (DirC.usAt hd hb) hW) ok.us ok.ul⟩
  have PV : Aside0 (∀ W, Below w.heap.size w W → Calls Tryz.prog 25 #[x2] W fun e w' => e = .returned (dv (prevF KS d.hs)) ∧ Below W.heap.size W w') := ⟨fun W hW => prev_c KS d.hs ok.hs x2 W (hk.below hW hk0) (Reads.below (Reads.of_own hd.2.1) hW) (by have := ok.hl; omega)⟩
  have OK := Aside0.mk ok
  have hRE := rootE_ok KS c.e d.us
  have hPO := prevF_ok KS d.hs
  have hroot := ok.root
  have hl200 := ok.hl
  have CD : Aside0 (intCode KS d c = if c.e ≠ (d.hs.length : Int) + 1 then 73 else if c.e > d.e then 73 else if c.root ≠ rootE KS c.e d.us then 73 else 0) := ⟨rfl⟩
  have DD : Aside0 (intD KS d c = ⟨d.e, d.us, d.hs ++ [⟨c.e, c.root, prevF KS d.hs⟩], d.ss⟩) := ⟨rfl⟩
  have HSL : Aside0 ((hsC d.hs).length = d.hs.length * 65) := ⟨hsC_len d.hs ok.hs⟩
  generalize hrr : rootE KS c.e d.us = rE at *
  generalize hpp : prevF KS d.hs = pF at *
  obtain ⟨HA2, hc, hx2, hhc⟩ := (Reads.of_own hd.2.1).form
  obtain ⟨hn, hhn⟩ : ∃ hn, d.hs.length = hn := ⟨_, rfl⟩
  rw [hhn] at hx2
  subst hx2
  have HHN := Aside0.mk hhn
  rw [hhn] at CD HSL hl200 hhc
  have hi31 : (Tryz.prog.info? 31).map (·.size) = some (u8s c.root).length := by
    have e : (u8s c.root).length = 32 := by rw [List.length_map]; exact hroot.len
    have h32 : (Tryz.prog.info? 31).map (·.size) = some 32 := by kernel_rfl
    exact h32.trans (by rw [e])
  have BH := built_hd c.e c.root pF hroot.len hPO.len
  have hcl : (hdcells ⟨c.e, c.root, pF⟩).length = 65 := by
    unfold hdcells
    rw [List.length_cons, List.length_map, List.length_append, hroot.len, hPO.len]
  have BS := fill36 _ hcl
  have h1h : ∀ u ∈ hdcells ⟨c.e, c.root, pF⟩, u.oneCell' = true := fun u hu => by
    have := hsC_one [⟨c.e, c.root, pF⟩] u (by rw [hsC, hsC, List.append_nil]; exact hu)
    exact this
  have hwn : IntKind.i64.wrap ((hn : Int) + 1) = (hn : Int) + 1 := by simp [IntKind.wrap, IntKind.bits, IntKind.signed]; omega
  have HK1 := Aside0.mk (And.intro h1h hcl)
  obtain ⟨W1, hW1⟩ : ∃ W1, w.alloc (.cells A 41) = W1 := ⟨_, rfl⟩
  have b1 : Below w.heap.size w W1 := by rw [← hW1]; exact (Below.refl _ w).alloc (Nat.le_refl _) _
  have s1 : W1.heap.size = w.heap.size + 1 := by rw [← hW1]; simp
  have k1 : W1.heap[w.heap.size]? = some (.cells A 41 (0, 0)) := by rw [← hW1]; exact blk_new w _
  have hAa : A = (ccells c).toArray := by rw [← hA]
  have c5 : W1.cell? ⟨w.heap.size, 5, none⟩ = some (.int .i64 c.e) := cell_in (l := ccells c) (by rw [← hAa]; exact k1) rfl
  have cr : W1.rangeAt w.heap.size 6 (u8s c.root) := fun j v hj => cell_in (l := ccells c) (by rw [← hAa]; exact k1) (ccells_root c j v hj)
  have kb1 := (b1.block wb hwl).trans hb
  have cw0 : W1.cell? ⟨wb, 0, none⟩ = some (.int .i64 d.e) := by simp [World.cell?, kb1]
  have cw2 : W1.cell? ⟨wb, 2, none⟩ = some (.slice HA2 hn hc) := by simp [World.cell?, kb1]
  have hwl1 : wb < W1.heap.size := by omega
  have hxl1 : w.heap.size < W1.heap.size := by omega
  have SK : Aside0 (∀ W, Below W1.heap.size W1 W → W.cell? ⟨w.heap.size, 5, none⟩ = some (.int .i64 c.e) ∧ W.cell? ⟨wb, 2, none⟩ = some (.slice HA2 hn hc) ∧ W.cell? ⟨wb, 0, none⟩ = some (.int .i64 d.e) ∧ W.rangeAt w.heap.size 6 (u8s c.root)) := ⟨fun W hW => ⟨(hW.cell (p := ⟨w.heap.size, 5, none⟩) hxl1).trans c5, (hW.cell (p := ⟨wb, 2, none⟩) hwl1).trans cw2, (hW.cell (p := ⟨wb, 0, none⟩) hwl1).trans cw0, range_same cr (hW.block _ hxl1)⟩⟩
  have RC := Aside0.mk (RT.out W1.drew b1.drew)
  have HW1 := Aside0.mk hW1
  have B1 := Aside0.mk b1
  have X1 := Aside0.mk k1
  have hnw : n0 ≤ w.heap.size := by omega
  obtain ⟨xb, hxb⟩ : ∃ xb, w.heap.size = xb := ⟨_, rfl⟩
  have HXB := Aside0.mk hxb
  rw [hxb] at SK X1 hnw hxl1
  have ER : Aside0 (∀ W : World, intCode KS d c = 73 → Below W1.heap.size W1 W → IntPost KS d c n0 wb w (.returned (.int .i64 73)) W) := ⟨fun W h hW => ⟨by rw [h], fun h2 => by rw [h] at h2; exact absurd h2 (by decide), (B1.out.mono (by have := HXB.out; omega)).trans (hW.mono (by have := HXB.out; have := B1.out.size; omega))⟩⟩
  have HAA := Aside0.mk hAa
  clear hd hb ok hk hW1 b1 s1 k1 hA hAa hxb kb1 c5 cr cw0 cw2 RT hcl h1h hn0 hhn hk0
  generalize hce : c.e = ce at *
  have HCE := Aside0.mk hce
  clear hce
  go_enter Tryz.func16, Tryz.ntmps16
  go_upto_region 1 with fail
  rw [HW1.out, HXB.out]
  by_cases h1 : ce = (hn : Int) + 1
  · subst h1
    by_cases h2 : (hn : Int) + 1 > d.e
    · have h2' : d.e < (hn : Int) + 1 := by omega
      refine wp_region_held_drew (S := (fun W => W.cell? ⟨xb, 5, none⟩ = some (.int .i64 ((hn : Int) + 1)) ∧ W.cell? ⟨wb, 2, none⟩ = some (.slice HA2 hn hc) ∧ W.cell? ⟨wb, 0, none⟩ = some (.int .i64 d.e) ∧ W.rangeAt xb 6 (u8s c.root))) (by kernel_rfl) (by exact SK.out W1 (Below.refl _ _)) (fun hHeld => ?_)
      refine wpAnyH_take (i := 0) (oi := _) (v := ?_) rfl (by kernel_rfl) (by kernel_rfl) (by kernel_rfl) (fun _ _ _ h => h) (Or.inl ⟨by rfl, ?_⟩) (by assumption) ?_
      rotate_left
      · (intro w hSw; (try dsimp only at hSw); obtain ⟨s1_, s2_, s3_, s4_⟩ := hSw; clear s4_; go_simp; (try with_reducible rfl))
      (try simp only [uA, uB, uC, uD, uE, uF, uG, uH])
      refine wpAnyH_take (i := 1) (oi := _) (v := ?_) rfl (by kernel_rfl) (by kernel_rfl) (by kernel_rfl) (fun _ _ _ h => h) (Or.inl ⟨by rfl, ?_⟩) (by assumption) ?_
      rotate_left
      · (intro w hSw; (try dsimp only at hSw); obtain ⟨s1_, s2_, s3_, s4_⟩ := hSw; clear s4_; go_simp; (try with_reducible rfl))
      (try simp only [uA, uB, uC, uD, uE, uF, uG, uH])
      refine wpAnyH_take (i := 2) (oi := _) (v := ?_) rfl (by kernel_rfl) (by kernel_rfl) (by kernel_rfl) (fun _ _ _ h => h) (Or.inl ⟨by rfl, ?_⟩) (by assumption) ?_
      rotate_left
      · (intro w hSw; (try dsimp only at hSw); obtain ⟨s1_, s2_, s3_, s4_⟩ := hSw; clear s4_; go_simp; (try with_reducible rfl))
      (try simp only [uA, uB, uC, uD, uE, uF, uG, uH])
      refine wpAnyH_take (i := 3) (oi := _) (v := ?_) rfl (by kernel_rfl) (by kernel_rfl) (by kernel_rfl) (fun _ _ _ h => h) (Or.inl ⟨by rfl, ?_⟩) (by assumption) ?_
      rotate_left
      · (intro w hSw; (try dsimp only at hSw); obtain ⟨s1_, s2_, s3_, s4_⟩ := hSw; clear s4_; go_simp; (try with_reducible rfl))
      (try simp only [uA, uB, uC, uD, uE, uF, uG, uH])
      refine wpAnyH_take (i := 4) (oi := _) (v := ?_) rfl (by kernel_rfl) (by kernel_rfl) (by kernel_rfl) (fun _ _ _ h => h) (Or.inl ⟨by rfl, ?_⟩) (by assumption) ?_
      rotate_left
      · (intro w hSw; (try dsimp only at hSw); obtain ⟨s1_, s2_, s3_, s4_⟩ := hSw; clear s4_; go_simp; (try with_reducible rfl))
      (try simp only [uA, uB, uC, uD, uE, uF, uG, uH])
      refine wpAnyH_take (i := 5) (oi := _) (v := ?_) rfl (by kernel_rfl) (by kernel_rfl) (by kernel_rfl) (fun _ _ _ h => h) (Or.inl ⟨by rfl, ?_⟩) (by assumption) ?_
      rotate_left
      · (intro w hSw; (try dsimp only at hSw); obtain ⟨s1_, s2_, s3_, s4_⟩ := hSw; clear s4_; go_simp; (try with_reducible rfl))
      (try simp only [uA, uB, uC, uD, uE, uF, uG, uH])
      refine wpAnyH_take (i := 6) (oi := _) (v := ?_) rfl (by kernel_rfl) (by kernel_rfl) (by kernel_rfl) (fun _ _ _ h => h) (Or.inl ⟨by rfl, ?_⟩) (by assumption) ?_
      rotate_left
      · (intro w hSw; (try dsimp only at hSw); obtain ⟨s1_, s2_, s3_, s4_⟩ := hSw; clear s4_; go_simp; (try with_reducible rfl))
      (try simp only [uA, uB, uC, uD, uE, uF, uG, uH])
      refine wpAnyH_take (i := 7) (oi := _) (v := ?_) rfl (by kernel_rfl) (by kernel_rfl) (by kernel_rfl) (fun _ _ _ h => h) (Or.inl ⟨by rfl, ?_⟩) (by assumption) ?_
      rotate_left
      · (intro w hSw; (try dsimp only at hSw); obtain ⟨s1_, s2_, s3_, s4_⟩ := hSw; clear s4_; go_simp; (try with_reducible rfl))
      (try simp only [uA, uB, uC, uD, uE, uF, uG, uH])
      refine wpAnyH_take (i := 8) (oi := _) (v := ?_) rfl (by kernel_rfl) (by kernel_rfl) (by kernel_rfl) (fun _ _ _ h => h) (Or.inl ⟨by rfl, ?_⟩) (by assumption) ?_
      rotate_left
      · (intro w hSw; (try dsimp only at hSw); obtain ⟨s1_, s2_, s3_, s4_⟩ := hSw; clear s4_; go_simp; (try with_reducible rfl))
      (try simp only [uA, uB, uC, uD, uE, uF, uG, uH])
      refine wpAnyH_take (i := 9) (oi := _) (v := .bool false) rfl (by kernel_rfl) (by kernel_rfl) (by kernel_rfl) (fun _ _ _ h => h) (Or.inl ⟨by rfl, ?_⟩) (by assumption) ?_
      rotate_left 0
      · (intro w hSw; (try dsimp only at hSw); obtain ⟨s1_, s2_, s3_, s4_⟩ := hSw; clear s4_; go_simp; (try with_reducible rfl))
      (try simp only [uA, uB, uC, uD, uE, uF, uG, uH])
      refine wpAnyH_take (i := 10) (oi := _) (v := .bool false) rfl (by kernel_rfl) (by kernel_rfl) (by kernel_rfl) (fun _ _ _ h => h) (Or.inl ⟨by rfl, ?_⟩) (by assumption) ?_
      rotate_left 0
      · (intro w hSw; (try dsimp only at hSw); obtain ⟨s1_, s2_, s3_, s4_⟩ := hSw; clear s4_; go_simp; (try with_reducible rfl))
      (try simp only [uA, uB, uC, uD, uE, uF, uG, uH])
      refine wpAnyH_take (i := 11) (oi := _) (v := ?_) rfl (by kernel_rfl) (by kernel_rfl) (by kernel_rfl) (fun _ _ _ h => h) (Or.inl ⟨by rfl, ?_⟩) (by assumption) ?_
      rotate_left
      · (intro w hSw; (try dsimp only at hSw); obtain ⟨s1_, s2_, s3_, s4_⟩ := hSw; clear s4_; go_simp; (try with_reducible rfl))
      (try simp only [uA, uB, uC, uD, uE, uF, uG, uH])
      refine wpAnyH_take (i := 12) (oi := _) (v := ?_) rfl (by kernel_rfl) (by kernel_rfl) (by kernel_rfl) (fun _ _ _ h => h) (Or.inl ⟨by rfl, ?_⟩) (by assumption) ?_
      rotate_left
      · (intro w hSw; (try dsimp only at hSw); obtain ⟨s1_, s2_, s3_, s4_⟩ := hSw; clear s4_; go_simp; (try with_reducible rfl))
      (try simp only [uA, uB, uC, uD, uE, uF, uG, uH])
      refine wpAnyH_take (i := 13) (oi := _) (v := ?_) rfl (by kernel_rfl) (by kernel_rfl) (by kernel_rfl) (fun _ _ _ h => h) (Or.inl ⟨by rfl, ?_⟩) (by assumption) ?_
      rotate_left
      · (intro w hSw; (try dsimp only at hSw); obtain ⟨s1_, s2_, s3_, s4_⟩ := hSw; clear s4_; go_simp; (try with_reducible rfl))
      (try simp only [uA, uB, uC, uD, uE, uF, uG, uH])
      refine wpAnyH_take (i := 14) (oi := _) (v := ?_) rfl (by kernel_rfl) (by kernel_rfl) (by kernel_rfl) (fun _ _ _ h => h) (Or.inl ⟨by rfl, ?_⟩) (by assumption) ?_
      rotate_left
      · (intro w hSw; (try dsimp only at hSw); obtain ⟨s1_, s2_, s3_, s4_⟩ := hSw; clear s4_; go_simp; (try with_reducible rfl))
      (try simp only [uA, uB, uC, uD, uE, uF, uG, uH])
      refine wpAnyH_take (i := 15) (oi := _) (v := ?_) rfl (by kernel_rfl) (by kernel_rfl) (by kernel_rfl) (fun _ _ _ h => h) (Or.inl ⟨by rfl, ?_⟩) (by assumption) ?_
      rotate_left
      · (intro w hSw; (try dsimp only at hSw); obtain ⟨s1_, s2_, s3_, s4_⟩ := hSw; clear s4_; go_simp; (try with_reducible rfl))
      (try simp only [uA, uB, uC, uD, uE, uF, uG, uH])
      refine wpAnyH_take (i := 16) (oi := _) (v := ?_) rfl (by kernel_rfl) (by kernel_rfl) (by kernel_rfl) (fun _ _ _ h => h) (Or.inl ⟨by rfl, ?_⟩) (by assumption) ?_
      rotate_left
      · (intro w hSw; (try dsimp only at hSw); obtain ⟨s1_, s2_, s3_, s4_⟩ := hSw; clear s4_; go_simp; (try with_reducible rfl))
      (try simp only [uA, uB, uC, uD, uE, uF, uG, uH])
      refine wpAnyH_take (i := 17) (oi := _) (v := ?_) rfl (by kernel_rfl) (by kernel_rfl) (by kernel_rfl) (fun _ _ _ h => h) (Or.inl ⟨by rfl, ?_⟩) (by assumption) ?_
      rotate_left
      · (intro w hSw; (try dsimp only at hSw); obtain ⟨s1_, s2_, s3_, s4_⟩ := hSw; clear s4_; go_simp; (try with_reducible rfl))
      (try simp only [uA, uB, uC, uD, uE, uF, uG, uH])
      refine wpAnyH_take (i := 18) (oi := _) (v := .bool true) rfl (by kernel_rfl) (by kernel_rfl) (by kernel_rfl) (fun _ _ _ h => h) (Or.inl ⟨by rfl, ?_⟩) (by assumption) ?_
      rotate_left 0
      · (intro w hSw; (try dsimp only at hSw); obtain ⟨s1_, s2_, s3_, s4_⟩ := hSw; clear s4_; go_simp; (try with_reducible rfl))
      (try simp only [uA, uB, uC, uD, uE, uF, uG, uH])
      refine wpAnyH_take (i := 19) (oi := _) (v := .bool true) rfl (by kernel_rfl) (by kernel_rfl) (by kernel_rfl) (fun _ _ _ h => h) (Or.inl ⟨by rfl, ?_⟩) (by assumption) ?_
      rotate_left 0
      · (intro w hSw; (try dsimp only at hSw); obtain ⟨s1_, s2_, s3_, s4_⟩ := hSw; clear s4_; go_simp; (try with_reducible rfl))
      (try simp only [uA, uB, uC, uD, uE, uF, uG, uH])
      refine wpAnyH_take (i := 20) (oi := _) (v := .bool true) rfl (by kernel_rfl) (by kernel_rfl) (by kernel_rfl) (fun _ _ _ h => h) (Or.inl ⟨by rfl, ?_⟩) (by assumption) ?_
      rotate_left 0
      · (intro w hSw; (try dsimp only at hSw); obtain ⟨s1_, s2_, s3_, s4_⟩ := hSw; clear s4_; go_simp; (try with_reducible rfl))
      (try simp only [uA, uB, uC, uD, uE, uF, uG, uH])
      refine wpAnyH_take (i := 21) (oi := _) (v := undef) rfl (by kernel_rfl) (by kernel_rfl) (by kernel_rfl) (fun _ _ _ h => h) (Or.inr ⟨by rfl, rfl⟩) (by assumption) ?_
      (try simp only [uA, uB, uC, uD, uE, uF, uG, uH])
      refine wpAnyH_take (i := 22) (oi := _) (v := undef) rfl (by kernel_rfl) (by kernel_rfl) (by kernel_rfl) (fun _ _ _ h => h) (Or.inr ⟨by rfl, rfl⟩) (by assumption) ?_
      (try simp only [uA, uB, uC, uD, uE, uF, uG, uH])
      refine wpAnyH_take (i := 23) (oi := _) (v := undef) rfl (by kernel_rfl) (by kernel_rfl) (by kernel_rfl) (fun _ _ _ h => h) (Or.inr ⟨by rfl, rfl⟩) (by assumption) ?_
      (try simp only [uA, uB, uC, uD, uE, uF, uG, uH])
      refine wpAnyH_take (i := 24) (oi := _) (v := undef) rfl (by kernel_rfl) (by kernel_rfl) (by kernel_rfl) (fun _ _ _ h => h) (Or.inr ⟨by rfl, rfl⟩) (by assumption) ?_
      (try simp only [uA, uB, uC, uD, uE, uF, uG, uH])
      refine wpAnyH_take (i := 25) (oi := _) (v := undef) rfl (by kernel_rfl) (by kernel_rfl) (by kernel_rfl) (fun _ _ _ h => h) (Or.inr ⟨by rfl, rfl⟩) (by assumption) ?_
      (try simp only [uA, uB, uC, uD, uE, uF, uG, uH])
      refine wpAnyH_take (i := 26) (oi := _) (v := undef) rfl (by kernel_rfl) (by kernel_rfl) (by kernel_rfl) (fun _ _ _ h => h) (Or.inr ⟨by rfl, rfl⟩) (by assumption) ?_
      (try simp only [uA, uB, uC, uD, uE, uF, uG, uH])
      refine wpAnyH_take (i := 27) (oi := _) (v := undef) rfl (by kernel_rfl) (by kernel_rfl) (by kernel_rfl) (fun _ _ _ h => h) (Or.inr ⟨by rfl, rfl⟩) (by assumption) ?_
      (try simp only [uA, uB, uC, uD, uE, uF, uG, uH])
      refine wpAnyH_take (i := 28) (oi := _) (v := .bool true) rfl (by kernel_rfl) (by kernel_rfl) (by kernel_rfl) (fun _ _ _ h => h) (Or.inl ⟨by rfl, ?_⟩) (by assumption) ?_
      rotate_left 0
      · (intro w hSw; (try dsimp only at hSw); obtain ⟨s1_, s2_, s3_, s4_⟩ := hSw; clear s4_; go_simp; (try with_reducible rfl))
      (try simp only [uA, uB, uC, uD, uE, uF, uG, uH])
      refine wpAnyH_done (by kernel_rfl) ?_ _
      have PP := Aside0.mk (ER.out W1.drew (by rw [CD.out, if_neg (fun h => h rfl), if_pos h2]) (Below.refl _ _).drew)
      go_wp2_with fail
      go_ret
      exact PP.out
    · have h2' : ¬ d.e < (hn : Int) + 1 := by omega
      have EQ : ∀ W : World, (binOp .neq 31 (.agg (u8s c.root).toArray) (dv rE)).run Tryz.prog W = .ok (.bool (!decide (c.root = rE))) W := fun W => run_ne_dv c.root rE hroot hRE W
      have EG : ∀ (x y : Operand) (W : World), (eqGuard .neq 31 x y (.agg (u8s c.root).toArray) (dv rE)).run Tryz.prog W = .ok () W := fun x y W => run_guard_dv .neq (Or.inr rfl) x y _ _ W
      refine wp_region_held_drew (S := (fun W => W.cell? ⟨xb, 5, none⟩ = some (.int .i64 ((hn : Int) + 1)) ∧ W.cell? ⟨wb, 2, none⟩ = some (.slice HA2 hn hc) ∧ W.cell? ⟨wb, 0, none⟩ = some (.int .i64 d.e) ∧ W.rangeAt xb 6 (u8s c.root))) (by kernel_rfl) (by exact SK.out W1 (Below.refl _ _)) (fun hHeld => ?_)
      refine wpAnyH_take (i := 0) (oi := _) (v := ?_) rfl (by kernel_rfl) (by kernel_rfl) (by kernel_rfl) (fun _ _ _ h => h) (Or.inl ⟨by rfl, ?_⟩) (by assumption) ?_
      rotate_left
      · (intro w hSw; (try dsimp only at hSw); obtain ⟨s1_, s2_, s3_, s4_⟩ := hSw; clear s4_; go_simp; (try with_reducible rfl))
      (try simp only [uA, uB, uC, uD, uE, uF, uG, uH])
      refine wpAnyH_take (i := 1) (oi := _) (v := ?_) rfl (by kernel_rfl) (by kernel_rfl) (by kernel_rfl) (fun _ _ _ h => h) (Or.inl ⟨by rfl, ?_⟩) (by assumption) ?_
      rotate_left
      · (intro w hSw; (try dsimp only at hSw); obtain ⟨s1_, s2_, s3_, s4_⟩ := hSw; clear s4_; go_simp; (try with_reducible rfl))
      (try simp only [uA, uB, uC, uD, uE, uF, uG, uH])
      refine wpAnyH_take (i := 2) (oi := _) (v := ?_) rfl (by kernel_rfl) (by kernel_rfl) (by kernel_rfl) (fun _ _ _ h => h) (Or.inl ⟨by rfl, ?_⟩) (by assumption) ?_
      rotate_left
      · (intro w hSw; (try dsimp only at hSw); obtain ⟨s1_, s2_, s3_, s4_⟩ := hSw; clear s4_; go_simp; (try with_reducible rfl))
      (try simp only [uA, uB, uC, uD, uE, uF, uG, uH])
      refine wpAnyH_take (i := 3) (oi := _) (v := ?_) rfl (by kernel_rfl) (by kernel_rfl) (by kernel_rfl) (fun _ _ _ h => h) (Or.inl ⟨by rfl, ?_⟩) (by assumption) ?_
      rotate_left
      · (intro w hSw; (try dsimp only at hSw); obtain ⟨s1_, s2_, s3_, s4_⟩ := hSw; clear s4_; go_simp; (try with_reducible rfl))
      (try simp only [uA, uB, uC, uD, uE, uF, uG, uH])
      refine wpAnyH_take (i := 4) (oi := _) (v := ?_) rfl (by kernel_rfl) (by kernel_rfl) (by kernel_rfl) (fun _ _ _ h => h) (Or.inl ⟨by rfl, ?_⟩) (by assumption) ?_
      rotate_left
      · (intro w hSw; (try dsimp only at hSw); obtain ⟨s1_, s2_, s3_, s4_⟩ := hSw; clear s4_; go_simp; (try with_reducible rfl))
      (try simp only [uA, uB, uC, uD, uE, uF, uG, uH])
      refine wpAnyH_take (i := 5) (oi := _) (v := ?_) rfl (by kernel_rfl) (by kernel_rfl) (by kernel_rfl) (fun _ _ _ h => h) (Or.inl ⟨by rfl, ?_⟩) (by assumption) ?_
      rotate_left
      · (intro w hSw; (try dsimp only at hSw); obtain ⟨s1_, s2_, s3_, s4_⟩ := hSw; clear s4_; go_simp; (try with_reducible rfl))
      (try simp only [uA, uB, uC, uD, uE, uF, uG, uH])
      refine wpAnyH_take (i := 6) (oi := _) (v := ?_) rfl (by kernel_rfl) (by kernel_rfl) (by kernel_rfl) (fun _ _ _ h => h) (Or.inl ⟨by rfl, ?_⟩) (by assumption) ?_
      rotate_left
      · (intro w hSw; (try dsimp only at hSw); obtain ⟨s1_, s2_, s3_, s4_⟩ := hSw; clear s4_; go_simp; (try with_reducible rfl))
      (try simp only [uA, uB, uC, uD, uE, uF, uG, uH])
      refine wpAnyH_take (i := 7) (oi := _) (v := ?_) rfl (by kernel_rfl) (by kernel_rfl) (by kernel_rfl) (fun _ _ _ h => h) (Or.inl ⟨by rfl, ?_⟩) (by assumption) ?_
      rotate_left
      · (intro w hSw; (try dsimp only at hSw); obtain ⟨s1_, s2_, s3_, s4_⟩ := hSw; clear s4_; go_simp; (try with_reducible rfl))
      (try simp only [uA, uB, uC, uD, uE, uF, uG, uH])
      refine wpAnyH_take (i := 8) (oi := _) (v := ?_) rfl (by kernel_rfl) (by kernel_rfl) (by kernel_rfl) (fun _ _ _ h => h) (Or.inl ⟨by rfl, ?_⟩) (by assumption) ?_
      rotate_left
      · (intro w hSw; (try dsimp only at hSw); obtain ⟨s1_, s2_, s3_, s4_⟩ := hSw; clear s4_; go_simp; (try with_reducible rfl))
      (try simp only [uA, uB, uC, uD, uE, uF, uG, uH])
      refine wpAnyH_take (i := 9) (oi := _) (v := .bool false) rfl (by kernel_rfl) (by kernel_rfl) (by kernel_rfl) (fun _ _ _ h => h) (Or.inl ⟨by rfl, ?_⟩) (by assumption) ?_
      rotate_left 0
      · (intro w hSw; (try dsimp only at hSw); obtain ⟨s1_, s2_, s3_, s4_⟩ := hSw; clear s4_; go_simp; (try with_reducible rfl))
      (try simp only [uA, uB, uC, uD, uE, uF, uG, uH])
      refine wpAnyH_take (i := 10) (oi := _) (v := .bool false) rfl (by kernel_rfl) (by kernel_rfl) (by kernel_rfl) (fun _ _ _ h => h) (Or.inl ⟨by rfl, ?_⟩) (by assumption) ?_
      rotate_left 0
      · (intro w hSw; (try dsimp only at hSw); obtain ⟨s1_, s2_, s3_, s4_⟩ := hSw; clear s4_; go_simp; (try with_reducible rfl))
      (try simp only [uA, uB, uC, uD, uE, uF, uG, uH])
      refine wpAnyH_take (i := 11) (oi := _) (v := ?_) rfl (by kernel_rfl) (by kernel_rfl) (by kernel_rfl) (fun _ _ _ h => h) (Or.inl ⟨by rfl, ?_⟩) (by assumption) ?_
      rotate_left
      · (intro w hSw; (try dsimp only at hSw); obtain ⟨s1_, s2_, s3_, s4_⟩ := hSw; clear s4_; go_simp; (try with_reducible rfl))
      (try simp only [uA, uB, uC, uD, uE, uF, uG, uH])
      refine wpAnyH_take (i := 12) (oi := _) (v := ?_) rfl (by kernel_rfl) (by kernel_rfl) (by kernel_rfl) (fun _ _ _ h => h) (Or.inl ⟨by rfl, ?_⟩) (by assumption) ?_
      rotate_left
      · (intro w hSw; (try dsimp only at hSw); obtain ⟨s1_, s2_, s3_, s4_⟩ := hSw; clear s4_; go_simp; (try with_reducible rfl))
      (try simp only [uA, uB, uC, uD, uE, uF, uG, uH])
      refine wpAnyH_take (i := 13) (oi := _) (v := ?_) rfl (by kernel_rfl) (by kernel_rfl) (by kernel_rfl) (fun _ _ _ h => h) (Or.inl ⟨by rfl, ?_⟩) (by assumption) ?_
      rotate_left
      · (intro w hSw; (try dsimp only at hSw); obtain ⟨s1_, s2_, s3_, s4_⟩ := hSw; clear s4_; go_simp; (try with_reducible rfl))
      (try simp only [uA, uB, uC, uD, uE, uF, uG, uH])
      refine wpAnyH_take (i := 14) (oi := _) (v := ?_) rfl (by kernel_rfl) (by kernel_rfl) (by kernel_rfl) (fun _ _ _ h => h) (Or.inl ⟨by rfl, ?_⟩) (by assumption) ?_
      rotate_left
      · (intro w hSw; (try dsimp only at hSw); obtain ⟨s1_, s2_, s3_, s4_⟩ := hSw; clear s4_; go_simp; (try with_reducible rfl))
      (try simp only [uA, uB, uC, uD, uE, uF, uG, uH])
      refine wpAnyH_take (i := 15) (oi := _) (v := ?_) rfl (by kernel_rfl) (by kernel_rfl) (by kernel_rfl) (fun _ _ _ h => h) (Or.inl ⟨by rfl, ?_⟩) (by assumption) ?_
      rotate_left
      · (intro w hSw; (try dsimp only at hSw); obtain ⟨s1_, s2_, s3_, s4_⟩ := hSw; clear s4_; go_simp; (try with_reducible rfl))
      (try simp only [uA, uB, uC, uD, uE, uF, uG, uH])
      refine wpAnyH_take (i := 16) (oi := _) (v := ?_) rfl (by kernel_rfl) (by kernel_rfl) (by kernel_rfl) (fun _ _ _ h => h) (Or.inl ⟨by rfl, ?_⟩) (by assumption) ?_
      rotate_left
      · (intro w hSw; (try dsimp only at hSw); obtain ⟨s1_, s2_, s3_, s4_⟩ := hSw; clear s4_; go_simp; (try with_reducible rfl))
      (try simp only [uA, uB, uC, uD, uE, uF, uG, uH])
      refine wpAnyH_take (i := 17) (oi := _) (v := ?_) rfl (by kernel_rfl) (by kernel_rfl) (by kernel_rfl) (fun _ _ _ h => h) (Or.inl ⟨by rfl, ?_⟩) (by assumption) ?_
      rotate_left
      · (intro w hSw; (try dsimp only at hSw); obtain ⟨s1_, s2_, s3_, s4_⟩ := hSw; clear s4_; go_simp; (try with_reducible rfl))
      (try simp only [uA, uB, uC, uD, uE, uF, uG, uH])
      refine wpAnyH_take (i := 18) (oi := _) (v := .bool false) rfl (by kernel_rfl) (by kernel_rfl) (by kernel_rfl) (fun _ _ _ h => h) (Or.inl ⟨by rfl, ?_⟩) (by assumption) ?_
      rotate_left 0
      · (intro w hSw; (try dsimp only at hSw); obtain ⟨s1_, s2_, s3_, s4_⟩ := hSw; clear s4_; go_simp; (try with_reducible rfl))
      (try simp only [uA, uB, uC, uD, uE, uF, uG, uH])
      refine wpAnyH_take (i := 19) (oi := _) (v := .bool false) rfl (by kernel_rfl) (by kernel_rfl) (by kernel_rfl) (fun _ _ _ h => h) (Or.inl ⟨by rfl, ?_⟩) (by assumption) ?_
      rotate_left 0
      · (intro w hSw; (try dsimp only at hSw); obtain ⟨s1_, s2_, s3_, s4_⟩ := hSw; clear s4_; go_simp; (try with_reducible rfl))
      (try simp only [uA, uB, uC, uD, uE, uF, uG, uH])
      refine wpAnyH_take (i := 20) (oi := _) (v := .bool false) rfl (by kernel_rfl) (by kernel_rfl) (by kernel_rfl) (fun _ _ _ h => h) (Or.inl ⟨by rfl, ?_⟩) (by assumption) ?_
      rotate_left 0
      · (intro w hSw; (try dsimp only at hSw); obtain ⟨s1_, s2_, s3_, s4_⟩ := hSw; clear s4_; go_simp; (try with_reducible rfl))
      (try simp only [uA, uB, uC, uD, uE, uF, uG, uH])
      refine wpAnyH_take (i := 21) (oi := _) (v := ?_) rfl (by kernel_rfl) (by kernel_rfl) (by kernel_rfl) (fun _ _ _ h => h) (Or.inl ⟨by rfl, ?_⟩) (by assumption) ?_
      rotate_left
      · (intro w hSw; (try dsimp only at hSw); obtain ⟨s1_, s2_, s3_, s4_⟩ := hSw; clear s4_; go_simp; (try with_reducible rfl))
      (try simp only [uA, uB, uC, uD, uE, uF, uG, uH])
      refine wpAnyH_take (i := 22) (oi := _) (v := _) rfl (by kernel_rfl) (by kernel_rfl) (by kernel_rfl) (fun _ _ _ h => h) (yieldsIf_load_mid (by rfl) 31 (.tmp 26) rfl xb 6 rfl _ _ (fun W hW => hW.2.2.2) Tryz.underlying31 rfl hi31) (by assumption) ?_
      (try simp only [uA, uB, uC, uD, uE, uF, uG, uH])
      refine wpAnyH_take (i := 23) (oi := _) (v := ?_) rfl (by kernel_rfl) (by kernel_rfl) (by kernel_rfl) (fun _ _ _ h => h) (Or.inl ⟨by rfl, ?_⟩) (by assumption) ?_
      rotate_left
      · (intro w hSw; (try dsimp only at hSw); obtain ⟨s1_, s2_, s3_, s4_⟩ := hSw; clear s4_; go_simp; (try with_reducible rfl))
      (try simp only [uA, uB, uC, uD, uE, uF, uG, uH])
      refine wpAnyH_take (i := 24) (oi := _) (v := ?_) rfl (by kernel_rfl) (by kernel_rfl) (by kernel_rfl) (fun _ _ _ h => h) (Or.inl ⟨by rfl, ?_⟩) (by assumption) ?_
      rotate_left
      · (intro w hSw; (try dsimp only at hSw); obtain ⟨s1_, s2_, s3_, s4_⟩ := hSw; clear s4_; go_simp; (try with_reducible rfl))
      (try simp only [uA, uB, uC, uD, uE, uF, uG, uH])
      refine wpAnyH_take (i := 25) (oi := _) (v := ?_) rfl (by kernel_rfl) (by kernel_rfl) (by kernel_rfl) (fun _ _ _ h => h) (Or.inl ⟨by rfl, ?_⟩) (by assumption) ?_
      rotate_left
      · (intro w hSw; (try dsimp only at hSw); obtain ⟨s1_, s2_, s3_, s4_⟩ := hSw; clear s4_; go_simp; (try with_reducible rfl))
      (try simp only [uA, uB, uC, uD, uE, uF, uG, uH])
      refine wpAnyH_ready (rs := [26]) (by kernel_rfl) (by decide) (AllReadyH.cons rfl (fun K' hK => ?_) AllReadyH.nil)
      rw [if_pos (by rfl)]
      go_simp
      refine (RC.out).mono ?_
      rintro e W2 ⟨rfl, hb2⟩
      (try dsimp only)
      have q2 : Below W1.heap.size W1 W2 := (Below.refl _ _).drew.trans hb2
      refine hK.out _ _ (by exact SK.out W2 q2) (fun hHeld => ?_)
      clear hK
      (try simp only [uA, uB, uC, uD, uE, uF, uG, uH])
      refine wpAnyH_take (i := 27) (oi := _) (v := ?_) rfl (by kernel_rfl) (by kernel_rfl) (by kernel_rfl) (fun _ _ _ h => h) (Or.inl ⟨by rfl, ?_⟩) (by assumption) ?_
      rotate_left
      · (intro w hSw; (try dsimp only at hSw); obtain ⟨s1_, s2_, s3_, s4_⟩ := hSw; clear s4_; go_simp; (try with_reducible rfl))
      (try simp only [uA, uB, uC, uD, uE, uF, uG, uH])
      refine wpAnyH_take (i := 28) (oi := _) (v := ?_) rfl (by kernel_rfl) (by kernel_rfl) (by kernel_rfl) (fun _ _ _ h => h) (Or.inl ⟨by rfl, ?_⟩) (by assumption) ?_
      rotate_left
      · (intro w hSw; (try dsimp only at hSw); obtain ⟨s1_, s2_, s3_, s4_⟩ := hSw; clear s4_; go_simp; (try with_reducible rfl))
      (try simp only [uA, uB, uC, uD, uE, uF, uG, uH])
      refine wpAnyH_done (by kernel_rfl) ?_ _
      clear EG EQ
      by_cases h3 : c.root = rE
      · have hz : Aside0 (intCode KS d c = 0) := ⟨by rw [CD.out, if_neg (fun h => h rfl), if_neg h2, if_neg (fun h => h h3)]⟩
        have h3d : decide (c.root = rE) = true := decide_eq_true h3
        have s2 := q2.size
        have PV2 := Aside0.mk (PV.out W2.drew ((B1.out.trans (q2.mono (by have := HXB.out; have := B1.out.size; omega))).drew))
        have sk2 := (SK.out W2 q2)
        have X2 := Aside0.mk ((q2.block xb hxl1).trans X1.out)
        have K2 := Aside0.mk ((q2.block wb hwl1).trans ((B1.out.block wb hwl).trans HB.out))
        have D2 := Aside0.mk (DirC.below (DirC.below HD.out B1.out) q2)
        have B2 : Aside0 (Below n0 w W2) := ⟨(B1.out.mono (by have := HXB.out; omega)).trans (q2.mono (by have := HXB.out; have := B1.out.size; omega))⟩
        have c5 := sk2.1
        have cw2 := sk2.2.1
        have cr := sk2.2.2.2
        have hxl2 : xb < W2.heap.size := by omega
        have hwl2 : wb < W2.heap.size := by omega
        clear sk2 hHeld h2' h2
        rw [h3d]
        clear h3 h3d
        go_upto_region 3 with fail
        refine wp_region_held_drew (S := (fun W => W.cell? ⟨xb, 5, none⟩ = some (.int .i64 ((hn : Int) + 1)) ∧ W.rangeAt xb 6 (u8s c.root))) (by kernel_rfl) (by exact ⟨c5, cr⟩) (fun hHeld => ?_)
        refine wpAnyH_take (i := 0) (oi := _) (v := ?_) rfl (by kernel_rfl) (by kernel_rfl) (by kernel_rfl) (fun _ _ _ h => h) (Or.inl ⟨by rfl, ?_⟩) (by assumption) ?_
        rotate_left
        · (intro w hSw; (try dsimp only at hSw); obtain ⟨s1_, s2_⟩ := hSw; clear s2_; go_simp; (try with_reducible rfl))
        (try simp only [uA, uB, uC, uD, uE, uF, uG, uH])
        refine wpAnyH_take (i := 1) (oi := _) (v := ?_) rfl (by kernel_rfl) (by kernel_rfl) (by kernel_rfl) (fun _ _ _ h => h) (Or.inl ⟨by rfl, ?_⟩) (by assumption) ?_
        rotate_left
        · (intro w hSw; (try dsimp only at hSw); obtain ⟨s1_, s2_⟩ := hSw; clear s2_; go_simp; (try with_reducible rfl))
        (try simp only [uA, uB, uC, uD, uE, uF, uG, uH])
        refine wpAnyH_take (i := 2) (oi := _) (v := ?_) rfl (by kernel_rfl) (by kernel_rfl) (by kernel_rfl) (fun _ _ _ h => h) (Or.inl ⟨by rfl, ?_⟩) (by assumption) ?_
        rotate_left
        · (intro w hSw; (try dsimp only at hSw); obtain ⟨s1_, s2_⟩ := hSw; clear s2_; go_simp; (try with_reducible rfl))
        (try simp only [uA, uB, uC, uD, uE, uF, uG, uH])
        refine wpAnyH_take (i := 3) (oi := _) (v := ?_) rfl (by kernel_rfl) (by kernel_rfl) (by kernel_rfl) (fun _ _ _ h => h) (Or.inl ⟨by rfl, ?_⟩) (by assumption) ?_
        rotate_left
        · (intro w hSw; (try dsimp only at hSw); obtain ⟨s1_, s2_⟩ := hSw; clear s2_; go_simp; (try with_reducible rfl))
        (try simp only [uA, uB, uC, uD, uE, uF, uG, uH])
        refine wpAnyH_take (i := 4) (oi := _) (v := ?_) rfl (by kernel_rfl) (by kernel_rfl) (by kernel_rfl) (fun _ _ _ h => h) (Or.inl ⟨by rfl, ?_⟩) (by assumption) ?_
        rotate_left
        · (intro w hSw; (try dsimp only at hSw); obtain ⟨s1_, s2_⟩ := hSw; clear s2_; go_simp; (try with_reducible rfl))
        (try simp only [uA, uB, uC, uD, uE, uF, uG, uH])
        refine wpAnyH_take (i := 6) (oi := _) (v := ?_) rfl (by kernel_rfl) (by kernel_rfl) (by kernel_rfl) (fun _ _ _ h => h) (Or.inl ⟨by rfl, ?_⟩) (by assumption) ?_
        rotate_left
        · (intro w hSw; (try dsimp only at hSw); obtain ⟨s1_, s2_⟩ := hSw; clear s2_; go_simp; (try with_reducible rfl))
        (try simp only [uA, uB, uC, uD, uE, uF, uG, uH])
        refine wpAnyH_take (i := 7) (oi := _) (v := ?_) rfl (by kernel_rfl) (by kernel_rfl) (by kernel_rfl) (fun _ _ _ h => h) (Or.inl ⟨by rfl, ?_⟩) (by assumption) ?_
        rotate_left
        · (intro w hSw; (try dsimp only at hSw); obtain ⟨s1_, s2_⟩ := hSw; clear s2_; go_simp; (try with_reducible rfl))
        (try simp only [uA, uB, uC, uD, uE, uF, uG, uH])
        refine wpAnyH_take (i := 8) (oi := _) (v := ?_) rfl (by kernel_rfl) (by kernel_rfl) (by kernel_rfl) (fun _ _ _ h => h) (Or.inl ⟨by rfl, ?_⟩) (by assumption) ?_
        rotate_left
        · (intro w hSw; (try dsimp only at hSw); obtain ⟨s1_, s2_⟩ := hSw; clear s2_; go_simp; (try with_reducible rfl))
        (try simp only [uA, uB, uC, uD, uE, uF, uG, uH])
        refine wpAnyH_take (i := 9) (oi := _) (v := _) rfl (by kernel_rfl) (by kernel_rfl) (by kernel_rfl) (fun _ _ _ h => h) (yieldsIf_load_mid (by rfl) 31 (.tmp 42) rfl xb 6 rfl _ _ (fun W hW => hW.2) Tryz.underlying31 rfl hi31) (by assumption) ?_
        (try simp only [uA, uB, uC, uD, uE, uF, uG, uH])
        refine wpAnyH_take (i := 10) (oi := _) (v := ?_) rfl (by kernel_rfl) (by kernel_rfl) (by kernel_rfl) (fun _ _ _ h => h) (Or.inl ⟨by rfl, ?_⟩) (by assumption) ?_
        rotate_left
        · (intro w hSw; (try dsimp only at hSw); obtain ⟨s1_, s2_⟩ := hSw; clear s2_; go_simp; (try with_reducible rfl))
        (try simp only [uA, uB, uC, uD, uE, uF, uG, uH])
        refine wpAnyH_take (i := 11) (oi := _) (v := ?_) rfl (by kernel_rfl) (by kernel_rfl) (by kernel_rfl) (fun _ _ _ h => h) (Or.inl ⟨by rfl, ?_⟩) (by assumption) ?_
        rotate_left
        · (intro w hSw; (try dsimp only at hSw); obtain ⟨s1_, s2_⟩ := hSw; clear s2_; go_simp; (try with_reducible rfl))
        (try simp only [uA, uB, uC, uD, uE, uF, uG, uH])
        refine wpAnyH_take (i := 12) (oi := _) (v := ?_) rfl (by kernel_rfl) (by kernel_rfl) (by kernel_rfl) (fun _ _ _ h => h) (Or.inl ⟨by rfl, ?_⟩) (by assumption) ?_
        rotate_left
        · (intro w hSw; (try dsimp only at hSw); obtain ⟨s1_, s2_⟩ := hSw; clear s2_; go_simp; (try with_reducible rfl))
        (try simp only [uA, uB, uC, uD, uE, uF, uG, uH])
        refine wpAnyH_take (i := 13) (oi := _) (v := ?_) rfl (by kernel_rfl) (by kernel_rfl) (by kernel_rfl) (fun _ _ _ h => h) (Or.inl ⟨by rfl, ?_⟩) (by assumption) ?_
        rotate_left
        · (intro w hSw; (try dsimp only at hSw); obtain ⟨s1_, s2_⟩ := hSw; clear s2_; go_simp; (try with_reducible rfl))
        (try simp only [uA, uB, uC, uD, uE, uF, uG, uH])
        refine wpAnyH_ready (rs := [5, 14]) (by kernel_rfl) (by decide) (AllReadyH.cons rfl (fun K' hK => ?_) (AllReadyH.cons rfl (fun K' hK => ?_) AllReadyH.nil))
        · rw [if_pos (by rfl)]
          go_simp
          refine hK.out _ _ (by exact ⟨c5, cr⟩) (fun hHeld => ?_)
          clear hK
          (try simp only [uA, uB, uC, uD, uE, uF, uG, uH])
          refine wpAnyH_ready (rs := [14]) (by kernel_rfl) (by decide) (AllReadyH.cons rfl (fun K' hK => ?_) AllReadyH.nil)
          rw [if_pos (by rfl)]
          go_simp
          refine hK.out _ _ (by exact ⟨c5, cr⟩) (fun hHeld => ?_)
          clear hK
          (try simp only [uA, uB, uC, uD, uE, uF, uG, uH])
          refine wpAnyH_ready (rs := [15]) (by kernel_rfl) (by decide) (AllReadyH.cons rfl (fun K' hK => ?_) AllReadyH.nil)
          rw [if_pos (by rfl)]
          go_simp
          refine (PV2.out).mono ?_
          rintro e W3 ⟨rfl, hb3⟩
          (try dsimp only)
          have q3 : Below W2.heap.size W2 W3 := (Below.refl _ _).drew.trans hb3
          have s3 := q3.size
          have c5 : W3.cell? ⟨xb, 5, none⟩ = some (.int .i64 ((hn : Int) + 1)) := (q3.cell (p := ⟨xb, 5, none⟩) hxl2).trans c5
          have cr : W3.rangeAt xb 6 (u8s c.root) := range_same cr (q3.block xb hxl2)
          have cw2 : W3.cell? ⟨wb, 2, none⟩ = some (.slice HA2 hn hc) := (q3.cell (p := ⟨wb, 2, none⟩) hwl2).trans cw2
          have X3 := Aside0.mk ((q3.block xb hxl2).trans X2.out)
          have K3 := Aside0.mk ((q3.block wb hwl2).trans K2.out)
          have D3 := Aside0.mk (DirC.below D2.out q3)
          have B3 : Aside0 (Below n0 w W3) := ⟨B2.out.trans (q3.mono (by omega))⟩
          have hxl3 : xb < W3.heap.size := by omega
          have hwl3 : wb < W3.heap.size := by omega
          refine hK.out _ _ (by exact ⟨c5, cr⟩) (fun hHeld => ?_)
          clear hK
          (try simp only [uA, uB, uC, uD, uE, uF, uG, uH])
          refine wpAnyH_take (i := 16) (oi := _) (v := .agg (hdcells ⟨((hn : Int) + 1), c.root, pF⟩).toArray) rfl (by kernel_rfl) (by kernel_rfl) (by kernel_rfl) (fun _ _ _ h => h) (yieldsIf_build2 (by rfl) 36 _ rfl [(0, .int .i64 ((hn : Int) + 1)), (1, .agg (u8s c.root).toArray), (2, .agg (u8s pF).toArray)] (by simp only [List.map_toArray, List.map_cons, List.map_nil, List.toList_toArray]; rfl) _ BH) (by assumption) ?_
          (try simp only [uA, uB, uC, uD, uE, uF, uG, uH])
          refine wpAnyH_ready (rs := [17]) (by kernel_rfl) (by decide) (AllReadyH.cons rfl (fun K' hK => ?_) AllReadyH.nil)
          rw [if_pos (by rfl)]
          obtain ⟨i36, j1, j2, j3, j4⟩ := info_of info36
          refine Go.wp_buildSlice 25 36 1 _ rfl (hdcells ⟨((hn : Int) + 1), c.root, pF⟩).toArray i36 _ Tryz.underlying25 j1 j2 (by rw [j3]; decide) (by rw [j3]; decide) (by rw [j3]; simp only [List.map_toArray, List.map_cons, List.map_nil, List.toList_toArray]; exact BS) ?_
          have b4 : Below W3.heap.size W3 (W3.alloc (.cells (hdcells ⟨((hn : Int) + 1), c.root, pF⟩).toArray 36)) := (Below.refl _ _).alloc (Nat.le_refl _) _
          have k4 := blk_new W3 (.cells (hdcells ⟨((hn : Int) + 1), c.root, pF⟩).toArray 36)
          have s4 : (W3.alloc (.cells (hdcells ⟨((hn : Int) + 1), c.root, pF⟩).toArray 36)).heap.size = W3.heap.size + 1 := by simp
          generalize W3.alloc (.cells (hdcells ⟨((hn : Int) + 1), c.root, pF⟩).toArray 36) = W4 at *
          have c5 : W4.cell? ⟨xb, 5, none⟩ = some (.int .i64 ((hn : Int) + 1)) := (b4.cell (p := ⟨xb, 5, none⟩) hxl3).trans c5
          have cr : W4.rangeAt xb 6 (u8s c.root) := range_same cr (b4.block xb hxl3)
          have cw2 : W4.cell? ⟨wb, 2, none⟩ = some (.slice HA2 hn hc) := (b4.cell (p := ⟨wb, 2, none⟩) hwl3).trans cw2
          have X4 := Aside0.mk ((b4.block xb hxl3).trans X3.out)
          have K4 := Aside0.mk ((b4.block wb hwl3).trans K3.out)
          have D4 := Aside0.mk (DirC.below D3.out b4)
          have B4 : Aside0 (Below n0 w W4) := ⟨B3.out.trans (b4.mono (by omega))⟩
          have hxl4 : xb < W4.heap.size := by omega
          have hwl4 : wb < W4.heap.size := by omega
          refine hK.out _ _ (by exact ⟨c5, cr⟩) (fun hHeld => ?_)
          clear hK
          (try simp only [uA, uB, uC, uD, uE, uF, uG, uH])
          refine wpAnyH_ready (rs := [18]) (by kernel_rfl) (by decide) (AllReadyH.cons rfl (fun K' hK => ?_) AllReadyH.nil)
          rw [if_pos (by rfl)]
          have n4 : ∀ j u, (hdcells ⟨((hn : Int) + 1), c.root, pF⟩)[j]? = some u → W4.cell? ((⟨W3.heap.size, 0, none⟩ : Addr).add j) = some u := fun j u hj => by
            rw [Addr.add_lit, Nat.zero_add]
            exact cell_in (l := hdcells ⟨((hn : Int) + 1), c.root, pF⟩) k4 hj
          have hH4 := D4.out.2.1
          rw [HHN.out] at hH4
          obtain ⟨i36, j1, j2, j3, j4⟩ := info_of info36
          refine wp_append_own W4 (.tmp 39) (.tmp 51) 25 rfl n0 36 i36 _ 65 72 Tryz.underlying25 j1 j2 j3 j4 rfl (by decide) _ hn (hsC d.hs) rfl hH4 ⟨W3.heap.size, 0, none⟩ 1 1 (hdcells ⟨((hn : Int) + 1), c.root, pF⟩) rfl (by rw [HK1.out.2]) n4 HK1.out.1 (by simp only [maxLen]; omega) (by omega) (by omega) ?_
          intro v5 W5 ho5 hg5 _
          (try dsimp only)
          obtain ⟨zA, zc, rfl, hzc⟩ := (Reads.of_own ho5).form
          have hm : ∀ (t : TypeId), 36 ≠ t → ∀ (k : Nat) (cur : Array Value), W4.heap[k]? = some (.cells cur t (0, 0)) → W5.heap[k]? = W4.heap[k]? := fun t ht k cur hk => hg5.block k (Array.getElem?_eq_some_iff.1 hk).1 (own_ne hH4 hk ht)
          have K5 := Aside0.mk ((hm 47 (by decide) wb _ K4.out).trans K4.out)
          have x5 := (hm 41 (by decide) xb _ X4.out)
          have c55 : W5.cell? ⟨xb, 5, none⟩ = some (.int .i64 ((hn : Int) + 1)) := (World.cell?_of_block (w := W4) x5).trans c5
          have cr5 : W5.rangeAt xb 6 (u8s c.root) := range_same cr x5
          have g5 : W5.cell? ⟨wb, 2, none⟩ = some (.slice HA2 hn hc) := by have := K5.out; simp [World.cell?, this]
          have f5 : W5.frozen? ⟨wb, 2, none⟩ = false := by have := K5.out; simp [World.frozen?, this]
          obtain ⟨W6, hW6⟩ : ∃ W6, W5.setCell ⟨wb, 2, none⟩ (.slice zA (hn + 1) zc) = W6 := ⟨_, rfl⟩
          have hwx : xb ≠ wb := fun e => by
            have h1 := X4.out
            rw [e, K4.out] at h1
            injection h1 with h1
            injection h1 with _ h1
            exact absurd h1 (by decide)
          have far6 : ∀ k, k ≠ wb → W6.heap[k]? = W5.heap[k]? := fun k hk => by rw [← hW6]; exact Below.heap_setCell W5 _ _ k hk
          have c56 : W6.cell? ⟨xb, 5, none⟩ = some (.int .i64 ((hn : Int) + 1)) := (World.cell?_of_block (w := W5) (far6 xb hwx)).trans c55
          have cr6 : W6.rangeAt xb 6 (u8s c.root) := range_same cr5 (far6 xb hwx)
          have PP : Aside0 (IntPost KS d c n0 wb w (.returned (.int .i64 0)) W6) := ⟨by
            have hm6 : ∀ (t : TypeId), t ≠ 47 → ∀ (k : Nat) (cur : Array Value), W5.heap[k]? = some (.cells cur t (0, 0)) → W6.heap[k]? = W5.heap[k]? := fun t ht k cur hk => far6 k fun e => by
              rw [e, K5.out] at hk
              injection hk with hk
              injection hk with _ hk
              exact ht hk.symm
            obtain ⟨⟨uc, hu, hv⟩, _, hs⟩ := D4.out
            have hu5 : W5.ownsRow n0 63 2 x1 d.us.length uc := own_move hu fun k e => by
              obtain ⟨cur, hc⟩ := own_typed hu k e
              exact hm 63 (by decide) k cur hc
            have hs5 : W5.ownsRow n0 71 4 x3 d.ss.length (ssC d.ss) := own_move hs fun k e => by
              obtain ⟨cur, hc⟩ := own_typed hs k e
              exact hm 71 (by decide) k cur hc
            refine ⟨by rw [hz.out], fun _ => ?_, ?_⟩
            · rw [DD.out]
              refine ⟨HN0.out, x1, .slice zA (hn + 1) zc, x3, ?_, ⟨uc, own_move hu5 fun k e => ?_, UsC.move (fun k cur _ hk => hm6 68 (by decide) k cur hk) (UsC.move (fun k cur _ hk => hm 68 (by decide) k cur hk) hv)⟩, ?_, own_move hs5 fun k e => ?_⟩
              · rw [← hW6]
                exact blk_put K5.out 2 _ rfl
              · obtain ⟨cur, hc⟩ := own_typed hu5 k e
                exact hm6 63 (by decide) k cur hc
              · dsimp only
                rw [List.length_append, HHN.out, hsC_append, hsC, hsC, List.append_nil]
                refine own_move ho5 fun k e => ?_
                obtain ⟨cur, hc⟩ := own_typed ho5 k e
                exact hm6 36 (by decide) k cur hc
              · obtain ⟨cur, hc⟩ := own_typed hs5 k e
                exact hm6 71 (by decide) k cur hc
            · have q5 : Below n0 w W5 := B4.out.grown hg5 (by omega) fun k e => (hH4.lt k e).1
              rw [← hW6]
              exact q5.setCell HN0.out _⟩
          clear hm far6 hH4
          refine hK.out _ _ (by exact ⟨c55, cr5⟩) (fun hHeld => ?_)
          clear hK
          (try simp only [uA, uB, uC, uD, uE, uF, uG, uH])
          refine wpAnyH_take (i := 19) (oi := _) (v := ?_) rfl (by kernel_rfl) (by kernel_rfl) (by kernel_rfl) (fun _ _ _ h => h) (Or.inl ⟨by rfl, ?_⟩) (by assumption) ?_
          rotate_left
          · (intro w hSw; (try dsimp only at hSw); go_simp; (try with_reducible rfl))
          (try simp only [uA, uB, uC, uD, uE, uF, uG, uH])
          refine wpAnyH_take (i := 20) (oi := _) (v := ?_) rfl (by kernel_rfl) (by kernel_rfl) (by kernel_rfl) (fun _ _ _ h => h) (Or.inl ⟨by rfl, ?_⟩) (by assumption) ?_
          rotate_left
          · (intro w hSw; (try dsimp only at hSw); go_simp; (try with_reducible rfl))
          (try simp only [uA, uB, uC, uD, uE, uF, uG, uH])
          refine wpAnyH_take (i := 21) (oi := _) (v := ?_) rfl (by kernel_rfl) (by kernel_rfl) (by kernel_rfl) (fun _ _ _ h => h) (Or.inl ⟨by rfl, ?_⟩) (by assumption) ?_
          rotate_left
          · (intro w hSw; (try dsimp only at hSw); go_simp; (try with_reducible rfl))
          (try simp only [uA, uB, uC, uD, uE, uF, uG, uH])
          refine wpAnyH_ready (rs := [22]) (by kernel_rfl) (by decide) (AllReadyH.cons rfl (fun K' hK => ?_) AllReadyH.nil)
          rw [if_pos (by rfl)]
          go_simp
          (first | rw [hW6] | skip)
          refine hK.out _ _ (by exact ⟨c56, cr6⟩) (fun hHeld => ?_)
          clear hK
          (try simp only [uA, uB, uC, uD, uE, uF, uG, uH])
          refine wpAnyH_done (by kernel_rfl) ?_ _
          clear hW6 c55 c56 cr5 cr6 g5 f5
          go_wp2_with fail
          go_ret
          exact PP.out
        · rw [if_pos (by rfl)]
          go_simp
          refine hK.out _ _ (by exact ⟨c5, cr⟩) (fun hHeld => ?_)
          clear hK
          (try simp only [uA, uB, uC, uD, uE, uF, uG, uH])
          refine wpAnyH_ready (rs := [5, 15]) (by kernel_rfl) (by decide) (AllReadyH.cons rfl (fun K' hK => ?_) (AllReadyH.cons rfl (fun K' hK => ?_) AllReadyH.nil))
          · rw [if_pos (by rfl)]
            go_simp
            refine hK.out _ _ (by exact ⟨c5, cr⟩) (fun hHeld => ?_)
            clear hK
            (try simp only [uA, uB, uC, uD, uE, uF, uG, uH])
            refine wpAnyH_ready (rs := [15]) (by kernel_rfl) (by decide) (AllReadyH.cons rfl (fun K' hK => ?_) AllReadyH.nil)
            rw [if_pos (by rfl)]
            go_simp
            refine (PV2.out).mono ?_
            rintro e W3 ⟨rfl, hb3⟩
            (try dsimp only)
            have q3 : Below W2.heap.size W2 W3 := (Below.refl _ _).drew.trans hb3
            have s3 := q3.size
            have c5 : W3.cell? ⟨xb, 5, none⟩ = some (.int .i64 ((hn : Int) + 1)) := (q3.cell (p := ⟨xb, 5, none⟩) hxl2).trans c5
            have cr : W3.rangeAt xb 6 (u8s c.root) := range_same cr (q3.block xb hxl2)
            have cw2 : W3.cell? ⟨wb, 2, none⟩ = some (.slice HA2 hn hc) := (q3.cell (p := ⟨wb, 2, none⟩) hwl2).trans cw2
            have X3 := Aside0.mk ((q3.block xb hxl2).trans X2.out)
            have K3 := Aside0.mk ((q3.block wb hwl2).trans K2.out)
            have D3 := Aside0.mk (DirC.below D2.out q3)
            have B3 : Aside0 (Below n0 w W3) := ⟨B2.out.trans (q3.mono (by omega))⟩
            have hxl3 : xb < W3.heap.size := by omega
            have hwl3 : wb < W3.heap.size := by omega
            refine hK.out _ _ (by exact ⟨c5, cr⟩) (fun hHeld => ?_)
            clear hK
            (try simp only [uA, uB, uC, uD, uE, uF, uG, uH])
            refine wpAnyH_take (i := 16) (oi := _) (v := .agg (hdcells ⟨((hn : Int) + 1), c.root, pF⟩).toArray) rfl (by kernel_rfl) (by kernel_rfl) (by kernel_rfl) (fun _ _ _ h => h) (yieldsIf_build2 (by rfl) 36 _ rfl [(0, .int .i64 ((hn : Int) + 1)), (1, .agg (u8s c.root).toArray), (2, .agg (u8s pF).toArray)] (by simp only [List.map_toArray, List.map_cons, List.map_nil, List.toList_toArray]; rfl) _ BH) (by assumption) ?_
            (try simp only [uA, uB, uC, uD, uE, uF, uG, uH])
            refine wpAnyH_ready (rs := [17]) (by kernel_rfl) (by decide) (AllReadyH.cons rfl (fun K' hK => ?_) AllReadyH.nil)
            rw [if_pos (by rfl)]
            obtain ⟨i36, j1, j2, j3, j4⟩ := info_of info36
            refine Go.wp_buildSlice 25 36 1 _ rfl (hdcells ⟨((hn : Int) + 1), c.root, pF⟩).toArray i36 _ Tryz.underlying25 j1 j2 (by rw [j3]; decide) (by rw [j3]; decide) (by rw [j3]; simp only [List.map_toArray, List.map_cons, List.map_nil, List.toList_toArray]; exact BS) ?_
            have b4 : Below W3.heap.size W3 (W3.alloc (.cells (hdcells ⟨((hn : Int) + 1), c.root, pF⟩).toArray 36)) := (Below.refl _ _).alloc (Nat.le_refl _) _
            have k4 := blk_new W3 (.cells (hdcells ⟨((hn : Int) + 1), c.root, pF⟩).toArray 36)
            have s4 : (W3.alloc (.cells (hdcells ⟨((hn : Int) + 1), c.root, pF⟩).toArray 36)).heap.size = W3.heap.size + 1 := by simp
            generalize W3.alloc (.cells (hdcells ⟨((hn : Int) + 1), c.root, pF⟩).toArray 36) = W4 at *
            have c5 : W4.cell? ⟨xb, 5, none⟩ = some (.int .i64 ((hn : Int) + 1)) := (b4.cell (p := ⟨xb, 5, none⟩) hxl3).trans c5
            have cr : W4.rangeAt xb 6 (u8s c.root) := range_same cr (b4.block xb hxl3)
            have cw2 : W4.cell? ⟨wb, 2, none⟩ = some (.slice HA2 hn hc) := (b4.cell (p := ⟨wb, 2, none⟩) hwl3).trans cw2
            have X4 := Aside0.mk ((b4.block xb hxl3).trans X3.out)
            have K4 := Aside0.mk ((b4.block wb hwl3).trans K3.out)
            have D4 := Aside0.mk (DirC.below D3.out b4)
            have B4 : Aside0 (Below n0 w W4) := ⟨B3.out.trans (b4.mono (by omega))⟩
            have hxl4 : xb < W4.heap.size := by omega
            have hwl4 : wb < W4.heap.size := by omega
            refine hK.out _ _ (by exact ⟨c5, cr⟩) (fun hHeld => ?_)
            clear hK
            (try simp only [uA, uB, uC, uD, uE, uF, uG, uH])
            refine wpAnyH_ready (rs := [18]) (by kernel_rfl) (by decide) (AllReadyH.cons rfl (fun K' hK => ?_) AllReadyH.nil)
            rw [if_pos (by rfl)]
            have n4 : ∀ j u, (hdcells ⟨((hn : Int) + 1), c.root, pF⟩)[j]? = some u → W4.cell? ((⟨W3.heap.size, 0, none⟩ : Addr).add j) = some u := fun j u hj => by
              rw [Addr.add_lit, Nat.zero_add]
              exact cell_in (l := hdcells ⟨((hn : Int) + 1), c.root, pF⟩) k4 hj
            have hH4 := D4.out.2.1
            rw [HHN.out] at hH4
            obtain ⟨i36, j1, j2, j3, j4⟩ := info_of info36
            refine wp_append_own W4 (.tmp 39) (.tmp 51) 25 rfl n0 36 i36 _ 65 72 Tryz.underlying25 j1 j2 j3 j4 rfl (by decide) _ hn (hsC d.hs) rfl hH4 ⟨W3.heap.size, 0, none⟩ 1 1 (hdcells ⟨((hn : Int) + 1), c.root, pF⟩) rfl (by rw [HK1.out.2]) n4 HK1.out.1 (by simp only [maxLen]; omega) (by omega) (by omega) ?_
            intro v5 W5 ho5 hg5 _
            (try dsimp only)
            obtain ⟨zA, zc, rfl, hzc⟩ := (Reads.of_own ho5).form
            have hm : ∀ (t : TypeId), 36 ≠ t → ∀ (k : Nat) (cur : Array Value), W4.heap[k]? = some (.cells cur t (0, 0)) → W5.heap[k]? = W4.heap[k]? := fun t ht k cur hk => hg5.block k (Array.getElem?_eq_some_iff.1 hk).1 (own_ne hH4 hk ht)
            have K5 := Aside0.mk ((hm 47 (by decide) wb _ K4.out).trans K4.out)
            have x5 := (hm 41 (by decide) xb _ X4.out)
            have c55 : W5.cell? ⟨xb, 5, none⟩ = some (.int .i64 ((hn : Int) + 1)) := (World.cell?_of_block (w := W4) x5).trans c5
            have cr5 : W5.rangeAt xb 6 (u8s c.root) := range_same cr x5
            have g5 : W5.cell? ⟨wb, 2, none⟩ = some (.slice HA2 hn hc) := by have := K5.out; simp [World.cell?, this]
            have f5 : W5.frozen? ⟨wb, 2, none⟩ = false := by have := K5.out; simp [World.frozen?, this]
            obtain ⟨W6, hW6⟩ : ∃ W6, W5.setCell ⟨wb, 2, none⟩ (.slice zA (hn + 1) zc) = W6 := ⟨_, rfl⟩
            have hwx : xb ≠ wb := fun e => by
              have h1 := X4.out
              rw [e, K4.out] at h1
              injection h1 with h1
              injection h1 with _ h1
              exact absurd h1 (by decide)
            have far6 : ∀ k, k ≠ wb → W6.heap[k]? = W5.heap[k]? := fun k hk => by rw [← hW6]; exact Below.heap_setCell W5 _ _ k hk
            have c56 : W6.cell? ⟨xb, 5, none⟩ = some (.int .i64 ((hn : Int) + 1)) := (World.cell?_of_block (w := W5) (far6 xb hwx)).trans c55
            have cr6 : W6.rangeAt xb 6 (u8s c.root) := range_same cr5 (far6 xb hwx)
            have PP : Aside0 (IntPost KS d c n0 wb w (.returned (.int .i64 0)) W6) := ⟨by
              have hm6 : ∀ (t : TypeId), t ≠ 47 → ∀ (k : Nat) (cur : Array Value), W5.heap[k]? = some (.cells cur t (0, 0)) → W6.heap[k]? = W5.heap[k]? := fun t ht k cur hk => far6 k fun e => by
                rw [e, K5.out] at hk
                injection hk with hk
                injection hk with _ hk
                exact ht hk.symm
              obtain ⟨⟨uc, hu, hv⟩, _, hs⟩ := D4.out
              have hu5 : W5.ownsRow n0 63 2 x1 d.us.length uc := own_move hu fun k e => by
                obtain ⟨cur, hc⟩ := own_typed hu k e
                exact hm 63 (by decide) k cur hc
              have hs5 : W5.ownsRow n0 71 4 x3 d.ss.length (ssC d.ss) := own_move hs fun k e => by
                obtain ⟨cur, hc⟩ := own_typed hs k e
                exact hm 71 (by decide) k cur hc
              refine ⟨by rw [hz.out], fun _ => ?_, ?_⟩
              · rw [DD.out]
                refine ⟨HN0.out, x1, .slice zA (hn + 1) zc, x3, ?_, ⟨uc, own_move hu5 fun k e => ?_, UsC.move (fun k cur _ hk => hm6 68 (by decide) k cur hk) (UsC.move (fun k cur _ hk => hm 68 (by decide) k cur hk) hv)⟩, ?_, own_move hs5 fun k e => ?_⟩
                · rw [← hW6]
                  exact blk_put K5.out 2 _ rfl
                · obtain ⟨cur, hc⟩ := own_typed hu5 k e
                  exact hm6 63 (by decide) k cur hc
                · dsimp only
                  rw [List.length_append, HHN.out, hsC_append, hsC, hsC, List.append_nil]
                  refine own_move ho5 fun k e => ?_
                  obtain ⟨cur, hc⟩ := own_typed ho5 k e
                  exact hm6 36 (by decide) k cur hc
                · obtain ⟨cur, hc⟩ := own_typed hs5 k e
                  exact hm6 71 (by decide) k cur hc
              · have q5 : Below n0 w W5 := B4.out.grown hg5 (by omega) fun k e => (hH4.lt k e).1
                rw [← hW6]
                exact q5.setCell HN0.out _⟩
            clear hm far6 hH4
            refine hK.out _ _ (by exact ⟨c55, cr5⟩) (fun hHeld => ?_)
            clear hK
            (try simp only [uA, uB, uC, uD, uE, uF, uG, uH])
            refine wpAnyH_take (i := 19) (oi := _) (v := ?_) rfl (by kernel_rfl) (by kernel_rfl) (by kernel_rfl) (fun _ _ _ h => h) (Or.inl ⟨by rfl, ?_⟩) (by assumption) ?_
            rotate_left
            · (intro w hSw; (try dsimp only at hSw); go_simp; (try with_reducible rfl))
            (try simp only [uA, uB, uC, uD, uE, uF, uG, uH])
            refine wpAnyH_take (i := 20) (oi := _) (v := ?_) rfl (by kernel_rfl) (by kernel_rfl) (by kernel_rfl) (fun _ _ _ h => h) (Or.inl ⟨by rfl, ?_⟩) (by assumption) ?_
            rotate_left
            · (intro w hSw; (try dsimp only at hSw); go_simp; (try with_reducible rfl))
            (try simp only [uA, uB, uC, uD, uE, uF, uG, uH])
            refine wpAnyH_take (i := 21) (oi := _) (v := ?_) rfl (by kernel_rfl) (by kernel_rfl) (by kernel_rfl) (fun _ _ _ h => h) (Or.inl ⟨by rfl, ?_⟩) (by assumption) ?_
            rotate_left
            · (intro w hSw; (try dsimp only at hSw); go_simp; (try with_reducible rfl))
            (try simp only [uA, uB, uC, uD, uE, uF, uG, uH])
            refine wpAnyH_ready (rs := [22]) (by kernel_rfl) (by decide) (AllReadyH.cons rfl (fun K' hK => ?_) AllReadyH.nil)
            rw [if_pos (by rfl)]
            go_simp
            (first | rw [hW6] | skip)
            refine hK.out _ _ (by exact ⟨c56, cr6⟩) (fun hHeld => ?_)
            clear hK
            (try simp only [uA, uB, uC, uD, uE, uF, uG, uH])
            refine wpAnyH_done (by kernel_rfl) ?_ _
            clear hW6 c55 c56 cr5 cr6 g5 f5
            go_wp2_with fail
            go_ret
            exact PP.out
          · rw [if_pos (by rfl)]
            go_simp
            refine (PV2.out).mono ?_
            rintro e W3 ⟨rfl, hb3⟩
            (try dsimp only)
            have q3 : Below W2.heap.size W2 W3 := (Below.refl _ _).drew.trans hb3
            have s3 := q3.size
            have c5 : W3.cell? ⟨xb, 5, none⟩ = some (.int .i64 ((hn : Int) + 1)) := (q3.cell (p := ⟨xb, 5, none⟩) hxl2).trans c5
            have cr : W3.rangeAt xb 6 (u8s c.root) := range_same cr (q3.block xb hxl2)
            have cw2 : W3.cell? ⟨wb, 2, none⟩ = some (.slice HA2 hn hc) := (q3.cell (p := ⟨wb, 2, none⟩) hwl2).trans cw2
            have X3 := Aside0.mk ((q3.block xb hxl2).trans X2.out)
            have K3 := Aside0.mk ((q3.block wb hwl2).trans K2.out)
            have D3 := Aside0.mk (DirC.below D2.out q3)
            have B3 : Aside0 (Below n0 w W3) := ⟨B2.out.trans (q3.mono (by omega))⟩
            have hxl3 : xb < W3.heap.size := by omega
            have hwl3 : wb < W3.heap.size := by omega
            refine hK.out _ _ (by exact ⟨c5, cr⟩) (fun hHeld => ?_)
            clear hK
            (try simp only [uA, uB, uC, uD, uE, uF, uG, uH])
            refine wpAnyH_take (i := 16) (oi := _) (v := .agg (hdcells ⟨((hn : Int) + 1), c.root, pF⟩).toArray) rfl (by kernel_rfl) (by kernel_rfl) (by kernel_rfl) (fun _ _ _ h => h) (yieldsIf_build2 (by rfl) 36 _ rfl [(0, .int .i64 ((hn : Int) + 1)), (1, .agg (u8s c.root).toArray), (2, .agg (u8s pF).toArray)] (by simp only [List.map_toArray, List.map_cons, List.map_nil, List.toList_toArray]; rfl) _ BH) (by assumption) ?_
            (try simp only [uA, uB, uC, uD, uE, uF, uG, uH])
            refine wpAnyH_ready (rs := [5, 17]) (by kernel_rfl) (by decide) (AllReadyH.cons rfl (fun K' hK => ?_) (AllReadyH.cons rfl (fun K' hK => ?_) AllReadyH.nil))
            · rw [if_pos (by rfl)]
              go_simp
              refine hK.out _ _ (by exact ⟨c5, cr⟩) (fun hHeld => ?_)
              clear hK
              (try simp only [uA, uB, uC, uD, uE, uF, uG, uH])
              refine wpAnyH_ready (rs := [17]) (by kernel_rfl) (by decide) (AllReadyH.cons rfl (fun K' hK => ?_) AllReadyH.nil)
              rw [if_pos (by rfl)]
              obtain ⟨i36, j1, j2, j3, j4⟩ := info_of info36
              refine Go.wp_buildSlice 25 36 1 _ rfl (hdcells ⟨((hn : Int) + 1), c.root, pF⟩).toArray i36 _ Tryz.underlying25 j1 j2 (by rw [j3]; decide) (by rw [j3]; decide) (by rw [j3]; simp only [List.map_toArray, List.map_cons, List.map_nil, List.toList_toArray]; exact BS) ?_
              have b4 : Below W3.heap.size W3 (W3.alloc (.cells (hdcells ⟨((hn : Int) + 1), c.root, pF⟩).toArray 36)) := (Below.refl _ _).alloc (Nat.le_refl _) _
              have k4 := blk_new W3 (.cells (hdcells ⟨((hn : Int) + 1), c.root, pF⟩).toArray 36)
              have s4 : (W3.alloc (.cells (hdcells ⟨((hn : Int) + 1), c.root, pF⟩).toArray 36)).heap.size = W3.heap.size + 1 := by simp
              generalize W3.alloc (.cells (hdcells ⟨((hn : Int) + 1), c.root, pF⟩).toArray 36) = W4 at *
              have c5 : W4.cell? ⟨xb, 5, none⟩ = some (.int .i64 ((hn : Int) + 1)) := (b4.cell (p := ⟨xb, 5, none⟩) hxl3).trans c5
              have cr : W4.rangeAt xb 6 (u8s c.root) := range_same cr (b4.block xb hxl3)
              have cw2 : W4.cell? ⟨wb, 2, none⟩ = some (.slice HA2 hn hc) := (b4.cell (p := ⟨wb, 2, none⟩) hwl3).trans cw2
              have X4 := Aside0.mk ((b4.block xb hxl3).trans X3.out)
              have K4 := Aside0.mk ((b4.block wb hwl3).trans K3.out)
              have D4 := Aside0.mk (DirC.below D3.out b4)
              have B4 : Aside0 (Below n0 w W4) := ⟨B3.out.trans (b4.mono (by omega))⟩
              have hxl4 : xb < W4.heap.size := by omega
              have hwl4 : wb < W4.heap.size := by omega
              refine hK.out _ _ (by exact ⟨c5, cr⟩) (fun hHeld => ?_)
              clear hK
              (try simp only [uA, uB, uC, uD, uE, uF, uG, uH])
              refine wpAnyH_ready (rs := [18]) (by kernel_rfl) (by decide) (AllReadyH.cons rfl (fun K' hK => ?_) AllReadyH.nil)
              rw [if_pos (by rfl)]
              have n4 : ∀ j u, (hdcells ⟨((hn : Int) + 1), c.root, pF⟩)[j]? = some u → W4.cell? ((⟨W3.heap.size, 0, none⟩ : Addr).add j) = some u := fun j u hj => by
                rw [Addr.add_lit, Nat.zero_add]
                exact cell_in (l := hdcells ⟨((hn : Int) + 1), c.root, pF⟩) k4 hj
              have hH4 := D4.out.2.1
              rw [HHN.out] at hH4
              obtain ⟨i36, j1, j2, j3, j4⟩ := info_of info36
              refine wp_append_own W4 (.tmp 39) (.tmp 51) 25 rfl n0 36 i36 _ 65 72 Tryz.underlying25 j1 j2 j3 j4 rfl (by decide) _ hn (hsC d.hs) rfl hH4 ⟨W3.heap.size, 0, none⟩ 1 1 (hdcells ⟨((hn : Int) + 1), c.root, pF⟩) rfl (by rw [HK1.out.2]) n4 HK1.out.1 (by simp only [maxLen]; omega) (by omega) (by omega) ?_
              intro v5 W5 ho5 hg5 _
              (try dsimp only)
              obtain ⟨zA, zc, rfl, hzc⟩ := (Reads.of_own ho5).form
              have hm : ∀ (t : TypeId), 36 ≠ t → ∀ (k : Nat) (cur : Array Value), W4.heap[k]? = some (.cells cur t (0, 0)) → W5.heap[k]? = W4.heap[k]? := fun t ht k cur hk => hg5.block k (Array.getElem?_eq_some_iff.1 hk).1 (own_ne hH4 hk ht)
              have K5 := Aside0.mk ((hm 47 (by decide) wb _ K4.out).trans K4.out)
              have x5 := (hm 41 (by decide) xb _ X4.out)
              have c55 : W5.cell? ⟨xb, 5, none⟩ = some (.int .i64 ((hn : Int) + 1)) := (World.cell?_of_block (w := W4) x5).trans c5
              have cr5 : W5.rangeAt xb 6 (u8s c.root) := range_same cr x5
              have g5 : W5.cell? ⟨wb, 2, none⟩ = some (.slice HA2 hn hc) := by have := K5.out; simp [World.cell?, this]
              have f5 : W5.frozen? ⟨wb, 2, none⟩ = false := by have := K5.out; simp [World.frozen?, this]
              obtain ⟨W6, hW6⟩ : ∃ W6, W5.setCell ⟨wb, 2, none⟩ (.slice zA (hn + 1) zc) = W6 := ⟨_, rfl⟩
              have hwx : xb ≠ wb := fun e => by
                have h1 := X4.out
                rw [e, K4.out] at h1
                injection h1 with h1
                injection h1 with _ h1
                exact absurd h1 (by decide)
              have far6 : ∀ k, k ≠ wb → W6.heap[k]? = W5.heap[k]? := fun k hk => by rw [← hW6]; exact Below.heap_setCell W5 _ _ k hk
              have c56 : W6.cell? ⟨xb, 5, none⟩ = some (.int .i64 ((hn : Int) + 1)) := (World.cell?_of_block (w := W5) (far6 xb hwx)).trans c55
              have cr6 : W6.rangeAt xb 6 (u8s c.root) := range_same cr5 (far6 xb hwx)
              have PP : Aside0 (IntPost KS d c n0 wb w (.returned (.int .i64 0)) W6) := ⟨by
                have hm6 : ∀ (t : TypeId), t ≠ 47 → ∀ (k : Nat) (cur : Array Value), W5.heap[k]? = some (.cells cur t (0, 0)) → W6.heap[k]? = W5.heap[k]? := fun t ht k cur hk => far6 k fun e => by
                  rw [e, K5.out] at hk
                  injection hk with hk
                  injection hk with _ hk
                  exact ht hk.symm
                obtain ⟨⟨uc, hu, hv⟩, _, hs⟩ := D4.out
                have hu5 : W5.ownsRow n0 63 2 x1 d.us.length uc := own_move hu fun k e => by
                  obtain ⟨cur, hc⟩ := own_typed hu k e
                  exact hm 63 (by decide) k cur hc
                have hs5 : W5.ownsRow n0 71 4 x3 d.ss.length (ssC d.ss) := own_move hs fun k e => by
                  obtain ⟨cur, hc⟩ := own_typed hs k e
                  exact hm 71 (by decide) k cur hc
                refine ⟨by rw [hz.out], fun _ => ?_, ?_⟩
                · rw [DD.out]
                  refine ⟨HN0.out, x1, .slice zA (hn + 1) zc, x3, ?_, ⟨uc, own_move hu5 fun k e => ?_, UsC.move (fun k cur _ hk => hm6 68 (by decide) k cur hk) (UsC.move (fun k cur _ hk => hm 68 (by decide) k cur hk) hv)⟩, ?_, own_move hs5 fun k e => ?_⟩
                  · rw [← hW6]
                    exact blk_put K5.out 2 _ rfl
                  · obtain ⟨cur, hc⟩ := own_typed hu5 k e
                    exact hm6 63 (by decide) k cur hc
                  · dsimp only
                    rw [List.length_append, HHN.out, hsC_append, hsC, hsC, List.append_nil]
                    refine own_move ho5 fun k e => ?_
                    obtain ⟨cur, hc⟩ := own_typed ho5 k e
                    exact hm6 36 (by decide) k cur hc
                  · obtain ⟨cur, hc⟩ := own_typed hs5 k e
                    exact hm6 71 (by decide) k cur hc
                · have q5 : Below n0 w W5 := B4.out.grown hg5 (by omega) fun k e => (hH4.lt k e).1
                  rw [← hW6]
                  exact q5.setCell HN0.out _⟩
              clear hm far6 hH4
              refine hK.out _ _ (by exact ⟨c55, cr5⟩) (fun hHeld => ?_)
              clear hK
              (try simp only [uA, uB, uC, uD, uE, uF, uG, uH])
              refine wpAnyH_take (i := 19) (oi := _) (v := ?_) rfl (by kernel_rfl) (by kernel_rfl) (by kernel_rfl) (fun _ _ _ h => h) (Or.inl ⟨by rfl, ?_⟩) (by assumption) ?_
              rotate_left
              · (intro w hSw; (try dsimp only at hSw); go_simp; (try with_reducible rfl))
              (try simp only [uA, uB, uC, uD, uE, uF, uG, uH])
              refine wpAnyH_take (i := 20) (oi := _) (v := ?_) rfl (by kernel_rfl) (by kernel_rfl) (by kernel_rfl) (fun _ _ _ h => h) (Or.inl ⟨by rfl, ?_⟩) (by assumption) ?_
              rotate_left
              · (intro w hSw; (try dsimp only at hSw); go_simp; (try with_reducible rfl))
              (try simp only [uA, uB, uC, uD, uE, uF, uG, uH])
              refine wpAnyH_take (i := 21) (oi := _) (v := ?_) rfl (by kernel_rfl) (by kernel_rfl) (by kernel_rfl) (fun _ _ _ h => h) (Or.inl ⟨by rfl, ?_⟩) (by assumption) ?_
              rotate_left
              · (intro w hSw; (try dsimp only at hSw); go_simp; (try with_reducible rfl))
              (try simp only [uA, uB, uC, uD, uE, uF, uG, uH])
              refine wpAnyH_ready (rs := [22]) (by kernel_rfl) (by decide) (AllReadyH.cons rfl (fun K' hK => ?_) AllReadyH.nil)
              rw [if_pos (by rfl)]
              go_simp
              (first | rw [hW6] | skip)
              refine hK.out _ _ (by exact ⟨c56, cr6⟩) (fun hHeld => ?_)
              clear hK
              (try simp only [uA, uB, uC, uD, uE, uF, uG, uH])
              refine wpAnyH_done (by kernel_rfl) ?_ _
              clear hW6 c55 c56 cr5 cr6 g5 f5
              go_wp2_with fail
              go_ret
              exact PP.out
            · rw [if_pos (by rfl)]
              obtain ⟨i36, j1, j2, j3, j4⟩ := info_of info36
              refine Go.wp_buildSlice 25 36 1 _ rfl (hdcells ⟨((hn : Int) + 1), c.root, pF⟩).toArray i36 _ Tryz.underlying25 j1 j2 (by rw [j3]; decide) (by rw [j3]; decide) (by rw [j3]; simp only [List.map_toArray, List.map_cons, List.map_nil, List.toList_toArray]; exact BS) ?_
              have b4 : Below W3.heap.size W3 (W3.alloc (.cells (hdcells ⟨((hn : Int) + 1), c.root, pF⟩).toArray 36)) := (Below.refl _ _).alloc (Nat.le_refl _) _
              have k4 := blk_new W3 (.cells (hdcells ⟨((hn : Int) + 1), c.root, pF⟩).toArray 36)
              have s4 : (W3.alloc (.cells (hdcells ⟨((hn : Int) + 1), c.root, pF⟩).toArray 36)).heap.size = W3.heap.size + 1 := by simp
              generalize W3.alloc (.cells (hdcells ⟨((hn : Int) + 1), c.root, pF⟩).toArray 36) = W4 at *
              have c5 : W4.cell? ⟨xb, 5, none⟩ = some (.int .i64 ((hn : Int) + 1)) := (b4.cell (p := ⟨xb, 5, none⟩) hxl3).trans c5
              have cr : W4.rangeAt xb 6 (u8s c.root) := range_same cr (b4.block xb hxl3)
              have cw2 : W4.cell? ⟨wb, 2, none⟩ = some (.slice HA2 hn hc) := (b4.cell (p := ⟨wb, 2, none⟩) hwl3).trans cw2
              have X4 := Aside0.mk ((b4.block xb hxl3).trans X3.out)
              have K4 := Aside0.mk ((b4.block wb hwl3).trans K3.out)
              have D4 := Aside0.mk (DirC.below D3.out b4)
              have B4 : Aside0 (Below n0 w W4) := ⟨B3.out.trans (b4.mono (by omega))⟩
              have hxl4 : xb < W4.heap.size := by omega
              have hwl4 : wb < W4.heap.size := by omega
              refine hK.out _ _ (by exact ⟨c5, cr⟩) (fun hHeld => ?_)
              clear hK
              (try simp only [uA, uB, uC, uD, uE, uF, uG, uH])
              refine wpAnyH_ready (rs := [5]) (by kernel_rfl) (by decide) (AllReadyH.cons rfl (fun K' hK => ?_) AllReadyH.nil)
              rw [if_pos (by rfl)]
              go_simp
              refine hK.out _ _ (by exact ⟨c5, cr⟩) (fun hHeld => ?_)
              clear hK
              (try simp only [uA, uB, uC, uD, uE, uF, uG, uH])
              refine wpAnyH_ready (rs := [18]) (by kernel_rfl) (by decide) (AllReadyH.cons rfl (fun K' hK => ?_) AllReadyH.nil)
              rw [if_pos (by rfl)]
              have n4 : ∀ j u, (hdcells ⟨((hn : Int) + 1), c.root, pF⟩)[j]? = some u → W4.cell? ((⟨W3.heap.size, 0, none⟩ : Addr).add j) = some u := fun j u hj => by
                rw [Addr.add_lit, Nat.zero_add]
                exact cell_in (l := hdcells ⟨((hn : Int) + 1), c.root, pF⟩) k4 hj
              have hH4 := D4.out.2.1
              rw [HHN.out] at hH4
              obtain ⟨i36, j1, j2, j3, j4⟩ := info_of info36
              refine wp_append_own W4 (.tmp 39) (.tmp 51) 25 rfl n0 36 i36 _ 65 72 Tryz.underlying25 j1 j2 j3 j4 rfl (by decide) _ hn (hsC d.hs) rfl hH4 ⟨W3.heap.size, 0, none⟩ 1 1 (hdcells ⟨((hn : Int) + 1), c.root, pF⟩) rfl (by rw [HK1.out.2]) n4 HK1.out.1 (by simp only [maxLen]; omega) (by omega) (by omega) ?_
              intro v5 W5 ho5 hg5 _
              (try dsimp only)
              obtain ⟨zA, zc, rfl, hzc⟩ := (Reads.of_own ho5).form
              have hm : ∀ (t : TypeId), 36 ≠ t → ∀ (k : Nat) (cur : Array Value), W4.heap[k]? = some (.cells cur t (0, 0)) → W5.heap[k]? = W4.heap[k]? := fun t ht k cur hk => hg5.block k (Array.getElem?_eq_some_iff.1 hk).1 (own_ne hH4 hk ht)
              have K5 := Aside0.mk ((hm 47 (by decide) wb _ K4.out).trans K4.out)
              have x5 := (hm 41 (by decide) xb _ X4.out)
              have c55 : W5.cell? ⟨xb, 5, none⟩ = some (.int .i64 ((hn : Int) + 1)) := (World.cell?_of_block (w := W4) x5).trans c5
              have cr5 : W5.rangeAt xb 6 (u8s c.root) := range_same cr x5
              have g5 : W5.cell? ⟨wb, 2, none⟩ = some (.slice HA2 hn hc) := by have := K5.out; simp [World.cell?, this]
              have f5 : W5.frozen? ⟨wb, 2, none⟩ = false := by have := K5.out; simp [World.frozen?, this]
              obtain ⟨W6, hW6⟩ : ∃ W6, W5.setCell ⟨wb, 2, none⟩ (.slice zA (hn + 1) zc) = W6 := ⟨_, rfl⟩
              have hwx : xb ≠ wb := fun e => by
                have h1 := X4.out
                rw [e, K4.out] at h1
                injection h1 with h1
                injection h1 with _ h1
                exact absurd h1 (by decide)
              have far6 : ∀ k, k ≠ wb → W6.heap[k]? = W5.heap[k]? := fun k hk => by rw [← hW6]; exact Below.heap_setCell W5 _ _ k hk
              have c56 : W6.cell? ⟨xb, 5, none⟩ = some (.int .i64 ((hn : Int) + 1)) := (World.cell?_of_block (w := W5) (far6 xb hwx)).trans c55
              have cr6 : W6.rangeAt xb 6 (u8s c.root) := range_same cr5 (far6 xb hwx)
              have PP : Aside0 (IntPost KS d c n0 wb w (.returned (.int .i64 0)) W6) := ⟨by
                have hm6 : ∀ (t : TypeId), t ≠ 47 → ∀ (k : Nat) (cur : Array Value), W5.heap[k]? = some (.cells cur t (0, 0)) → W6.heap[k]? = W5.heap[k]? := fun t ht k cur hk => far6 k fun e => by
                  rw [e, K5.out] at hk
                  injection hk with hk
                  injection hk with _ hk
                  exact ht hk.symm
                obtain ⟨⟨uc, hu, hv⟩, _, hs⟩ := D4.out
                have hu5 : W5.ownsRow n0 63 2 x1 d.us.length uc := own_move hu fun k e => by
                  obtain ⟨cur, hc⟩ := own_typed hu k e
                  exact hm 63 (by decide) k cur hc
                have hs5 : W5.ownsRow n0 71 4 x3 d.ss.length (ssC d.ss) := own_move hs fun k e => by
                  obtain ⟨cur, hc⟩ := own_typed hs k e
                  exact hm 71 (by decide) k cur hc
                refine ⟨by rw [hz.out], fun _ => ?_, ?_⟩
                · rw [DD.out]
                  refine ⟨HN0.out, x1, .slice zA (hn + 1) zc, x3, ?_, ⟨uc, own_move hu5 fun k e => ?_, UsC.move (fun k cur _ hk => hm6 68 (by decide) k cur hk) (UsC.move (fun k cur _ hk => hm 68 (by decide) k cur hk) hv)⟩, ?_, own_move hs5 fun k e => ?_⟩
                  · rw [← hW6]
                    exact blk_put K5.out 2 _ rfl
                  · obtain ⟨cur, hc⟩ := own_typed hu5 k e
                    exact hm6 63 (by decide) k cur hc
                  · dsimp only
                    rw [List.length_append, HHN.out, hsC_append, hsC, hsC, List.append_nil]
                    refine own_move ho5 fun k e => ?_
                    obtain ⟨cur, hc⟩ := own_typed ho5 k e
                    exact hm6 36 (by decide) k cur hc
                  · obtain ⟨cur, hc⟩ := own_typed hs5 k e
                    exact hm6 71 (by decide) k cur hc
                · have q5 : Below n0 w W5 := B4.out.grown hg5 (by omega) fun k e => (hH4.lt k e).1
                  rw [← hW6]
                  exact q5.setCell HN0.out _⟩
              clear hm far6 hH4
              refine hK.out _ _ (by exact ⟨c55, cr5⟩) (fun hHeld => ?_)
              clear hK
              (try simp only [uA, uB, uC, uD, uE, uF, uG, uH])
              refine wpAnyH_take (i := 19) (oi := _) (v := ?_) rfl (by kernel_rfl) (by kernel_rfl) (by kernel_rfl) (fun _ _ _ h => h) (Or.inl ⟨by rfl, ?_⟩) (by assumption) ?_
              rotate_left
              · (intro w hSw; (try dsimp only at hSw); go_simp; (try with_reducible rfl))
              (try simp only [uA, uB, uC, uD, uE, uF, uG, uH])
              refine wpAnyH_take (i := 20) (oi := _) (v := ?_) rfl (by kernel_rfl) (by kernel_rfl) (by kernel_rfl) (fun _ _ _ h => h) (Or.inl ⟨by rfl, ?_⟩) (by assumption) ?_
              rotate_left
              · (intro w hSw; (try dsimp only at hSw); go_simp; (try with_reducible rfl))
              (try simp only [uA, uB, uC, uD, uE, uF, uG, uH])
              refine wpAnyH_take (i := 21) (oi := _) (v := ?_) rfl (by kernel_rfl) (by kernel_rfl) (by kernel_rfl) (fun _ _ _ h => h) (Or.inl ⟨by rfl, ?_⟩) (by assumption) ?_
              rotate_left
              · (intro w hSw; (try dsimp only at hSw); go_simp; (try with_reducible rfl))
              (try simp only [uA, uB, uC, uD, uE, uF, uG, uH])
              refine wpAnyH_ready (rs := [22]) (by kernel_rfl) (by decide) (AllReadyH.cons rfl (fun K' hK => ?_) AllReadyH.nil)
              rw [if_pos (by rfl)]
              go_simp
              (first | rw [hW6] | skip)
              refine hK.out _ _ (by exact ⟨c56, cr6⟩) (fun hHeld => ?_)
              clear hK
              (try simp only [uA, uB, uC, uD, uE, uF, uG, uH])
              refine wpAnyH_done (by kernel_rfl) ?_ _
              clear hW6 c55 c56 cr5 cr6 g5 f5
              go_wp2_with fail
              go_ret
              exact PP.out
      · have PP := Aside0.mk (ER.out W2 (by rw [CD.out, if_neg (fun h => h rfl), if_neg h2, if_pos h3]) q2)
        have h3d : decide (c.root = rE) = false := decide_eq_false h3
        rw [h3d]
        go_wp2_with fail
        go_ret
        exact PP.out
  · have PP := Aside0.mk (ER.out W1.drew (by rw [CD.out, if_pos h1]) (Below.refl _ _).drew)
    refine wp_region_held_drew (S := (fun W => W.cell? ⟨xb, 5, none⟩ = some (.int .i64 ce) ∧ W.cell? ⟨wb, 2, none⟩ = some (.slice HA2 hn hc) ∧ W.cell? ⟨wb, 0, none⟩ = some (.int .i64 d.e) ∧ W.rangeAt xb 6 (u8s c.root))) (by kernel_rfl) (by exact SK.out W1 (Below.refl _ _)) (fun hHeld => ?_)
    refine wpAnyH_take (i := 0) (oi := _) (v := ?_) rfl (by kernel_rfl) (by kernel_rfl) (by kernel_rfl) (fun _ _ _ h => h) (Or.inl ⟨by rfl, ?_⟩) (by assumption) ?_
    rotate_left
    · (intro w hSw; (try dsimp only at hSw); obtain ⟨s1_, s2_, s3_, s4_⟩ := hSw; clear s4_; go_simp; (try with_reducible rfl))
    (try simp only [uA, uB, uC, uD, uE, uF, uG, uH])
    refine wpAnyH_take (i := 1) (oi := _) (v := ?_) rfl (by kernel_rfl) (by kernel_rfl) (by kernel_rfl) (fun _ _ _ h => h) (Or.inl ⟨by rfl, ?_⟩) (by assumption) ?_
    rotate_left
    · (intro w hSw; (try dsimp only at hSw); obtain ⟨s1_, s2_, s3_, s4_⟩ := hSw; clear s4_; go_simp; (try with_reducible rfl))
    (try simp only [uA, uB, uC, uD, uE, uF, uG, uH])
    refine wpAnyH_take (i := 2) (oi := _) (v := ?_) rfl (by kernel_rfl) (by kernel_rfl) (by kernel_rfl) (fun _ _ _ h => h) (Or.inl ⟨by rfl, ?_⟩) (by assumption) ?_
    rotate_left
    · (intro w hSw; (try dsimp only at hSw); obtain ⟨s1_, s2_, s3_, s4_⟩ := hSw; clear s4_; go_simp; (try with_reducible rfl))
    (try simp only [uA, uB, uC, uD, uE, uF, uG, uH])
    refine wpAnyH_take (i := 3) (oi := _) (v := ?_) rfl (by kernel_rfl) (by kernel_rfl) (by kernel_rfl) (fun _ _ _ h => h) (Or.inl ⟨by rfl, ?_⟩) (by assumption) ?_
    rotate_left
    · (intro w hSw; (try dsimp only at hSw); obtain ⟨s1_, s2_, s3_, s4_⟩ := hSw; clear s4_; go_simp; (try with_reducible rfl))
    (try simp only [uA, uB, uC, uD, uE, uF, uG, uH])
    refine wpAnyH_take (i := 4) (oi := _) (v := ?_) rfl (by kernel_rfl) (by kernel_rfl) (by kernel_rfl) (fun _ _ _ h => h) (Or.inl ⟨by rfl, ?_⟩) (by assumption) ?_
    rotate_left
    · (intro w hSw; (try dsimp only at hSw); obtain ⟨s1_, s2_, s3_, s4_⟩ := hSw; clear s4_; go_simp; (try with_reducible rfl))
    (try simp only [uA, uB, uC, uD, uE, uF, uG, uH])
    refine wpAnyH_take (i := 5) (oi := _) (v := ?_) rfl (by kernel_rfl) (by kernel_rfl) (by kernel_rfl) (fun _ _ _ h => h) (Or.inl ⟨by rfl, ?_⟩) (by assumption) ?_
    rotate_left
    · (intro w hSw; (try dsimp only at hSw); obtain ⟨s1_, s2_, s3_, s4_⟩ := hSw; clear s4_; go_simp; (try with_reducible rfl))
    (try simp only [uA, uB, uC, uD, uE, uF, uG, uH])
    refine wpAnyH_take (i := 6) (oi := _) (v := ?_) rfl (by kernel_rfl) (by kernel_rfl) (by kernel_rfl) (fun _ _ _ h => h) (Or.inl ⟨by rfl, ?_⟩) (by assumption) ?_
    rotate_left
    · (intro w hSw; (try dsimp only at hSw); obtain ⟨s1_, s2_, s3_, s4_⟩ := hSw; clear s4_; go_simp; (try with_reducible rfl))
    (try simp only [uA, uB, uC, uD, uE, uF, uG, uH])
    refine wpAnyH_take (i := 7) (oi := _) (v := ?_) rfl (by kernel_rfl) (by kernel_rfl) (by kernel_rfl) (fun _ _ _ h => h) (Or.inl ⟨by rfl, ?_⟩) (by assumption) ?_
    rotate_left
    · (intro w hSw; (try dsimp only at hSw); obtain ⟨s1_, s2_, s3_, s4_⟩ := hSw; clear s4_; go_simp; (try with_reducible rfl))
    (try simp only [uA, uB, uC, uD, uE, uF, uG, uH])
    refine wpAnyH_take (i := 8) (oi := _) (v := ?_) rfl (by kernel_rfl) (by kernel_rfl) (by kernel_rfl) (fun _ _ _ h => h) (Or.inl ⟨by rfl, ?_⟩) (by assumption) ?_
    rotate_left
    · (intro w hSw; (try dsimp only at hSw); obtain ⟨s1_, s2_, s3_, s4_⟩ := hSw; clear s4_; go_simp; (try with_reducible rfl))
    (try simp only [uA, uB, uC, uD, uE, uF, uG, uH])
    refine wpAnyH_take (i := 9) (oi := _) (v := .bool true) rfl (by kernel_rfl) (by kernel_rfl) (by kernel_rfl) (fun _ _ _ h => h) (Or.inl ⟨by rfl, ?_⟩) (by assumption) ?_
    rotate_left 0
    · (intro w hSw; (try dsimp only at hSw); obtain ⟨s1_, s2_, s3_, s4_⟩ := hSw; clear s4_; go_simp; (try with_reducible rfl))
    (try simp only [uA, uB, uC, uD, uE, uF, uG, uH])
    refine wpAnyH_take (i := 10) (oi := _) (v := .bool true) rfl (by kernel_rfl) (by kernel_rfl) (by kernel_rfl) (fun _ _ _ h => h) (Or.inl ⟨by rfl, ?_⟩) (by assumption) ?_
    rotate_left 0
    · (intro w hSw; (try dsimp only at hSw); obtain ⟨s1_, s2_, s3_, s4_⟩ := hSw; clear s4_; go_simp; (try with_reducible rfl))
    (try simp only [uA, uB, uC, uD, uE, uF, uG, uH])
    refine wpAnyH_take (i := 11) (oi := _) (v := undef) rfl (by kernel_rfl) (by kernel_rfl) (by kernel_rfl) (fun _ _ _ h => h) (Or.inr ⟨by rfl, rfl⟩) (by assumption) ?_
    (try simp only [uA, uB, uC, uD, uE, uF, uG, uH])
    refine wpAnyH_take (i := 12) (oi := _) (v := undef) rfl (by kernel_rfl) (by kernel_rfl) (by kernel_rfl) (fun _ _ _ h => h) (Or.inr ⟨by rfl, rfl⟩) (by assumption) ?_
    (try simp only [uA, uB, uC, uD, uE, uF, uG, uH])
    refine wpAnyH_take (i := 13) (oi := _) (v := undef) rfl (by kernel_rfl) (by kernel_rfl) (by kernel_rfl) (fun _ _ _ h => h) (Or.inr ⟨by rfl, rfl⟩) (by assumption) ?_
    (try simp only [uA, uB, uC, uD, uE, uF, uG, uH])
    refine wpAnyH_take (i := 14) (oi := _) (v := undef) rfl (by kernel_rfl) (by kernel_rfl) (by kernel_rfl) (fun _ _ _ h => h) (Or.inr ⟨by rfl, rfl⟩) (by assumption) ?_
    (try simp only [uA, uB, uC, uD, uE, uF, uG, uH])
    refine wpAnyH_take (i := 15) (oi := _) (v := undef) rfl (by kernel_rfl) (by kernel_rfl) (by kernel_rfl) (fun _ _ _ h => h) (Or.inr ⟨by rfl, rfl⟩) (by assumption) ?_
    (try simp only [uA, uB, uC, uD, uE, uF, uG, uH])
    refine wpAnyH_take (i := 16) (oi := _) (v := undef) rfl (by kernel_rfl) (by kernel_rfl) (by kernel_rfl) (fun _ _ _ h => h) (Or.inr ⟨by rfl, rfl⟩) (by assumption) ?_
    (try simp only [uA, uB, uC, uD, uE, uF, uG, uH])
    refine wpAnyH_take (i := 17) (oi := _) (v := undef) rfl (by kernel_rfl) (by kernel_rfl) (by kernel_rfl) (fun _ _ _ h => h) (Or.inr ⟨by rfl, rfl⟩) (by assumption) ?_
    (try simp only [uA, uB, uC, uD, uE, uF, uG, uH])
    refine wpAnyH_take (i := 18) (oi := _) (v := undef) rfl (by kernel_rfl) (by kernel_rfl) (by kernel_rfl) (fun _ _ _ h => h) (Or.inr ⟨by rfl, rfl⟩) (by assumption) ?_
    (try simp only [uA, uB, uC, uD, uE, uF, uG, uH])
    refine wpAnyH_take (i := 19) (oi := _) (v := .bool true) rfl (by kernel_rfl) (by kernel_rfl) (by kernel_rfl) (fun _ _ _ h => h) (Or.inl ⟨by rfl, ?_⟩) (by assumption) ?_
    rotate_left 0
    · (intro w hSw; (try dsimp only at hSw); obtain ⟨s1_, s2_, s3_, s4_⟩ := hSw; clear s4_; go_simp; (try with_reducible rfl))
    (try simp only [uA, uB, uC, uD, uE, uF, uG, uH])
    refine wpAnyH_take (i := 20) (oi := _) (v := .bool true) rfl (by kernel_rfl) (by kernel_rfl) (by kernel_rfl) (fun _ _ _ h => h) (Or.inl ⟨by rfl, ?_⟩) (by assumption) ?_
    rotate_left 0
    · (intro w hSw; (try dsimp only at hSw); obtain ⟨s1_, s2_, s3_, s4_⟩ := hSw; clear s4_; go_simp; (try with_reducible rfl))
    (try simp only [uA, uB, uC, uD, uE, uF, uG, uH])
    refine wpAnyH_take (i := 21) (oi := _) (v := undef) rfl (by kernel_rfl) (by kernel_rfl) (by kernel_rfl) (fun _ _ _ h => h) (Or.inr ⟨by rfl, rfl⟩) (by assumption) ?_
    (try simp only [uA, uB, uC, uD, uE, uF, uG, uH])
    refine wpAnyH_take (i := 22) (oi := _) (v := undef) rfl (by kernel_rfl) (by kernel_rfl) (by kernel_rfl) (fun _ _ _ h => h) (Or.inr ⟨by rfl, rfl⟩) (by assumption) ?_
    (try simp only [uA, uB, uC, uD, uE, uF, uG, uH])
    refine wpAnyH_take (i := 23) (oi := _) (v := undef) rfl (by kernel_rfl) (by kernel_rfl) (by kernel_rfl) (fun _ _ _ h => h) (Or.inr ⟨by rfl, rfl⟩) (by assumption) ?_
    (try simp only [uA, uB, uC, uD, uE, uF, uG, uH])
    refine wpAnyH_take (i := 24) (oi := _) (v := undef) rfl (by kernel_rfl) (by kernel_rfl) (by kernel_rfl) (fun _ _ _ h => h) (Or.inr ⟨by rfl, rfl⟩) (by assumption) ?_
    (try simp only [uA, uB, uC, uD, uE, uF, uG, uH])
    refine wpAnyH_take (i := 25) (oi := _) (v := undef) rfl (by kernel_rfl) (by kernel_rfl) (by kernel_rfl) (fun _ _ _ h => h) (Or.inr ⟨by rfl, rfl⟩) (by assumption) ?_
    (try simp only [uA, uB, uC, uD, uE, uF, uG, uH])
    refine wpAnyH_take (i := 26) (oi := _) (v := undef) rfl (by kernel_rfl) (by kernel_rfl) (by kernel_rfl) (fun _ _ _ h => h) (Or.inr ⟨by rfl, rfl⟩) (by assumption) ?_
    (try simp only [uA, uB, uC, uD, uE, uF, uG, uH])
    refine wpAnyH_take (i := 27) (oi := _) (v := undef) rfl (by kernel_rfl) (by kernel_rfl) (by kernel_rfl) (fun _ _ _ h => h) (Or.inr ⟨by rfl, rfl⟩) (by assumption) ?_
    (try simp only [uA, uB, uC, uD, uE, uF, uG, uH])
    refine wpAnyH_take (i := 28) (oi := _) (v := .bool true) rfl (by kernel_rfl) (by kernel_rfl) (by kernel_rfl) (fun _ _ _ h => h) (Or.inl ⟨by rfl, ?_⟩) (by assumption) ?_
    rotate_left 0
    · (intro w hSw; (try dsimp only at hSw); obtain ⟨s1_, s2_, s3_, s4_⟩ := hSw; clear s4_; go_simp; (try with_reducible rfl))
    (try simp only [uA, uB, uC, uD, uE, uF, uG, uH])
    refine wpAnyH_done (by kernel_rfl) ?_ _
    go_wp2_with fail
    go_ret
    exact PP.out
end Go.Proofs.YtadkeohohehmcaaGreatDoor.Top
