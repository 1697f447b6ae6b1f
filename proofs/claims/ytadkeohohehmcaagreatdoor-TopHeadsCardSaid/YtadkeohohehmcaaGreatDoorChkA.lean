/- A directory in form. -/
import Derived.Test.YtadkeohohehmcaaGreatDoorLeC
namespace Go.Proofs.YtadkeohohehmcaaGreatDoor.Top
open Go.RowKit Go.Proofs.YtadkeohohehmcaaGreatDoorW.PrintWords Go.Proofs.YtadkeohohehmcaaGreatDoorW.PrintLast Go.Proofs.YtadkeohohehmcaaGreatDoorW.PrintMore Go.Proofs.YtadkeohohehmcaaGreatDoor.PTop
set_option linter.unusedVariables false
set_option linter.unusedSimpArgs false
attribute [local go_sem] Oper.semAt_some

structure L1 (us : List Usr) (w wr : World) (s3 s4 s40 : Value) (i : Nat) : Prop where
  ok : s3 = .bool true
  was : s4 = .string (wasF (us.take i))
  ix : s40 = .int .i64 (i : Int)
  le : i ≤ us.length
  below : Below w.heap.size w wr
structure L2 (hs : List Hd) (w wr : World) (s3 s89 : Value) (i : Nat) : Prop where
  ok : s3 = .bool true
  ix : s89 = .int .i64 (i : Int)
  le : i ≤ hs.length
  below : Below w.heap.size w wr
structure L3 (ss : List Ses) (w wr : World) (s3 s9 s116 : Value) (i : Nat) : Prop where
  ok : s3 = .bool true
  last : s9 = .int .i64 (lastC (ss.take i))
  ix : s116 = .int .i64 (i : Int)
  le : i ≤ ss.length
  below : Below w.heap.size w wr
set_option maxHeartbeats 8000000 in
set_option maxRecDepth 100000 in
theorem check_dir (KS : List Int) (d : Dir) (x1 x2 x3 : Value) (w : World) (hk : HKey KS w) (hr : DirR w d x1 x2 x3) (hin : DirIn KS d) :
    Calls Tryz.prog 13 #[dirV d x1 x2 x3] w fun e w' => e = .returned (.int .i64 0) ∧ Below w.heap.size w w' := by
  obtain ⟨de, us, hs, ss⟩ := d
  have hw0 := hk.pos
  obtain ⟨lo, hi, uin, hsin, sin⟩ := hin
  obtain ⟨⟨uc, ur, uus⟩, hrr, srr⟩ := hr
  dsimp only at *
  obtain ⟨A1, c1, rfl, hc1⟩ := Reads.form ur
  obtain ⟨A2, c2, rfl, hc2⟩ := Reads.form hrr
  obtain ⟨A3, c3, rfl, hc3⟩ := Reads.form srr
  have hl1 := uin.len
  have hl2 := hsin.len
  have hl3 := sin.len
  have hl1i : (us.length : Int) ≤ 64 := by omega
  have hl3i : (ss.length : Int) ≤ 4 := by omega
  have WC := Aside0.mk (within_c de 0 200 lo hi)
  have UIN := Aside0.mk uin
  have HIN := Aside0.mk hsin
  have SIN := Aside0.mk sin
  have UR := Aside0.mk ur
  have UUS := Aside0.mk uus
  have HRR := Aside0.mk hrr
  have SRR := Aside0.mk srr
  have HK := Aside0.mk hk
  unfold dirV
  dsimp only
  clear uin hsin sin ur uus hrr srr hk
  obtain ⟨W0, hW0⟩ : ∃ W0, w.alloc (.cells #[.int .i64 de, .slice A1 us.length c1, .slice A2 hs.length c2, .slice A3 ss.length c3] 28) = W0 := ⟨_, rfl⟩
  have b0 : Below w.heap.size w W0 := by rw [← hW0]; exact (Below.refl _ w).alloc (Nat.le_refl _) _
  have s0 : W0.heap.size = w.heap.size + 1 := by rw [← hW0]; simp
  have k0 : W0.heap[w.heap.size]? = some (.cells #[.int .i64 de, .slice A1 us.length c1, .slice A2 hs.length c2, .slice A3 ss.length c3] 28 (0, 0)) := by rw [← hW0]; exact blk_new w _
  have FD : Aside0 (∀ W, Below W0.heap.size W0 W → W.cell? ⟨w.heap.size, 0, none⟩ = some (.int .i64 de) ∧ W.cell? ⟨w.heap.size, 1, none⟩ = some (.slice A1 us.length c1) ∧ W.cell? ⟨w.heap.size, 2, none⟩ = some (.slice A2 hs.length c2) ∧ W.cell? ⟨w.heap.size, 3, none⟩ = some (.slice A3 ss.length c3) ∧ Below w.heap.size w W ∧ w.heap.size < W.heap.size) := ⟨fun W hW => by
    have a := (hW.block w.heap.size (by omega)).trans k0
    have hs := hW.size
    refine ⟨?_, ?_, ?_, ?_, b0.trans (hW.mono (by omega)), by omega⟩
    all_goals simp [World.cell?, a]⟩
  have HW0 := Aside0.mk hW0
  clear b0 s0 k0 hW0
  go_enter Tryz.func13, Tryz.ntmps13
  go_upto_region 1 with fail
  rw [HW0.out]
  obtain ⟨z0, z1, z2, z3, _, _⟩ := FD.out W0 (Below.refl _ _)
  go_upto_region 2 with (go_at_call 18; refine (WC.out _).mono ?_; rintro e W1 ⟨rfl, hd1⟩; refine Aside0.out ?_)
  refine ⟨?_⟩
  have hB1 : Below W0.heap.size W0 W1 := hd1.below
  obtain ⟨f0, f1, f2, f3, q1, hdl⟩ := FD.out W1 hB1
  have HB1 := Aside0.mk hB1
  go_upto_region 4 with fail
  go_upto_region 6 with fail
  go_loopg [3, 4, 40] us.length (fun gg s3 s4 s40 wr => ∃ i : Nat, us.length - i ≤ gg ∧ Aside (L1 us W1 wr s3 s4 s40 i))
  case atStart => exact ⟨0, by omega, ⟨rfl, rfl, rfl, by omega, Below.refl _ _⟩⟩
  case round =>
    obtain ⟨i, hgg, L⟩ := hrel
    have LL := Aside0.mk L.out
    obtain rfl := LL.out.ok
    obtain rfl := LL.out.was
    obtain rfl := LL.out.ix
    have hle := LL.out.le
    clear L z0 z1 z2 z3 f0 f1 f2 f3
    have hBr : Below W0.heap.size W0 wr := HB1.out.trans (LL.out.below.mono HB1.out.size)
    obtain ⟨f0, f1, f2, f3, qr, hdlr⟩ := FD.out wr hBr
    have hW0s : W0.heap.size ≤ wr.heap.size := hBr.size
    have HBR := Aside0.mk hBr
    clear hBr
    by_cases hin : i < us.length
    · have hi0 : (i : Int) < (us.length : Int) := by omega
      have hge : (0 : Int) ≤ (i : Int) := by omega
      have hx : us[i]? = some us[i] := List.getElem?_eq_getElem hin
      obtain ⟨v, hc0, hc1', hv⟩ := UUS.out.at_ i _ hx
      obtain ⟨b, off, rfl, hcs⟩ : ∃ b off, A1 = some ⟨b, off, none⟩ ∧ ∀ j u, uc[j]? = some u → w.cell? ⟨b, off + j, none⟩ = some u := by
        rcases UR.out.2 with ⟨_, h1⟩ | ⟨b, off, _, h1, _, h2⟩
        · omega
        · injection h1 with h1
          exact ⟨b, off, h1, h2⟩
      have a0 := hcs _ _ hc0
      have a1 := hcs _ _ hc1'
      have hbl : b < w.heap.size := block_lt_of_cell a0
      obtain ⟨hgt, hn1, hn2, hne, hck, hlast⟩ := UIN.out.at_ i _ hx
      have hp : 0 < us[i].vs.length := List.length_pos_iff.2 hne
      obtain ⟨n, hn⟩ : ∃ n, us[i].vs.length = n + 1 := ⟨us[i].vs.length - 1, by omega⟩
      obtain ⟨vb, vo, vc, rfl, hvc, hvx⟩ : ∃ vb vo vc, v = .slice (some ⟨vb, vo, none⟩) (n + 1) vc ∧ n + 1 ≤ vc ∧ ∀ j u, (vsC us[i].vs)[j]? = some u → w.cell? ⟨vb, vo + j, none⟩ = some u := by
        rcases hv.2 with ⟨_, h1⟩ | ⟨vb, vo, vc, h1, h2, h3⟩
        · omega
        · exact ⟨vb, vo, vc, by rw [h1, hn], by omega, h3⟩
      have hlv : us[i].vs[n]? = some (lastF us[i].vs) := by
        have hnl : n < us[i].vs.length := by omega
        have e1 : us[i].vs.getLast? = some us[i].vs[n] := by rw [List.getLast?_eq_getElem?, hn, Nat.add_sub_cancel, List.getElem?_eq_getElem hnl]
        rw [lastF, e1, List.getElem?_eq_getElem hnl]
        rfl
      have av := hvx _ _ (vsC_at us[i].vs n _ hlv).1
      have hvl : vb < w.heap.size := block_lt_of_cell av
      have rl : wr.rangeAt b (off + i * 2) [.string us[i].name, .slice (some ⟨vb, vo, none⟩) (n + 1) vc] := fun j u hj => by
        have hl : j < 2 := (List.getElem?_eq_some_iff.1 hj).1
        have hwr := qr.block b hbl
        match j, hl with
        | 0, _ => rw [← hj]; exact (World.cell?_of_block (w := w) hwr).trans a0
        | 1, _ => rw [← hj]; exact (World.cell?_of_block (w := w) hwr).trans a1
      have a3 : wr.cell? ⟨vb, vo + n * 3, none⟩ = some (.int .i64 (lastF us[i].vs).f0) := (World.cell?_of_block (w := w) (qr.block vb hvl)).trans av
      have hn16 : n + 1 ≤ 16 := by have := hck.1; omega
      have hi63 : (Tryz.prog.info? 63).map (·.size) = some [Value.string us[i].name, .slice (some ⟨vb, vo, none⟩) (n + 1) vc].length := by kernel_rfl
      have hi63a : (Tryz.prog.info? 63).map (·.size) = some #[Value.string us[i].name, .slice (some ⟨vb, vo, none⟩) (n + 1) vc].size := by kernel_rfl
      have hz63 : #[Value.string ⟨#[]⟩, .slice none 0 0].size = #[Value.string us[i].name, .slice (some ⟨vb, vo, none⟩) (n + 1) vc].size := rfl
      have h163 : #[Value.string us[i].name, .slice (some ⟨vb, vo, none⟩) (n + 1) vc].all (·.oneCell') = true := by simp [Value.oneCell']
      have NC := Aside0.mk (name_c us[i].name hn1 hn2)
      have CC : Aside0 (∀ W, Below w.heap.size w W → Calls Tryz.prog 24 #[.slice (some ⟨vb, vo, none⟩) (n + 1) vc] W fun e w' => e = .returned (.int .i64 0) ∧ Below W.heap.size W w') := ⟨fun W hW => check_c _ us[i].vs W (Reads.below hv hW) hck⟩
      have EG := fun W => run_sgt us[i].name (wasF (us.take i)) hgt W
      have WN : Aside0 (wasF (us.take (i + 1)) = us[i].name) := ⟨wasF_take us i _ hx⟩
      generalize (lastF us[i].vs).f0 = le at *
      generalize us[i].name = nm at *
      generalize wasF (us.take i) = was at *
      clear a0 a1 hcs hc0 hc1' hv hx hck hne hvx hlv av hgt hn
      have hwn : IntKind.i64.wrap (((n + 1 : Nat) : Int) - 1) = (n : Int) := by simp [IntKind.wrap, IntKind.bits, IntKind.signed]; omega
      have hwn2 : IntKind.i64.wrap (n : Int) = (n : Int) := by simp [IntKind.wrap, IntKind.bits, IntKind.signed]; omega
      have hwd : IntKind.i64.wrap (de + 1) = de + 1 := by simp [IntKind.wrap, IntKind.bits, IntKind.signed]; omega
      go_upto_region 8 with (first | (refine wpList_load_mid rfl 63 (.tmp 42) rfl b (off + i * 2) rfl _ _ rl Tryz.underlying63 rfl hi63 ?_) | (refine wpList_allocW rfl 63 rfl _ z63 ?_; intro W3 b3 s3 k3) | (refine wpList_store_row rfl 63 (.tmp 6) (.tmp 43) rfl wr.heap.size _ rfl rfl 63 _ k3 hi63a hz63 h163 ?_))
      have kx := setRow_heap W3 wr.heap.size _ #[Value.string nm, .slice (some ⟨vb, vo, none⟩) (n + 1) vc] 63 (0, 0) k3
      have bx : Below wr.heap.size wr (W3.setRow wr.heap.size #[Value.string nm, .slice (some ⟨vb, vo, none⟩) (n + 1) vc]) := below_setRow b3 _ (Nat.le_refl _) _
      have sx : (W3.setRow wr.heap.size #[Value.string nm, .slice (some ⟨vb, vo, none⟩) (n + 1) vc]).heap.size = wr.heap.size + 1 := by rw [size_setRow]; omega
      generalize W3.setRow wr.heap.size #[Value.string nm, .slice (some ⟨vb, vo, none⟩) (n + 1) vc] = W5 at kx bx sx ⊢
      have q5 : Below w.heap.size w W5 := qr.trans (bx.mono (by omega))
      have hB5 : Below W0.heap.size W0 W5 := HBR.out.trans (bx.mono hW0s)
      have b0 : W5.cell? ⟨wr.heap.size, 0, none⟩ = some (.string nm) := cell_in (l := [.string nm, .slice (some ⟨vb, vo, none⟩) (n + 1) vc]) kx rfl
      have b1 : W5.cell? ⟨wr.heap.size, 1, none⟩ = some (.slice (some ⟨vb, vo, none⟩) (n + 1) vc) := cell_in (l := [.string nm, .slice (some ⟨vb, vo, none⟩) (n + 1) vc]) kx rfl
      obtain ⟨g0, _, _, _, _, hdl5⟩ := FD.out W5 hB5
      have b3' : W5.cell? ⟨vb, vo + n * 3, none⟩ = some (.int .i64 le) := (World.cell?_of_block (w := wr) (bx.block vb (by omega))).trans a3
      have hxl5 : wr.heap.size < W5.heap.size := by omega
      have LB : Aside0 (Below W1.heap.size wr W5) := ⟨bx.mono LL.out.below.size⟩
      obtain ⟨xb, hxb⟩ : ∃ xb, xb = wr.heap.size := ⟨_, rfl⟩
      rw [← hxb] at b0 b1 hxl5 ⊢
      have HXB := Aside0.mk hxb
      have SX := Aside0.mk sx
      have HB5 := Aside0.mk hB5
      have hvl5 : vb < W5.heap.size := by omega
      have CC5 := Aside0.mk (CC.out W5.drew q5.drew)
      clear k3 b3 s3 sx kx bx hi63 hi63a hz63 h163 rl a3 hxb hB5 f0 f1 f2 f3 q5
      go_upto_region 8 with fail
      refine wp_region_held_drew (S := (fun W => (W.cell? ⟨xb, 0, none⟩ = some (.string nm) ∧ W.cell? ⟨xb, 1, none⟩ = some (.slice (some ⟨vb, vo, none⟩) (n + 1) vc)) ∧ W.cell? ⟨w.heap.size, 0, none⟩ = some (.int .i64 de) ∧ W.cell? ⟨vb, vo + n * 3, none⟩ = some (.int .i64 le))) (by kernel_rfl) (by exact ⟨⟨b0, b1⟩, g0, b3'⟩) (fun hHeld => ?_)
      refine wpAnyH_take (i := 0) (oi := _) (v := .bool true) rfl (by kernel_rfl) (by kernel_rfl) (by kernel_rfl) (fun _ _ _ h => h) (Or.inl ⟨by rfl, ?_⟩) (by assumption) ?_
      rotate_left 0
      · (intro w hSw; (try dsimp only at hSw); obtain ⟨⟨s1_, s2_⟩, s3_, s4_⟩ := hSw; go_simp; (try with_reducible rfl))
      (try simp only [uA, uB, uC, uD, uE, uF, uG, uH])
      refine wpAnyH_take (i := 1) (oi := _) (v := .bool true) rfl (by kernel_rfl) (by kernel_rfl) (by kernel_rfl) (fun _ _ _ h => h) (Or.inl ⟨by rfl, ?_⟩) (by assumption) ?_
      rotate_left 0
      · (intro w hSw; (try dsimp only at hSw); obtain ⟨⟨s1_, s2_⟩, s3_, s4_⟩ := hSw; go_simp; (try with_reducible rfl))
      (try simp only [uA, uB, uC, uD, uE, uF, uG, uH])
      refine wpAnyH_take (i := 2) (oi := _) (v := ?_) rfl (by kernel_rfl) (by kernel_rfl) (by kernel_rfl) (fun _ _ _ h => h) (Or.inl ⟨by rfl, ?_⟩) (by assumption) ?_
      rotate_left
      · (intro w hSw; (try dsimp only at hSw); obtain ⟨⟨s1_, s2_⟩, s3_, s4_⟩ := hSw; go_simp; (try with_reducible rfl))
      (try simp only [uA, uB, uC, uD, uE, uF, uG, uH])
      refine wpAnyH_take (i := 3) (oi := _) (v := ?_) rfl (by kernel_rfl) (by kernel_rfl) (by kernel_rfl) (fun _ _ _ h => h) (Or.inl ⟨by rfl, ?_⟩) (by assumption) ?_
      rotate_left
      · (intro w hSw; (try dsimp only at hSw); obtain ⟨⟨s1_, s2_⟩, s3_, s4_⟩ := hSw; go_simp; (try with_reducible rfl))
      (try simp only [uA, uB, uC, uD, uE, uF, uG, uH])
      refine wpAnyH_take (i := 4) (oi := _) (v := ?_) rfl (by kernel_rfl) (by kernel_rfl) (by kernel_rfl) (fun _ _ _ h => h) (Or.inl ⟨by rfl, ?_⟩) (by assumption) ?_
      rotate_left
      · (intro w hSw; (try dsimp only at hSw); obtain ⟨⟨s1_, s2_⟩, s3_, s4_⟩ := hSw; go_simp; (try with_reducible rfl))
      (try simp only [uA, uB, uC, uD, uE, uF, uG, uH])
      refine wpAnyH_take (i := 5) (oi := _) (v := .bool true) rfl (by kernel_rfl) (by kernel_rfl) (by kernel_rfl) (fun _ _ _ h => h) (Or.inl ⟨by rfl, ?_⟩) (by assumption) ?_
      rotate_left 0
      · (intro w hSw; (try dsimp only at hSw); obtain ⟨⟨s1_, s2_⟩, s3_, s4_⟩ := hSw; go_simp; (try with_reducible rfl))
      (try simp only [uA, uB, uC, uD, uE, uF, uG, uH])
      refine wpAnyH_take (i := 6) (oi := _) (v := .bool true) rfl (by kernel_rfl) (by kernel_rfl) (by kernel_rfl) (fun _ _ _ h => h) (Or.inl ⟨by rfl, ?_⟩) (by assumption) ?_
      rotate_left 0
      · (intro w hSw; (try dsimp only at hSw); obtain ⟨⟨s1_, s2_⟩, s3_, s4_⟩ := hSw; go_simp; (try with_reducible rfl))
      (try simp only [uA, uB, uC, uD, uE, uF, uG, uH])
      refine wpAnyH_take (i := 7) (oi := _) (v := .bool true) rfl (by kernel_rfl) (by kernel_rfl) (by kernel_rfl) (fun _ _ _ h => h) (Or.inl ⟨by rfl, ?_⟩) (by assumption) ?_
      rotate_left 0
      · (intro w hSw; (try dsimp only at hSw); obtain ⟨⟨s1_, s2_⟩, s3_, s4_⟩ := hSw; go_simp; (try with_reducible rfl))
      (try simp only [uA, uB, uC, uD, uE, uF, uG, uH])
      refine wpAnyH_take (i := 8) (oi := _) (v := ?_) rfl (by kernel_rfl) (by kernel_rfl) (by kernel_rfl) (fun _ _ _ h => h) (Or.inl ⟨by rfl, ?_⟩) (by assumption) ?_
      rotate_left
      · (intro w hSw; (try dsimp only at hSw); obtain ⟨⟨s1_, s2_⟩, s3_, s4_⟩ := hSw; go_simp; (try with_reducible rfl))
      (try simp only [uA, uB, uC, uD, uE, uF, uG, uH])
      refine wpAnyH_take (i := 9) (oi := _) (v := ?_) rfl (by kernel_rfl) (by kernel_rfl) (by kernel_rfl) (fun _ _ _ h => h) (Or.inl ⟨by rfl, ?_⟩) (by assumption) ?_
      rotate_left
      · (intro w hSw; (try dsimp only at hSw); obtain ⟨⟨s1_, s2_⟩, s3_, s4_⟩ := hSw; go_simp; (try with_reducible rfl))
      (try simp only [uA, uB, uC, uD, uE, uF, uG, uH])
      refine wpAnyH_ready (rs := [10]) (by kernel_rfl) (by decide) (AllReadyH.cons rfl (fun K' hK => ?_) AllReadyH.nil)
      rw [if_pos (by rfl)]
      go_simp
      refine (NC.out _).mono ?_
      rintro e W6 ⟨rfl, hd6⟩
      (try dsimp only)
      have h56 : Below W5.heap.size W5 W6 := (Below.refl _ _).drew.trans hd6.below
      have CC6 := Aside0.mk (CC.out W6 (FD.out W6 (HB5.out.trans (h56.mono HB5.out.size))).2.2.2.2.1)
      refine hK.out _ _ (by exact ⟨⟨(h56.cell (p := ⟨xb, 0, none⟩) hxl5).trans b0, (h56.cell (p := ⟨xb, 1, none⟩) hxl5).trans b1⟩, (h56.cell (p := ⟨w.heap.size, 0, none⟩) hdl5).trans g0, (h56.cell (p := ⟨vb, vo + n * 3, none⟩) hvl5).trans b3'⟩) (fun hHeld => ?_)
      clear hK
      (try simp only [uA, uB, uC, uD, uE, uF, uG, uH])
      refine wpAnyH_take (i := 11) (oi := _) (v := .bool true) rfl (by kernel_rfl) (by kernel_rfl) (by kernel_rfl) (fun _ _ _ h => h) (Or.inl ⟨by rfl, ?_⟩) (by assumption) ?_
      rotate_left 0
      · (intro w hSw; (try dsimp only at hSw); obtain ⟨⟨s1_, s2_⟩, s3_, s4_⟩ := hSw; go_simp; (try with_reducible rfl))
      (try simp only [uA, uB, uC, uD, uE, uF, uG, uH])
      refine wpAnyH_take (i := 12) (oi := _) (v := .bool true) rfl (by kernel_rfl) (by kernel_rfl) (by kernel_rfl) (fun _ _ _ h => h) (Or.inl ⟨by rfl, ?_⟩) (by assumption) ?_
      rotate_left 0
      · (intro w hSw; (try dsimp only at hSw); obtain ⟨⟨s1_, s2_⟩, s3_, s4_⟩ := hSw; go_simp; (try with_reducible rfl))
      (try simp only [uA, uB, uC, uD, uE, uF, uG, uH])
      refine wpAnyH_take (i := 13) (oi := _) (v := ?_) rfl (by kernel_rfl) (by kernel_rfl) (by kernel_rfl) (fun _ _ _ h => h) (Or.inl ⟨by rfl, ?_⟩) (by assumption) ?_
      rotate_left
      · (intro w hSw; (try dsimp only at hSw); obtain ⟨⟨s1_, s2_⟩, s3_, s4_⟩ := hSw; go_simp; (try with_reducible rfl))
      (try simp only [uA, uB, uC, uD, uE, uF, uG, uH])
      refine wpAnyH_take (i := 14) (oi := _) (v := ?_) rfl (by kernel_rfl) (by kernel_rfl) (by kernel_rfl) (fun _ _ _ h => h) (Or.inl ⟨by rfl, ?_⟩) (by assumption) ?_
      rotate_left
      · (intro w hSw; (try dsimp only at hSw); obtain ⟨⟨s1_, s2_⟩, s3_, s4_⟩ := hSw; go_simp; (try with_reducible rfl))
      (try simp only [uA, uB, uC, uD, uE, uF, uG, uH])
      refine wpAnyH_take (i := 15) (oi := _) (v := ?_) rfl (by kernel_rfl) (by kernel_rfl) (by kernel_rfl) (fun _ _ _ h => h) (Or.inl ⟨by rfl, ?_⟩) (by assumption) ?_
      rotate_left
      · (intro w hSw; (try dsimp only at hSw); obtain ⟨⟨s1_, s2_⟩, s3_, s4_⟩ := hSw; go_simp; (try with_reducible rfl))
      (try simp only [uA, uB, uC, uD, uE, uF, uG, uH])
      refine wpAnyH_take (i := 16) (oi := _) (v := .bool true) rfl (by kernel_rfl) (by kernel_rfl) (by kernel_rfl) (fun _ _ _ h => h) (Or.inl ⟨by rfl, ?_⟩) (by assumption) ?_
      rotate_left 0
      · (intro w hSw; (try dsimp only at hSw); obtain ⟨⟨s1_, s2_⟩, s3_, s4_⟩ := hSw; go_simp; (first | done | omega))
      (try simp only [uA, uB, uC, uD, uE, uF, uG, uH])
      refine wpAnyH_take (i := 17) (oi := _) (v := .bool true) rfl (by kernel_rfl) (by kernel_rfl) (by kernel_rfl) (fun _ _ _ h => h) (Or.inl ⟨by rfl, ?_⟩) (by assumption) ?_
      rotate_left 0
      · (intro w hSw; (try dsimp only at hSw); obtain ⟨⟨s1_, s2_⟩, s3_, s4_⟩ := hSw; go_simp; (try with_reducible rfl))
      (try simp only [uA, uB, uC, uD, uE, uF, uG, uH])
      refine wpAnyH_take (i := 18) (oi := _) (v := .bool true) rfl (by kernel_rfl) (by kernel_rfl) (by kernel_rfl) (fun _ _ _ h => h) (Or.inl ⟨by rfl, ?_⟩) (by assumption) ?_
      rotate_left 0
      · (intro w hSw; (try dsimp only at hSw); obtain ⟨⟨s1_, s2_⟩, s3_, s4_⟩ := hSw; go_simp; (try with_reducible rfl))
      (try simp only [uA, uB, uC, uD, uE, uF, uG, uH])
      refine wpAnyH_take (i := 19) (oi := _) (v := ?_) rfl (by kernel_rfl) (by kernel_rfl) (by kernel_rfl) (fun _ _ _ h => h) (Or.inl ⟨by rfl, ?_⟩) (by assumption) ?_
      rotate_left
      · (intro w hSw; (try dsimp only at hSw); obtain ⟨⟨s1_, s2_⟩, s3_, s4_⟩ := hSw; go_simp; (try with_reducible rfl))
      (try simp only [uA, uB, uC, uD, uE, uF, uG, uH])
      refine wpAnyH_take (i := 20) (oi := _) (v := ?_) rfl (by kernel_rfl) (by kernel_rfl) (by kernel_rfl) (fun _ _ _ h => h) (Or.inl ⟨by rfl, ?_⟩) (by assumption) ?_
      rotate_left
      · (intro w hSw; (try dsimp only at hSw); obtain ⟨⟨s1_, s2_⟩, s3_, s4_⟩ := hSw; go_simp; (try with_reducible rfl))
      (try simp only [uA, uB, uC, uD, uE, uF, uG, uH])
      refine wpAnyH_ready (rs := [21]) (by kernel_rfl) (by decide) (AllReadyH.cons rfl (fun K' hK => ?_) AllReadyH.nil)
      rw [if_pos (by rfl)]
      go_simp
      refine (CC6.out).mono ?_
      rintro e W7 ⟨rfl, hd7⟩
      (try dsimp only)
      have h57 : Below W5.heap.size W5 W7 := h56.trans (hd7.mono h56.size)
      refine hK.out _ _ (by exact ⟨⟨(h57.cell (p := ⟨xb, 0, none⟩) hxl5).trans b0, (h57.cell (p := ⟨xb, 1, none⟩) hxl5).trans b1⟩, (h57.cell (p := ⟨w.heap.size, 0, none⟩) hdl5).trans g0, (h57.cell (p := ⟨vb, vo + n * 3, none⟩) hvl5).trans b3'⟩) (fun hHeld => ?_)
      clear hK
      (try simp only [uA, uB, uC, uD, uE, uF, uG, uH])
      refine wpAnyH_take (i := 22) (oi := _) (v := .bool true) rfl (by kernel_rfl) (by kernel_rfl) (by kernel_rfl) (fun _ _ _ h => h) (Or.inl ⟨by rfl, ?_⟩) (by assumption) ?_
      rotate_left 0
      · (intro w hSw; (try dsimp only at hSw); obtain ⟨⟨s1_, s2_⟩, s3_, s4_⟩ := hSw; go_simp; (try with_reducible rfl))
      (try simp only [uA, uB, uC, uD, uE, uF, uG, uH])
      refine wpAnyH_take (i := 23) (oi := _) (v := .bool true) rfl (by kernel_rfl) (by kernel_rfl) (by kernel_rfl) (fun _ _ _ h => h) (Or.inl ⟨by rfl, ?_⟩) (by assumption) ?_
      rotate_left 0
      · (intro w hSw; (try dsimp only at hSw); obtain ⟨⟨s1_, s2_⟩, s3_, s4_⟩ := hSw; go_simp; (try with_reducible rfl))
      (try simp only [uA, uB, uC, uD, uE, uF, uG, uH])
      refine wpAnyH_take (i := 24) (oi := _) (v := .bool true) rfl (by kernel_rfl) (by kernel_rfl) (by kernel_rfl) (fun _ _ _ h => h) (Or.inl ⟨by rfl, ?_⟩) (by assumption) ?_
      rotate_left 0
      · (intro w hSw; (try dsimp only at hSw); obtain ⟨⟨s1_, s2_⟩, s3_, s4_⟩ := hSw; go_simp; (try with_reducible rfl))
      (try simp only [uA, uB, uC, uD, uE, uF, uG, uH])
      refine wpAnyH_take (i := 25) (oi := _) (v := ?_) rfl (by kernel_rfl) (by kernel_rfl) (by kernel_rfl) (fun _ _ _ h => h) (Or.inl ⟨by rfl, ?_⟩) (by assumption) ?_
      rotate_left
      · (intro w hSw; (try dsimp only at hSw); obtain ⟨⟨s1_, s2_⟩, s3_, s4_⟩ := hSw; go_simp; (try with_reducible rfl))
      (try simp only [uA, uB, uC, uD, uE, uF, uG, uH])
      refine wpAnyH_take (i := 26) (oi := _) (v := ?_) rfl (by kernel_rfl) (by kernel_rfl) (by kernel_rfl) (fun _ _ _ h => h) (Or.inl ⟨by rfl, ?_⟩) (by assumption) ?_
      rotate_left
      · (intro w hSw; (try dsimp only at hSw); obtain ⟨⟨s1_, s2_⟩, s3_, s4_⟩ := hSw; go_simp; (try with_reducible rfl))
      (try simp only [uA, uB, uC, uD, uE, uF, uG, uH])
      refine wpAnyH_take (i := 27) (oi := _) (v := ?_) rfl (by kernel_rfl) (by kernel_rfl) (by kernel_rfl) (fun _ _ _ h => h) (Or.inl ⟨by rfl, ?_⟩) (by assumption) ?_
      rotate_left
      · (intro w hSw; (try dsimp only at hSw); obtain ⟨⟨s1_, s2_⟩, s3_, s4_⟩ := hSw; go_simp; (try with_reducible rfl))
      (try simp only [uA, uB, uC, uD, uE, uF, uG, uH])
      refine wpAnyH_take (i := 28) (oi := _) (v := ?_) rfl (by kernel_rfl) (by kernel_rfl) (by kernel_rfl) (fun _ _ _ h => h) (Or.inl ⟨by rfl, ?_⟩) (by assumption) ?_
      rotate_left
      · (intro w hSw; (try dsimp only at hSw); obtain ⟨⟨s1_, s2_⟩, s3_, s4_⟩ := hSw; go_simp; (try with_reducible rfl))
      (try simp only [uA, uB, uC, uD, uE, uF, uG, uH])
      refine wpAnyH_take (i := 29) (oi := _) (v := ?_) rfl (by kernel_rfl) (by kernel_rfl) (by kernel_rfl) (fun _ _ _ h => h) (Or.inl ⟨by rfl, ?_⟩) (by assumption) ?_
      rotate_left
      · (intro w hSw; (try dsimp only at hSw); obtain ⟨⟨s1_, s2_⟩, s3_, s4_⟩ := hSw; go_simp; (try with_reducible rfl))
      (try simp only [uA, uB, uC, uD, uE, uF, uG, uH])
      refine wpAnyH_take (i := 30) (oi := _) (v := .int .i64 (n : Int)) rfl (by kernel_rfl) (by kernel_rfl) (by kernel_rfl) (fun _ _ _ h => h) (Or.inl ⟨by rfl, ?_⟩) (by assumption) ?_
      rotate_left 0
      · (intro w hSw; (try dsimp only at hSw); obtain ⟨⟨s1_, s2_⟩, s3_, s4_⟩ := hSw; go_simp; (first | done | exact hwn | exact hwn2))
      (try simp only [uA, uB, uC, uD, uE, uF, uG, uH])
      refine wpAnyH_take (i := 31) (oi := _) (v := .pointer (some ⟨vb, vo + n * 3, none⟩)) rfl (by kernel_rfl) (by kernel_rfl) (by kernel_rfl) (fun _ _ _ h => h) (Or.inl ⟨by rfl, ?_⟩) (by assumption) ?_
      rotate_left 0
      · (intro w hSw; (try dsimp only at hSw); obtain ⟨⟨s1_, s2_⟩, s3_, s4_⟩ := hSw; go_simp; (first | done | (intro hx; first | done | omega) | omega))
      (try simp only [uA, uB, uC, uD, uE, uF, uG, uH])
      refine wpAnyH_take (i := 32) (oi := _) (v := .pointer (some ⟨vb, vo + n * 3, none⟩)) rfl (by kernel_rfl) (by kernel_rfl) (by kernel_rfl) (fun _ _ _ h => h) (Or.inl ⟨by rfl, ?_⟩) (by assumption) ?_
      rotate_left 0
      · (intro w hSw; (try dsimp only at hSw); obtain ⟨⟨s1_, s2_⟩, s3_, s4_⟩ := hSw; go_simp; (try with_reducible rfl))
      (try simp only [uA, uB, uC, uD, uE, uF, uG, uH])
      refine wpAnyH_take (i := 33) (oi := _) (v := ?_) rfl (by kernel_rfl) (by kernel_rfl) (by kernel_rfl) (fun _ _ _ h => h) (Or.inl ⟨by rfl, ?_⟩) (by assumption) ?_
      rotate_left
      · (intro w hSw; (try dsimp only at hSw); obtain ⟨⟨s1_, s2_⟩, s3_, s4_⟩ := hSw; go_simp; (try with_reducible rfl))
      (try simp only [uA, uB, uC, uD, uE, uF, uG, uH])
      refine wpAnyH_take (i := 34) (oi := _) (v := ?_) rfl (by kernel_rfl) (by kernel_rfl) (by kernel_rfl) (fun _ _ _ h => h) (Or.inl ⟨by rfl, ?_⟩) (by assumption) ?_
      rotate_left
      · (intro w hSw; (try dsimp only at hSw); obtain ⟨⟨s1_, s2_⟩, s3_, s4_⟩ := hSw; go_simp; (try with_reducible rfl))
      (try simp only [uA, uB, uC, uD, uE, uF, uG, uH])
      refine wpAnyH_take (i := 35) (oi := _) (v := ?_) rfl (by kernel_rfl) (by kernel_rfl) (by kernel_rfl) (fun _ _ _ h => h) (Or.inl ⟨by rfl, ?_⟩) (by assumption) ?_
      rotate_left
      · (intro w hSw; (try dsimp only at hSw); obtain ⟨⟨s1_, s2_⟩, s3_, s4_⟩ := hSw; go_simp; (try with_reducible rfl))
      (try simp only [uA, uB, uC, uD, uE, uF, uG, uH])
      refine wpAnyH_take (i := 36) (oi := _) (v := .int .i64 (de + 1)) rfl (by kernel_rfl) (by kernel_rfl) (by kernel_rfl) (fun _ _ _ h => h) (Or.inl ⟨by rfl, ?_⟩) (by assumption) ?_
      rotate_left 0
      · (intro w hSw; (try dsimp only at hSw); obtain ⟨⟨s1_, s2_⟩, s3_, s4_⟩ := hSw; go_simp; (first | done | exact hwd))
      (try simp only [uA, uB, uC, uD, uE, uF, uG, uH])
      refine wpAnyH_take (i := 37) (oi := _) (v := .bool true) rfl (by kernel_rfl) (by kernel_rfl) (by kernel_rfl) (fun _ _ _ h => h) (Or.inl ⟨by rfl, ?_⟩) (by assumption) ?_
      rotate_left 0
      · (intro w hSw; (try dsimp only at hSw); obtain ⟨⟨s1_, s2_⟩, s3_, s4_⟩ := hSw; go_simp; (first | done | omega))
      (try simp only [uA, uB, uC, uD, uE, uF, uG, uH])
      refine wpAnyH_take (i := 38) (oi := _) (v := .bool true) rfl (by kernel_rfl) (by kernel_rfl) (by kernel_rfl) (fun _ _ _ h => h) (Or.inl ⟨by rfl, ?_⟩) (by assumption) ?_
      rotate_left 0
      · (intro w hSw; (try dsimp only at hSw); obtain ⟨⟨s1_, s2_⟩, s3_, s4_⟩ := hSw; go_simp; (try with_reducible rfl))
      (try simp only [uA, uB, uC, uD, uE, uF, uG, uH])
      refine wpAnyH_take (i := 39) (oi := _) (v := .bool true) rfl (by kernel_rfl) (by kernel_rfl) (by kernel_rfl) (fun _ _ _ h => h) (Or.inl ⟨by rfl, ?_⟩) (by assumption) ?_
      rotate_left 0
      · (intro w hSw; (try dsimp only at hSw); obtain ⟨⟨s1_, s2_⟩, s3_, s4_⟩ := hSw; go_simp; (try with_reducible rfl))
      (try simp only [uA, uB, uC, uD, uE, uF, uG, uH])
      refine wpAnyH_done (by kernel_rfl) ?_ _
      have c0 : W7.cell? ⟨xb, 0, none⟩ = some (.string nm) := (h57.cell (p := ⟨xb, 0, none⟩) hxl5).trans b0
      have hwi : IntKind.i64.wrap ((i : Int) + 1) = (i : Int) + 1 := by simp [IntKind.wrap, IntKind.bits, IntKind.signed]; omega
      have q7 : Below W1.heap.size W1 W7 := LL.out.below.trans (LB.out.trans (h57.mono (by have := LB.out.size; have := LL.out.below.size; omega)))
      have Q7 := Aside0.mk q7
      clear b0 b1 g0 b3' h56 h57 hd6 hd7 CC6 CC5 q7
      go_wp2_with fail
      go_roundg (us.length - (i + 1))
      case measure => omega
      case rel => exact ⟨i + 1, Nat.le_refl _, ⟨rfl, by rw [WN.out], by simp, by omega, Q7.out⟩⟩
    · obtain rfl : i = us.length := by omega
      have hnl : ¬ (us.length : Int) < (us.length : Int) := by omega
      have HX1 := Aside0.mk LL.out.below
      clear LL
      generalize wr = wp at *
      go_upto_region 11 with fail
      go_wp2_with fail
      go_loopg [3, 89] hs.length (fun gg s3 s89 wr => ∃ i : Nat, hs.length - i ≤ gg ∧ Aside (L2 hs wp wr s3 s89 i))
      case atStart => exact ⟨0, by omega, ⟨rfl, rfl, by omega, Below.refl _ _⟩⟩
      case round =>
        obtain ⟨i, hgg, L⟩ := hrel
        have LL := Aside0.mk L.out
        obtain rfl := LL.out.ok
        obtain rfl := LL.out.ix
        have hle := LL.out.le
        clear L f0 f1 f2 f3
        have hBq : Below W0.heap.size W0 wr := HBR.out.trans (LL.out.below.mono hW0s)
        obtain ⟨f0, f1, f2, f3, qq, hdlq⟩ := FD.out wr hBq
        have hW0q : W0.heap.size ≤ wr.heap.size := hBq.size
        have HBQ := Aside0.mk hBq
        clear hBq
        by_cases hin : i < hs.length
        · have hi0 : (i : Int) < (hs.length : Int) := by omega
          have hge : (0 : Int) ≤ (i : Int) := by omega
          have hx : hs[i]? = some hs[i] := List.getElem?_eq_getElem hin
          obtain ⟨hhe, hok, hpo, hpv⟩ := HIN.out.at_ i _ hx
          obtain ⟨b, off, rfl, hcs⟩ : ∃ b off, A2 = some ⟨b, off, none⟩ ∧ ∀ j u, (hsC hs)[j]? = some u → w.cell? ⟨b, off + j, none⟩ = some u := by
            rcases HRR.out.2 with ⟨_, h1⟩ | ⟨b, off, _, h1, _, h2⟩
            · omega
            · injection h1 with h1
              exact ⟨b, off, h1, h2⟩
          have okall : ∀ h ∈ hs, HdOk h := fun h hm => by
            obtain ⟨j, hj, rfl⟩ := List.getElem_of_mem hm
            exact (HIN.out.at_ j _ (List.getElem?_eq_getElem hj)).2.1
          have rl : wr.rangeAt b (off + i * 65) (hdcells hs[i]) := fun j u hj => by
            have h1 := hcs _ _ (hsC_at hs okall i _ hx j u hj)
            rw [Nat.add_assoc]
            exact (World.cell?_of_block (w := w) (qq.block b (block_lt_of_cell h1))).trans h1
          have hbl : b < w.heap.size := by
            have hl := hdcells_len hs[i] hok
            exact block_lt_of_cell (hcs _ _ (hsC_at hs okall i _ hx 0 _ (List.getElem?_eq_getElem (by omega))))
          have PV : Aside0 (∀ W, Below w.heap.size w W → Calls Tryz.prog 25 #[.slice (some ⟨b, off, none⟩) i c2] W fun e w' => e = .returned (dv hs[i].prev) ∧ Below W.heap.size W w') := ⟨fun W hW => by
            have h1 := Reads.take (Reads.below HRR.out hW) (Nat.le_of_lt hin)
            rw [hsC_take hs okall] at h1
            have h2 : (hs.take i).length = i := by rw [List.length_take]; omega
            have := prev_c KS (hs.take i) (fun h hm => okall h (List.mem_of_mem_take hm)) (.slice (some ⟨b, off, none⟩) i c2) W (HK.out.below hW hw0) (by rw [h2]; exact h1) (by rw [h2]; omega)
            rw [hpv]
            exact this⟩
          have hcl := hdcells_len hs[i] hok
          have hi36 : (Tryz.prog.info? 36).map (·.size) = some (hdcells hs[i]).length := by rw [hcl]; kernel_rfl
          have hi36a := info36s hs[i] hok
          have hz36 : z36.toArray.size = (hdcells hs[i]).toArray.size := by rw [List.size_toArray, List.size_toArray, hcl]; rfl
          have h136 := hd_one hs[i]
          have HR5 : Aside0 (∀ (W : World) (xb : Nat), W.heap[xb]? = some (.cells (hdcells hs[i]).toArray 36 (0, 0)) → W.cell? ⟨xb, 0, none⟩ = some (.int .i64 ((i : Int) + 1)) ∧ W.rangeAt xb 33 (u8s hs[i].prev)) := ⟨fun W xb h => by
            have h2 := hd_range h hok
            rw [hhe] at h2
            exact ⟨h2.1, h2.2.2⟩⟩
          have hi31p := info31l hs[i].prev hok.prev
          have EQ := fun W => run_eq_dv hs[i].prev hs[i].prev hpo hpo W
          rw [decide_eq_true rfl] at EQ
          have EG := fun x y a b w => run_guard_dv .eql (Or.inl rfl) x y a b w
          unfold dv at PV
          generalize hs[i].prev = hp at *
          generalize hdcells hs[i] = hc at *
          clear hx hhe hok hpo hpv hcs okall hcl
          have hwi : IntKind.i64.wrap ((i : Int) + 1) = (i : Int) + 1 := by simp [IntKind.wrap, IntKind.bits, IntKind.signed]; omega
          have hic : (i : Int) ≤ (c2 : Int) := by omega
          go_upto_region 14 with (first | (refine wpList_load_mid rfl 36 (.tmp 92) rfl b (off + i * 65) rfl _ _ rl Tryz.underlying36 rfl hi36 ?_) | (refine wpList_allocW rfl 36 rfl z36.toArray zero36 ?_; intro W3 b3 s3 k3) | (refine wpList_store_row rfl 36 (.tmp 8) (.tmp 93) rfl wr.heap.size _ rfl rfl 36 _ k3 hi36a hz36 h136 ?_))
          have kx := setRow_heap W3 wr.heap.size _ hc.toArray 36 (0, 0) k3
          have bx : Below wr.heap.size wr (W3.setRow wr.heap.size hc.toArray) := below_setRow b3 _ (Nat.le_refl _) _
          have sx : (W3.setRow wr.heap.size hc.toArray).heap.size = wr.heap.size + 1 := by rw [size_setRow]; omega
          generalize W3.setRow wr.heap.size hc.toArray = W5 at kx bx sx ⊢
          have q5 : Below w.heap.size w W5 := qq.trans (bx.mono (by omega))
          have hB5 : Below W0.heap.size W0 W5 := HBQ.out.trans (bx.mono hW0q)
          obtain ⟨b0, b1⟩ := HR5.out W5 _ kx
          obtain ⟨_, _, g2, _, _, hdl5⟩ := FD.out W5 hB5
          have hxl5 : wr.heap.size < W5.heap.size := by omega
          have LB : Aside0 (Below wp.heap.size wr W5) := ⟨bx.mono LL.out.below.size⟩
          have PV5 := Aside0.mk (PV.out W5.drew q5.drew)
          generalize wr.heap.size = xb at *
          have HB5 := Aside0.mk hB5
          clear k3 b3 s3 sx kx bx hi36 hi36a hz36 h136 rl hB5 f0 f1 f2 f3 q5 PV HR5
          go_upto_region 14 with fail
          refine wp_region_held_drew (S := (fun W => W.cell? ⟨xb, 0, none⟩ = some (.int .i64 ((i : Int) + 1)) ∧ W.rangeAt xb 33 (u8s hp) ∧ W.cell? ⟨w.heap.size, 2, none⟩ = some (.slice (some ⟨b, off, none⟩) hs.length c2))) (by kernel_rfl) (by exact ⟨b0, b1, g2⟩) (fun hHeld => ?_)
          refine wpAnyH_take (i := 0) (oi := _) (v := .bool true) rfl (by kernel_rfl) (by kernel_rfl) (by kernel_rfl) (fun _ _ _ h => h) (Or.inl ⟨by rfl, ?_⟩) (by assumption) ?_
          rotate_left 0
          · (intro w hSw; (try dsimp only at hSw); obtain ⟨s1_, s2_, s3_⟩ := hSw; go_simp; (try with_reducible rfl))
          (try simp only [uA, uB, uC, uD, uE, uF, uG, uH])
          refine wpAnyH_take (i := 1) (oi := _) (v := .bool true) rfl (by kernel_rfl) (by kernel_rfl) (by kernel_rfl) (fun _ _ _ h => h) (Or.inl ⟨by rfl, ?_⟩) (by assumption) ?_
          rotate_left 0
          · (intro w hSw; (try dsimp only at hSw); obtain ⟨s1_, s2_, s3_⟩ := hSw; go_simp; (try with_reducible rfl))
          (try simp only [uA, uB, uC, uD, uE, uF, uG, uH])
          refine wpAnyH_take (i := 2) (oi := _) (v := ?_) rfl (by kernel_rfl) (by kernel_rfl) (by kernel_rfl) (fun _ _ _ h => h) (Or.inl ⟨by rfl, ?_⟩) (by assumption) ?_
          rotate_left
          · (intro w hSw; (try dsimp only at hSw); obtain ⟨s1_, s2_, s3_⟩ := hSw; go_simp; (try with_reducible rfl))
          (try simp only [uA, uB, uC, uD, uE, uF, uG, uH])
          refine wpAnyH_take (i := 3) (oi := _) (v := ?_) rfl (by kernel_rfl) (by kernel_rfl) (by kernel_rfl) (fun _ _ _ h => h) (Or.inl ⟨by rfl, ?_⟩) (by assumption) ?_
          rotate_left
          · (intro w hSw; (try dsimp only at hSw); obtain ⟨s1_, s2_, s3_⟩ := hSw; go_simp; (try with_reducible rfl))
          (try simp only [uA, uB, uC, uD, uE, uF, uG, uH])
          refine wpAnyH_take (i := 4) (oi := _) (v := ?_) rfl (by kernel_rfl) (by kernel_rfl) (by kernel_rfl) (fun _ _ _ h => h) (Or.inl ⟨by rfl, ?_⟩) (by assumption) ?_
          rotate_left
          · (intro w hSw; (try dsimp only at hSw); obtain ⟨s1_, s2_, s3_⟩ := hSw; go_simp; (try with_reducible rfl))
          (try simp only [uA, uB, uC, uD, uE, uF, uG, uH])
          refine wpAnyH_take (i := 5) (oi := _) (v := .int .i64 ((i : Int) + 1)) rfl (by kernel_rfl) (by kernel_rfl) (by kernel_rfl) (fun _ _ _ h => h) (Or.inl ⟨by rfl, ?_⟩) (by assumption) ?_
          rotate_left 0
          · (intro w hSw; (try dsimp only at hSw); obtain ⟨s1_, s2_, s3_⟩ := hSw; go_simp; (first | done | exact hwi))
          (try simp only [uA, uB, uC, uD, uE, uF, uG, uH])
          refine wpAnyH_take (i := 6) (oi := _) (v := .bool true) rfl (by kernel_rfl) (by kernel_rfl) (by kernel_rfl) (fun _ _ _ h => h) (Or.inl ⟨by rfl, ?_⟩) (by assumption) ?_
          rotate_left 0
          · (intro w hSw; (try dsimp only at hSw); obtain ⟨s1_, s2_, s3_⟩ := hSw; go_simp; (try with_reducible rfl))
          (try simp only [uA, uB, uC, uD, uE, uF, uG, uH])
          refine wpAnyH_take (i := 7) (oi := _) (v := .bool true) rfl (by kernel_rfl) (by kernel_rfl) (by kernel_rfl) (fun _ _ _ h => h) (Or.inl ⟨by rfl, ?_⟩) (by assumption) ?_
          rotate_left 0
          · (intro w hSw; (try dsimp only at hSw); obtain ⟨s1_, s2_, s3_⟩ := hSw; go_simp; (try with_reducible rfl))
          (try simp only [uA, uB, uC, uD, uE, uF, uG, uH])
          refine wpAnyH_take (i := 8) (oi := _) (v := .bool true) rfl (by kernel_rfl) (by kernel_rfl) (by kernel_rfl) (fun _ _ _ h => h) (Or.inl ⟨by rfl, ?_⟩) (by assumption) ?_
          rotate_left 0
          · (intro w hSw; (try dsimp only at hSw); obtain ⟨s1_, s2_, s3_⟩ := hSw; go_simp; (try with_reducible rfl))
          (try simp only [uA, uB, uC, uD, uE, uF, uG, uH])
          refine wpAnyH_take (i := 9) (oi := _) (v := ?_) rfl (by kernel_rfl) (by kernel_rfl) (by kernel_rfl) (fun _ _ _ h => h) (Or.inl ⟨by rfl, ?_⟩) (by assumption) ?_
          rotate_left
          · (intro w hSw; (try dsimp only at hSw); obtain ⟨s1_, s2_, s3_⟩ := hSw; go_simp; (try with_reducible rfl))
          (try simp only [uA, uB, uC, uD, uE, uF, uG, uH])
          refine wpAnyH_take (i := 10) (oi := _) (v := _) rfl (by kernel_rfl) (by kernel_rfl) (by kernel_rfl) (fun _ _ _ h => h) (yieldsIf_load_mid (by rfl) 31 (.tmp 103) rfl xb 33 rfl _ _ (fun W hW => hW.2.1) Tryz.underlying31 rfl hi31p) (by assumption) ?_
          (try simp only [uA, uB, uC, uD, uE, uF, uG, uH])
          refine wpAnyH_take (i := 11) (oi := _) (v := ?_) rfl (by kernel_rfl) (by kernel_rfl) (by kernel_rfl) (fun _ _ _ h => h) (Or.inl ⟨by rfl, ?_⟩) (by assumption) ?_
          rotate_left
          · (intro w hSw; (try dsimp only at hSw); obtain ⟨s1_, s2_, s3_⟩ := hSw; go_simp; (try with_reducible rfl))
          (try simp only [uA, uB, uC, uD, uE, uF, uG, uH])
          refine wpAnyH_take (i := 12) (oi := _) (v := ?_) rfl (by kernel_rfl) (by kernel_rfl) (by kernel_rfl) (fun _ _ _ h => h) (Or.inl ⟨by rfl, ?_⟩) (by assumption) ?_
          rotate_left
          · (intro w hSw; (try dsimp only at hSw); obtain ⟨s1_, s2_, s3_⟩ := hSw; go_simp; (try with_reducible rfl))
          (try simp only [uA, uB, uC, uD, uE, uF, uG, uH])
          refine wpAnyH_take (i := 13) (oi := _) (v := ?_) rfl (by kernel_rfl) (by kernel_rfl) (by kernel_rfl) (fun _ _ _ h => h) (Or.inl ⟨by rfl, ?_⟩) (by assumption) ?_
          rotate_left
          · (intro w hSw; (try dsimp only at hSw); obtain ⟨s1_, s2_, s3_⟩ := hSw; go_simp; (try with_reducible rfl))
          (try simp only [uA, uB, uC, uD, uE, uF, uG, uH])
          refine wpAnyH_take (i := 14) (oi := _) (v := .slice (some ⟨b, off, none⟩) i c2) rfl (by kernel_rfl) (by kernel_rfl) (by kernel_rfl) (fun _ _ _ h => h) (Or.inl ⟨by rfl, ?_⟩) (by assumption) ?_
          rotate_left 0
          · (intro w hSw; (try dsimp only at hSw); obtain ⟨s1_, s2_, s3_⟩ := hSw; go_simp; (first | done | (intro hx; first | done | omega) | omega))
          (try simp only [uA, uB, uC, uD, uE, uF, uG, uH])
          refine wpAnyH_ready (rs := [15]) (by kernel_rfl) (by decide) (AllReadyH.cons rfl (fun K' hK => ?_) AllReadyH.nil)
          rw [if_pos (by rfl)]
          go_simp
          refine (PV5.out).mono ?_
          rintro e W7 ⟨rfl, hd7⟩
          (try dsimp only)
          have h57 : Below W5.heap.size W5 W7 := (Below.refl _ _).drew.trans hd7
          refine hK.out _ _ (by exact ⟨(h57.cell (p := ⟨xb, 0, none⟩) hxl5).trans b0, range_same b1 (h57.block xb hxl5), (h57.cell (p := ⟨w.heap.size, 2, none⟩) hdl5).trans g2⟩) (fun hHeld => ?_)
          clear hK
          (try simp only [uA, uB, uC, uD, uE, uF, uG, uH])
          refine wpAnyH_take (i := 16) (oi := _) (v := .bool true) rfl (by kernel_rfl) (by kernel_rfl) (by kernel_rfl) (fun _ _ _ h => h) (Or.inl ⟨by rfl, ?_⟩) (by assumption) ?_
          rotate_left 0
          · (intro w hSw; (try dsimp only at hSw); obtain ⟨s1_, s2_, s3_⟩ := hSw; go_simp; (try with_reducible rfl))
          (try simp only [uA, uB, uC, uD, uE, uF, uG, uH])
          refine wpAnyH_take (i := 17) (oi := _) (v := .bool true) rfl (by kernel_rfl) (by kernel_rfl) (by kernel_rfl) (fun _ _ _ h => h) (Or.inl ⟨by rfl, ?_⟩) (by assumption) ?_
          rotate_left 0
          · (intro w hSw; (try dsimp only at hSw); obtain ⟨s1_, s2_, s3_⟩ := hSw; go_simp; (try with_reducible rfl))
          (try simp only [uA, uB, uC, uD, uE, uF, uG, uH])
          refine wpAnyH_take (i := 18) (oi := _) (v := .bool true) rfl (by kernel_rfl) (by kernel_rfl) (by kernel_rfl) (fun _ _ _ h => h) (Or.inl ⟨by rfl, ?_⟩) (by assumption) ?_
          rotate_left 0
          · (intro w hSw; (try dsimp only at hSw); obtain ⟨s1_, s2_, s3_⟩ := hSw; go_simp; (try with_reducible rfl))
          (try simp only [uA, uB, uC, uD, uE, uF, uG, uH])
          refine wpAnyH_done (by kernel_rfl) ?_ _
          have hwi2 : IntKind.i64.wrap ((i : Int) + 1) = (i : Int) + 1 := hwi
          have q7 : Below wp.heap.size wp W7 := LL.out.below.trans (LB.out.trans (h57.mono (by have := LB.out.size; have := LL.out.below.size; omega)))
          have Q7 := Aside0.mk q7
          clear b0 b1 g2 h57 hd7 PV5 q7
          go_wp2_with fail
          go_roundg (hs.length - (i + 1))
          case measure => omega
          case rel => exact ⟨i + 1, Nat.le_refl _, ⟨rfl, by simp, by omega, Q7.out⟩⟩
        · obtain rfl : i = hs.length := by omega
          have hnl : ¬ (hs.length : Int) < (hs.length : Int) := by omega
          have HX2 := Aside0.mk LL.out.below
          clear LL
          generalize wr = wk at *
          go_upto_region 17 with fail
          go_wp2_with fail
          go_loopg [3, 9, 116] ss.length (fun gg s3 s9 s116 wr => ∃ i : Nat, ss.length - i ≤ gg ∧ Aside (L3 ss wk wr s3 s9 s116 i))
          case atStart => exact ⟨0, by omega, ⟨rfl, rfl, rfl, by omega, Below.refl _ _⟩⟩
          case round =>
            obtain ⟨i, hgg, L⟩ := hrel
            have LL := Aside0.mk L.out
            obtain rfl := LL.out.ok
            obtain rfl := LL.out.last
            obtain rfl := LL.out.ix
            have hle := LL.out.le
            clear L f0 f1 f2 f3
            have hBq : Below W0.heap.size W0 wr := HBQ.out.trans (LL.out.below.mono hW0q)
            obtain ⟨f0, f1, f2, f3, qs, hdls⟩ := FD.out wr hBq
            have hW0s : W0.heap.size ≤ wr.heap.size := hBq.size
            have HBS := Aside0.mk hBq
            clear hBq
            by_cases hin : i < ss.length
            · have hi0 : (i : Int) < (ss.length : Int) := by omega
              have hge : (0 : Int) ≤ (i : Int) := by omega
              have hx : ss[i]? = some ss[i] := List.getElem?_eq_getElem hin
              obtain ⟨h1, h2, h3, h4, h5, h6, h7, h8⟩ := SIN.out.at_ i _ hx
              obtain ⟨b, off, rfl, hcs⟩ : ∃ b off, A3 = some ⟨b, off, none⟩ ∧ ∀ j u, (ssC ss)[j]? = some u → w.cell? ⟨b, off + j, none⟩ = some u := by
                rcases SRR.out.2 with ⟨_, h1⟩ | ⟨b, off, _, h1, _, h2⟩
                · omega
                · injection h1 with h1
                  exact ⟨b, off, h1, h2⟩
              have rl : wr.rangeAt b (off + i * 4) (scells ss[i]) := fun j u hj => by
                have h1 := hcs _ _ (ssC_at ss i _ hx j u hj)
                rw [Nat.add_assoc]
                exact (World.cell?_of_block (w := w) (qs.block b (block_lt_of_cell h1))).trans h1
              have LT : Aside0 (lastC (ss.take (i + 1)) = ss[i].c) := ⟨lastC_take ss i _ hx⟩
              have CA := Aside0.mk (within_c ss[i].s 1 1000000 h3 h4)
              have CB := Aside0.mk (within_c ss[i].code 0 65535 h5 h6)
              have CD := Aside0.mk (within_c ss[i].e 0 de h7 h8)
              generalize lastC (ss.take i) = lc at *
              generalize ss[i] = s at *
              obtain ⟨sc, sq, sd, se⟩ := s
              dsimp only at h1 h2 h3 h4 h5 h6 h7 h8 CA CB CD LT
              clear hx hcs h3 h4 h5 h6 h7 h8
              have hgt : sc > lc := h1
              unfold scells at rl
              dsimp only at rl
              have hi71 : (Tryz.prog.info? 71).map (·.size) = some [Value.int .i64 sc, .int .i64 sq, .int .i64 sd, .int .i64 se].length := by kernel_rfl
              have hi71a : (Tryz.prog.info? 71).map (·.size) = some #[Value.int .i64 sc, .int .i64 sq, .int .i64 sd, .int .i64 se].size := by kernel_rfl
              have hz71 : #[Value.int .i64 0, .int .i64 0, .int .i64 0, .int .i64 0].size = #[Value.int .i64 sc, .int .i64 sq, .int .i64 sd, .int .i64 se].size := rfl
              have h171 : #[Value.int .i64 sc, .int .i64 sq, .int .i64 sd, .int .i64 se].all (·.oneCell') = true := by simp [Value.oneCell']
              go_upto_region 20 with (first | (refine wpList_load_mid rfl 71 (.tmp 118) rfl b (off + i * 4) rfl _ _ rl Tryz.underlying71 rfl hi71 ?_) | (refine wpList_allocW rfl 71 rfl _ z71 ?_; intro W3 b3 s3 k3) | (refine wpList_store_row rfl 71 (.tmp 11) (.tmp 119) rfl wr.heap.size _ rfl rfl 71 _ k3 hi71a hz71 h171 ?_))
              have kx := setRow_heap W3 wr.heap.size _ #[Value.int .i64 sc, .int .i64 sq, .int .i64 sd, .int .i64 se] 71 (0, 0) k3
              have bx : Below wr.heap.size wr (W3.setRow wr.heap.size #[Value.int .i64 sc, .int .i64 sq, .int .i64 sd, .int .i64 se]) := below_setRow b3 _ (Nat.le_refl _) _
              have sx : (W3.setRow wr.heap.size #[Value.int .i64 sc, .int .i64 sq, .int .i64 sd, .int .i64 se]).heap.size = wr.heap.size + 1 := by rw [size_setRow]; omega
              generalize W3.setRow wr.heap.size #[Value.int .i64 sc, .int .i64 sq, .int .i64 sd, .int .i64 se] = W5 at kx bx sx ⊢
              have hB5 : Below W0.heap.size W0 W5 := HBS.out.trans (bx.mono hW0s)
              have FS : Aside0 (∀ W, Below W5.heap.size W5 W → W.cell? ⟨wr.heap.size, 0, none⟩ = some (.int .i64 sc) ∧ W.cell? ⟨wr.heap.size, 1, none⟩ = some (.int .i64 sq) ∧ W.cell? ⟨wr.heap.size, 2, none⟩ = some (.int .i64 sd) ∧ W.cell? ⟨wr.heap.size, 3, none⟩ = some (.int .i64 se) ∧ W.cell? ⟨w.heap.size, 0, none⟩ = some (.int .i64 de)) := ⟨fun W hW => by
                have a := (hW.block wr.heap.size (by omega)).trans kx
                have hsz := hB5.size
                refine ⟨?_, ?_, ?_, ?_, (FD.out W (hB5.trans (hW.mono hsz))).1⟩
                all_goals simp [World.cell?, a]⟩
              have LB : Aside0 (Below wk.heap.size wr W5) := ⟨bx.mono LL.out.below.size⟩
              obtain ⟨m0, m1, m2, m3, m4⟩ := FS.out W5 (Below.refl _ _)
              have hwi : IntKind.i64.wrap ((i : Int) + 1) = (i : Int) + 1 := by simp [IntKind.wrap, IntKind.bits, IntKind.signed]; omega
              clear k3 b3 s3 sx kx bx hi71 hi71a hz71 h171 rl hB5 f0 f1 f2 f3 qs
              go_upto_region 21 with (first | (go_at_call_of 18 (Value.int IntKind.i64 sq); refine (CA.out _).mono ?_; rintro e W6 ⟨rfl, hd6⟩; refine Aside0.out ?_))
              refine ⟨?_⟩
              have h6 : Below W5.heap.size W5 W6 := hd6.below
              clear m0 m1 m2 m3 m4
              obtain ⟨m0, m1, m2, m3, m4⟩ := FS.out W6 h6
              go_upto_region 21 with (first | (go_at_call_of 18 (Value.int IntKind.i64 sd); refine (CB.out _).mono ?_; rintro e W7 ⟨rfl, hd7⟩; refine Aside0.out ?_))
              refine ⟨?_⟩
              have h7 : Below W5.heap.size W5 W7 := h6.trans (hd7.below.mono h6.size)
              clear m0 m1 m2 m3 m4
              obtain ⟨m0, m1, m2, m3, m4⟩ := FS.out W7 h7
              go_upto_region 21 with (first | (go_at_call_of 18 (Value.int IntKind.i64 se); refine (CD.out _).mono ?_; rintro e W8 ⟨rfl, hd8⟩; refine Aside0.out ?_))
              refine ⟨?_⟩
              have h8 : Below W5.heap.size W5 W8 := h7.trans (hd8.below.mono h7.size)
              clear m0 m1 m2 m3 m4
              obtain ⟨m0, m1, m2, m3, m4⟩ := FS.out W8 h8
              have q8 : Below wk.heap.size wk W8 := LL.out.below.trans (LB.out.trans (h8.mono (by have := LB.out.size; have := LL.out.below.size; omega)))
              have Q8 := Aside0.mk q8
              clear h6 h7 h8 hd6 hd7 hd8 q8
              go_wp2_with fail
              go_roundg (ss.length - (i + 1))
              case measure => omega
              case rel => exact ⟨i + 1, Nat.le_refl _, ⟨rfl, by rw [LT.out], by simp, by omega, Q8.out⟩⟩
            · obtain rfl : i = ss.length := by omega
              have hnl : ¬ (ss.length : Int) < (ss.length : Int) := by omega
              clear LL
              go_wp2_with fail
              go_ret
              exact ⟨rfl, qs⟩
end Go.Proofs.YtadkeohohehmcaaGreatDoor.Top
