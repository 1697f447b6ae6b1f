/- directory.Root of what is in form; the law's digest of a head. -/
import Derived.Test.YtadkeohohehmcaaGreatDoorAppB
namespace Go.Proofs.YtadkeohohehmcaaGreatDoor.Top
open Go.RowKit Go.Proofs.YtadkeohohehmcaaGreatDoorW.PrintWords Go.Proofs.YtadkeohohehmcaaGreatDoorW.PrintLast Go.Proofs.YtadkeohohehmcaaGreatDoorW.PrintMore Go.Proofs.YtadkeohohehmcaaGreatDoor.PTop
set_option linter.unusedVariables false
set_option linter.unusedSimpArgs false
attribute [local go_sem] Oper.semAt_some
set_option maxHeartbeats 4000000 in
set_option maxRecDepth 100000 in
theorem digest_c (KS : List Int) (h : Hd) (ok : HdOk h) (w : World) (hk : HKey KS w) : Calls Tryz.prog 7 #[headV h] w fun e w' => e = .returned (.tuple #[dv (hdigF KS h), .int .i64 0]) ∧ Below w.heap.size w w' := by
  have hi36 := info36s h ok
  have h1c := hd_one h
  have hw0 := hk.pos
  have hd := hdigF_len KS h
  have SC : Aside0 (∀ (W : World), Below w.heap.size w W → Calls Tryz.prog 12 #[headV h] W fun e w' => e = .returned (.tuple #[dv (hdigF KS h), .int .i64 0]) ∧ Below W.heap.size W w') := ⟨fun W hW => hdigest_c KS h ok W (hk.below hW hw0)⟩
  have k0 := blk_new w (.cells (hdcells h).toArray 36)
  have b0 : Below w.heap.size w (w.alloc (.cells (hdcells h).toArray 36)) := (Below.refl _ w).alloc (Nat.le_refl _) _
  have s0 : (w.alloc (.cells (hdcells h).toArray 36)).heap.size = w.heap.size + 1 := by simp
  unfold headV at SC ⊢
  generalize hdigF KS h = d at *
  generalize (hdcells h).toArray = cs at *
  clear hk
  have hi31 := info31 d hd
  have hz := zD_size d hd
  have h1d := dig_one d
  go_enter Tryz.func7, Tryz.ntmps7
  go_upto_region 1 with (refine wpList_allocW rfl 31 rfl zD zero31 ?_; intro W1 b1 s1 k1)
  rw [s0] at s1 k1
  have k2 := (b1.block w.heap.size (by omega)).trans k0
  have q1 : Below w.heap.size w W1 := b0.trans (b1.mono (by omega))
  have B1 := Aside0.mk (SC.out W1 q1)
  clear SC b1 b0 s0 k0
  go_wp2_with (first | (refine wpList_load_row rfl 36 (.tmp 1) rfl w.heap.size rfl 36 _ (0, 0) _ k2 Tryz.underlying36 rfl hi36 ?_) | (go_at_call 12; refine B1.out.mono ?_; rintro e W3 ⟨rfl, hb3⟩; refine Aside0.out ?_))
  refine ⟨?_⟩
  have k4 := (hb3.block (w.heap.size + 1) (by omega)).trans k1
  have hs3 := hb3.size
  go_wp2_with (refine wpList_store_row rfl 31 (.tmp 2) (.tmp 6) rfl (w.heap.size + 1) _ rfl rfl 31 _ k4 hi31 hz h1d ?_)
  have hgf := setRow_heap W3 (w.heap.size + 1) _ (d.map (Value.int .u8)).toArray 31 (0, 0) k4
  refine bodyPost_ret (results_ct rfl _ _ (w.heap.size + 1) 31 _ (0, 0) _ rfl hgf Tryz.underlying31 rfl hi31) rfl ?_
  exact ⟨rfl, below_setRow (q1.trans (hb3.mono (by omega))) _ (by omega) _⟩

set_option maxHeartbeats 4000000 in
set_option maxRecDepth 100000 in
theorem sealed_c (KS : List Int) (d : Dir) (x1 x2 x3 : Value) (ep : Int) (w : World) (hk : HKey KS w) (hr : DirR w d x1 x2 x3) (hin : DirIn KS d) (h1 : 1 ≤ ep) (h2 : ep ≤ d.e) :
    Calls Tryz.prog 10 #[.agg #[.int .i64 d.e, x1, x2, x3], .bool true, .int .i64 ep] w fun e w' => e = .returned (.int .i64 0) ∧ Below w.heap.size w w' := by
  have hk0 := hk.pos
  have CC : Aside0 (∀ W, Below w.heap.size w W → Calls Tryz.prog 13 #[.agg #[.int .i64 d.e, x1, x2, x3]] W fun e w' => e = .returned (.int .i64 0) ∧ Below W.heap.size W w') := ⟨fun W hW => check_dir KS d x1 x2 x3 W (hk.below hW hk0) (hr.below hW) hin⟩
  have WC := Aside0.mk (within_c ep 1 d.e h1 h2)
  obtain ⟨A1, c1, e1, _⟩ := Reads.form hr.us.choose_spec.1
  obtain ⟨A2, c2, e2, _⟩ := Reads.form hr.hs
  obtain ⟨A3, c3, e3, _⟩ := Reads.form hr.ss
  subst e1 e2 e3
  generalize hn1 : d.us.length = n1 at *
  generalize hn2 : d.hs.length = n2 at *
  generalize hn3 : d.ss.length = n3 at *
  obtain ⟨W0, hW0⟩ : ∃ W0, w.alloc (.cells #[.int .i64 d.e, .slice A1 n1 c1, .slice A2 n2 c2, .slice A3 n3 c3] 28) = W0 := ⟨_, rfl⟩
  have b0 : Below w.heap.size w W0 := by rw [← hW0]; exact (Below.refl _ w).alloc (Nat.le_refl _) _
  have s0 : W0.heap.size = w.heap.size + 1 := by rw [← hW0]; simp
  have k0 : W0.heap[w.heap.size]? = some (.cells #[.int .i64 d.e, .slice A1 n1 c1, .slice A2 n2 c2, .slice A3 n3 c3] 28 (0, 0)) := by rw [← hW0]; exact blk_new w _
  have HW0 := Aside0.mk hW0
  clear hW0 hk hr hin hn1 hn2 hn3 h1 h2
  have C0 := Aside0.mk (CC.out W0 b0)
  go_enter Tryz.func10, Tryz.ntmps10
  go_upto_region 1 with fail
  rw [HW0.out]
  go_upto_region 2 with (first | (refine wpList_load_row rfl 28 (.tmp 3) rfl w.heap.size rfl 28 _ (0, 0) _ k0 Tryz.underlying28 rfl hi28 ?_) | (go_at_call 13; refine C0.out.mono ?_; rintro e W1 ⟨rfl, hb1⟩; refine Aside0.out ?_))
  refine ⟨?_⟩
  have k1 := (hb1.block w.heap.size (by omega)).trans k0
  have q1 : Below w.heap.size w W1 := b0.trans (hb1.mono (by omega))
  have f0 : W1.cell? ⟨w.heap.size, 0, none⟩ = some (.int .i64 d.e) := by simp [World.cell?, k1]
  clear b0 s0 k0 hb1 k1
  have Q1 := Aside0.mk q1
  go_wp2_with (first | (go_at_call 18; refine (WC.out _).mono ?_; rintro e W2 ⟨rfl, hd2⟩; refine Aside0.out ?_))
  refine ⟨?_⟩
  have q2 : Below w.heap.size w W2 := Q1.out.trans (hd2.below.mono Q1.out.size)
  go_wp2_with fail
  go_ret
  exact ⟨rfl, q2⟩

set_option maxHeartbeats 4000000 in
set_option maxRecDepth 100000 in
theorem rootdir_c (KS : List Int) (d : Dir) (x1 x2 x3 : Value) (ep : Int) (w : World) (hk : HKey KS w) (hr : DirR w d x1 x2 x3) (hin : DirIn KS d) (h1 : 1 ≤ ep) (h2 : ep ≤ d.e) :
    Calls Tryz.prog 6 #[.agg #[.int .i64 d.e, x1, x2, x3], .int .i64 ep] w fun e w' => e = .returned (.tuple #[dv (rootE KS ep d.us), .int .i64 0]) ∧ Below w.heap.size w w' := by
  have hk0 := hk.pos
  have SC : Aside0 (∀ W, Below w.heap.size w W → Calls Tryz.prog 10 #[.agg #[.int .i64 d.e, x1, x2, x3], .bool true, .int .i64 ep] W fun e w' => e = .returned (.int .i64 0) ∧ Below W.heap.size W w') := ⟨fun W hW => sealed_c KS d x1 x2 x3 ep W (hk.below hW hk0) (hr.below hW) hin h1 h2⟩
  have hd := rootE_len KS ep d.us
  have RC : Aside0 (∀ (W : World) wb, Below w.heap.size w W → W.heap[wb]? = some (.cells #[.int .i64 d.e, x1, x2, x3] 47 (0, 0)) → Calls Tryz.prog 11 #[.pointer (some ⟨wb, 0, none⟩), .int .i64 ep] W fun e w' => e = .returned (dv (rootE KS ep d.us)) ∧ Below W.heap.size W w') := ⟨fun W wb hW hb => root_c KS d.us ep wb W (hk.below hW hk0) ⟨_, _, _, _, _, hb, Reads.below hr.us.choose_spec.1 hW, UsR.below hW hr.us.choose_spec.2⟩ (usOk_of hin) (by have := hin.us.len; omega)⟩
  obtain ⟨A1, c1, e1, _⟩ := Reads.form hr.us.choose_spec.1
  obtain ⟨A2, c2, e2, _⟩ := Reads.form hr.hs
  obtain ⟨A3, c3, e3, _⟩ := Reads.form hr.ss
  subst e1 e2 e3
  generalize hn1 : d.us.length = n1 at *
  generalize hn2 : d.hs.length = n2 at *
  generalize hn3 : d.ss.length = n3 at *
  obtain ⟨W0, hW0⟩ : ∃ W0, w.alloc (.cells #[.int .i64 d.e, .slice A1 n1 c1, .slice A2 n2 c2, .slice A3 n3 c3] 28) = W0 := ⟨_, rfl⟩
  have b0 : Below w.heap.size w W0 := by rw [← hW0]; exact (Below.refl _ w).alloc (Nat.le_refl _) _
  have s0 : W0.heap.size = w.heap.size + 1 := by rw [← hW0]; simp
  have k0 : W0.heap[w.heap.size]? = some (.cells #[.int .i64 d.e, .slice A1 n1 c1, .slice A2 n2 c2, .slice A3 n3 c3] 28 (0, 0)) := by rw [← hW0]; exact blk_new w _
  generalize rootE KS ep d.us = r at *
  have hi31 := info31 r hd
  have hz := zD_size r hd
  have h1d := dig_one r
  clear hk hr hin hn1 hn2 hn3 h1 h2
  go_enter Tryz.func6, Tryz.ntmps6
  go_upto_region 1 with (refine wpList_allocW rfl 31 rfl zD zero31 ?_; intro W1 b1 s1 k1; refine Aside0.out ?_)
  refine ⟨?_⟩
  rw [s0] at s1 k1
  have k1p := (b1.block w.heap.size (by omega)).trans k0
  have q1 : Below w.heap.size w W1 := b0.trans (b1.mono (by omega))
  have C1 := Aside0.mk (SC.out W1 q1)
  have HS := Aside0.mk s1
  clear hW0 k0 b0 b1 s0 s1
  go_upto_region 2 with (first | (refine wpList_load_row rfl 28 (.tmp 2) rfl w.heap.size rfl 28 _ (0, 0) _ k1p Tryz.underlying28 rfl hi28 ?_) | (go_at_call 10; refine C1.out.mono ?_; rintro e W2 ⟨rfl, hb2⟩; refine Aside0.out ?_))
  refine ⟨?_⟩
  have hs1 := HS.out
  have k2p := (hb2.block w.heap.size (by omega)).trans k1p
  have k2 := (hb2.block (w.heap.size + 1) (by omega)).trans k1
  have q2 : Below w.heap.size w W2 := q1.trans (hb2.mono (by omega))
  have l2 : w.heap.size + 1 < W2.heap.size := by have := hb2.size; omega
  clear hb2 k1 k1p q1 hs1 C1
  have kA : Aside0 ((W2.alloc (.cells #[.int .i64 d.e, .slice A1 n1 c1, .slice A2 n2 c2, .slice A3 n3 c3] 47)).heap[W2.heap.size]? = some (.cells #[.int .i64 d.e, .slice A1 n1 c1, .slice A2 n2 c2, .slice A3 n3 c3] 47 (0, 0))) := ⟨blk_new W2 _⟩
  have bA : Aside0 (Below W2.heap.size W2 (W2.alloc (.cells #[.int .i64 d.e, .slice A1 n1 c1, .slice A2 n2 c2, .slice A3 n3 c3] 47))) := ⟨(Below.refl _ W2).alloc (Nat.le_refl _) _⟩
  have R2 := Aside0.mk (RC.out _ W2.heap.size (q2.trans (bA.out.mono q2.size)) kA.out)
  have Q2 := Aside0.mk q2
  have L2 := Aside0.mk l2
  clear q2 l2
  go_wp2_with (first | (refine wpList_load_row rfl 28 (.tmp 2) rfl w.heap.size rfl 28 _ (0, 0) _ k2p Tryz.underlying28 rfl hi28 ?_) | (go_at_call 11; refine R2.out.mono ?_; rintro e W3 ⟨rfl, hb3⟩; refine Aside0.out ?_))
  refine ⟨?_⟩
  have b3 : Below W2.heap.size W2 W3 := bA.out.trans (hb3.mono bA.out.size)
  have k3 := (b3.block (w.heap.size + 1) L2.out).trans k2
  have q3 : Below w.heap.size w W3 := Q2.out.trans (b3.mono Q2.out.size)
  clear hb3 k2p
  go_wp2_with (refine wpList_store_row rfl 31 (.tmp 4) (.tmp 18) rfl (w.heap.size + 1) _ rfl rfl 31 _ k3 hi31 hz h1d ?_)
  have hgf := setRow_heap W3 (w.heap.size + 1) _ (r.map (Value.int .u8)).toArray 31 (0, 0) k3
  refine bodyPost_ret (results_ct rfl _ _ (w.heap.size + 1) 31 _ (0, 0) _ rfl hgf Tryz.underlying31 rfl hi31) rfl ?_
  exact ⟨rfl, below_setRow q3 _ (by omega) _⟩
end Go.Proofs.YtadkeohohehmcaaGreatDoor.Top
