/- Several texts in one. -/
import Derived.Test.YtadkeohohehmcaaGreatDoorOcA
section
/- A head's bytes and digest; what a head behind heads has as Prev. -/
namespace Go.Proofs.YtadkeohohehmcaaGreatDoor.Top
open Go.RowKit Go.Proofs.YtadkeohohehmcaaGreatDoorW.PrintWords Go.Proofs.YtadkeohohehmcaaGreatDoorW.PrintLast Go.Proofs.YtadkeohohehmcaaGreatDoorW.PrintMore Go.Proofs.YtadkeohohehmcaaGreatDoor.PTop
set_option linter.unusedVariables false
set_option linter.unusedSimpArgs false
attribute [local go_sem] Oper.semAt_some

/-- A head whose digests have 32 bytes, its number from 1 to 200. -/
structure HdOk (h : Hd) : Prop where
  lo : 1 ≤ h.e
  hi : h.e ≤ 200
  root : h.root.length = 32
  prev : h.prev.length = 32
def headB (h : Hd) : List Int := countF h.e ++ h.root ++ h.prev
def headV (h : Hd) : Value := .agg (hdcells h).toArray
theorem hdcells_len (h : Hd) (ok : HdOk h) : (hdcells h).length = 65 := by unfold hdcells; rw [List.length_cons, List.length_map, List.length_append, ok.root, ok.prev]
theorem hd_range {W : World} {b : Nat} {h : Hd} {fr : Nat × Nat} {t : TypeId} (hb : W.heap[b]? = some (.cells (hdcells h).toArray t fr)) (ok : HdOk h) : W.cell? ⟨b, 0, none⟩ = some (.int .i64 h.e) ∧ W.rangeAt b 1 (u8s h.root) ∧ W.rangeAt b 33 (u8s h.prev) := by
  refine ⟨cell_in hb rfl, fun i u hi => ?_, fun i u hi => ?_⟩
  · refine cell_in hb ?_
    unfold hdcells
    rw [Nat.add_comm 1 i, List.getElem?_cons_succ, List.map_append, List.getElem?_append_left (List.getElem?_eq_some_iff.1 hi).1]
    exact hi
  · refine cell_in hb ?_
    unfold hdcells
    rw [show 33 + i = (32 + i) + 1 by omega, List.getElem?_cons_succ, List.map_append, List.getElem?_append_right (by rw [List.length_map, ok.root]; omega), List.length_map, ok.root, Nat.add_sub_cancel_left]
    exact hi
theorem info36s (h : Hd) (ok : HdOk h) : (Tryz.prog.info? 36).map (·.size) = some (hdcells h).toArray.size := by rw [List.size_toArray, hdcells_len h ok]; kernel_rfl
theorem hd_one (h : Hd) : (hdcells h).toArray.all (·.oneCell') = true := by
  simp [hdcells, Value.oneCell']
theorem range_same {A B : World} {b o : Nat} {l : List Value} (h : A.rangeAt b o l) (hb : B.heap[b]? = A.heap[b]?) : B.rangeAt b o l := fun i u hi => (World.cell?_of_block (w := A) hb).trans (h i u hi)
set_option maxHeartbeats 2000000 in
set_option maxRecDepth 100000 in
theorem hbytes_c (h : Hd) (ok : HdOk h) (w : World) : Calls Tryz.prog 21 #[headV h] w fun e w' => BytesPost (u8s (headB h)) w e w' := by
  have hi36 := info36s h ok
  have h1c := hd_one h
  have k0 := blk_new w (.cells (hdcells h).toArray 36)
  obtain ⟨c0, r1, r2⟩ := hd_range k0 ok
  have h1 : ¬ h.e < 1 := by have := ok.lo; omega
  have h2 : ¬ h.e > 200 := by have := ok.hi; omega
  have hi1 := info31l h.root ok.root
  have hi2 := info31l h.prev ok.prev
  have PC := Aside0.mk (fun W => putcount_c [] none 0 h.e (by have := ok.lo; omega) (by have := ok.hi; omega) W ⟨rfl, Or.inl ⟨rfl, rfl⟩⟩ (fun u hu => by cases hu) (by decide))
  have PD := Aside0.mk (fun xs A c W hr hm => putdigest_c xs A c h.root ok.root W hr hm)
  have PE := Aside0.mk (fun xs A c W hr hm => putdigest_c xs A c h.prev ok.prev W hr hm)
  have HB : Aside0 (headB h = countF h.e ++ h.root ++ h.prev) := ⟨rfl⟩
  have HO := Aside0.mk ok
  unfold headV
  generalize (hdcells h).toArray = cs at *
  go_enter Tryz.func21, Tryz.ntmps21
  have P1 := Aside0.mk (PC.out (w.alloc (.cells cs 36)))
  clear PC
  go_upto_region 4 with (go_at_call 39; refine P1.out.mono ?_; rintro e W1 ⟨v1, rfl, ho1, hb1⟩; refine Aside0.out ?_)
  refine ⟨?_⟩
  have ho1' : W1.drew.ownsRow (w.alloc (.cells cs 36)).heap.size 5 1 v1 (countF h.e).length (u8s (countF h.e)) := by
    have h9 := ho1
    simp only [List.nil_append, List.length_map] at h9
    exact h9
  obtain ⟨A1, c1, rfl, hc1⟩ := (Reads.of_own ho1').form
  have P2 := Aside0.mk (PD.out (countF h.e) A1 c1 W1.drew (Reads.of_own ho1') (by unfold countF; split <;> simp))
  have b1 : Below w.heap.size w W1 := ((Below.refl _ w).alloc (Nat.le_refl _) _).trans (hb1.mono (by simp))
  have hs0 : w.heap.size < W1.heap.size := by have := hb1.size; simp at this; omega
  have q1 : W1.rangeAt w.heap.size 1 (u8s h.root) := range_same r1 (hb1.block _ (by simp))
  have q2 : W1.rangeAt w.heap.size 33 (u8s h.prev) := range_same r2 (hb1.block _ (by simp))
  clear r1 r2 ho1 hb1 P1 PD c0
  go_upto_region 4 with fail
  refine wp_region_held_drew (S := (fun W => W.rangeAt w.heap.size 1 (u8s h.root) ∧ W.rangeAt w.heap.size 33 (u8s h.prev))) (by kernel_rfl) (by exact ⟨q1, q2⟩) (fun hHeld => ?_)
  refine wpAnyH_take (i := 0) (oi := _) (v := ?_) rfl (by kernel_rfl) (by kernel_rfl) (by kernel_rfl) (fun _ _ _ h => h) (Or.inl ⟨by rfl, ?_⟩) (by assumption) ?_
  rotate_left
  · (intro w hSw; (try dsimp only at hSw); go_simp; (try with_reducible rfl))
  (try simp only [uA, uB, uC, uD, uE, uF, uG, uH])
  refine wpAnyH_take (i := 1) (oi := _) (v := ?_) rfl (by kernel_rfl) (by kernel_rfl) (by kernel_rfl) (fun _ _ _ h => h) (Or.inl ⟨by rfl, ?_⟩) (by assumption) ?_
  rotate_left
  · (intro w hSw; (try dsimp only at hSw); go_simp; (try with_reducible rfl))
  (try simp only [uA, uB, uC, uD, uE, uF, uG, uH])
  refine wpAnyH_take (i := 2) (oi := _) (v := _) rfl (by kernel_rfl) (by kernel_rfl) (by kernel_rfl) (fun _ _ _ h => h) (yieldsIf_load_mid (by rfl) 31 (.tmp 21) rfl w.heap.size 1 rfl _ _ (fun W hW => hW.1) Tryz.underlying31 rfl hi1) (by assumption) ?_
  (try simp only [uA, uB, uC, uD, uE, uF, uG, uH])
  refine wpAnyH_take (i := 4) (oi := _) (v := ?_) rfl (by kernel_rfl) (by kernel_rfl) (by kernel_rfl) (fun _ _ _ h => h) (Or.inl ⟨by rfl, ?_⟩) (by assumption) ?_
  rotate_left
  · (intro w hSw; (try dsimp only at hSw); go_simp; (try with_reducible rfl))
  (try simp only [uA, uB, uC, uD, uE, uF, uG, uH])
  refine wpAnyH_take (i := 5) (oi := _) (v := _) rfl (by kernel_rfl) (by kernel_rfl) (by kernel_rfl) (fun _ _ _ h => h) (yieldsIf_load_mid (by rfl) 31 (.tmp 24) rfl w.heap.size 33 rfl _ _ (fun W hW => hW.2) Tryz.underlying31 rfl hi2) (by assumption) ?_
  (try simp only [uA, uB, uC, uD, uE, uF, uG, uH])
  refine wpAnyH_ready (rs := [3]) (by kernel_rfl) (by decide) (AllReadyH.cons rfl (fun K' hK => ?_) AllReadyH.nil)
  rw [if_pos (by rfl)]
  go_simp
  refine (P2.out).mono ?_
  rintro e W2 ⟨v2, rfl, ho2, hb2⟩
  (try dsimp only)
  have hs2 := hb2.size
  have q3 : W2.rangeAt w.heap.size 1 (u8s h.root) := range_same q1 (hb2.block _ hs0)
  have q4 : W2.rangeAt w.heap.size 33 (u8s h.prev) := range_same q2 (hb2.block _ hs0)
  have b2 : Below w.heap.size w W2 := b1.drew.trans (hb2.mono (Nat.le_of_lt hs0))
  have ho2' : W2.ownsRow W1.drew.heap.size 5 1 v2 (countF h.e ++ h.root).length (u8s (countF h.e ++ h.root)) := by
    have h9 := ho2
    simp only [List.length_map] at h9
    exact h9
  have hcl : (countF h.e ++ h.root).length ≤ 1000000 := by
    rw [List.length_append, HO.out.root]
    unfold countF
    split <;> simp
  obtain ⟨xs2, hx2⟩ : ∃ xs2, xs2 = countF h.e ++ h.root := ⟨_, rfl⟩
  rw [← hx2] at ho2' hcl
  obtain ⟨A2, c2, rfl, hc2⟩ := (Reads.of_own ho2').form
  have P3 := Aside0.mk (PE.out xs2 A2 c2 W2 (Reads.of_own ho2') hcl)
  refine hK.out _ _ (by exact ⟨q3, q4⟩) (fun hHeld => ?_)
  clear hK P2 PE ho1' hb2 ho2
  have HX2 := Aside0.mk hx2
  clear hx2
  (try simp only [uA, uB, uC, uD, uE, uF, uG, uH])
  refine wpAnyH_ready (rs := [6]) (by kernel_rfl) (by decide) (AllReadyH.cons rfl (fun K' hK => ?_) AllReadyH.nil)
  rw [if_pos (by rfl)]
  go_simp
  refine (P3.out).mono ?_
  rintro e W3 ⟨v3, rfl, ho3, hb3⟩
  (try dsimp only)
  have hs3 := hb3.size
  have hs2' : W1.heap.size ≤ W2.heap.size := hs2
  refine hK.out _ _ (by exact ⟨range_same q3 (hb3.block _ (by omega)), range_same q4 (hb3.block _ (by omega))⟩) (fun hHeld => ?_)
  clear hK
  (try simp only [uA, uB, uC, uD, uE, uF, uG, uH])
  refine wpAnyH_take (i := 7) (oi := _) (v := ?_) rfl (by kernel_rfl) (by kernel_rfl) (by kernel_rfl) (fun _ _ _ h => h) (Or.inl ⟨by rfl, ?_⟩) (by assumption) ?_
  rotate_left
  · (intro w hSw; (try dsimp only at hSw); go_simp; (try with_reducible rfl))
  (try simp only [uA, uB, uC, uD, uE, uF, uG, uH])
  refine wpAnyH_take (i := 8) (oi := _) (v := ?_) rfl (by kernel_rfl) (by kernel_rfl) (by kernel_rfl) (fun _ _ _ h => h) (Or.inl ⟨by rfl, ?_⟩) (by assumption) ?_
  rotate_left
  · (intro w hSw; (try dsimp only at hSw); go_simp; (try with_reducible rfl))
  (try simp only [uA, uB, uC, uD, uE, uF, uG, uH])
  refine wpAnyH_done (by kernel_rfl) ?_ _
  go_wp2_with fail
  refine bodyPost_ret (results_tmp2 rfl _ _ _) rfl ?_
  rw [HB.out, ← HX2.out]
  exact ⟨v3, rfl, own_weaken ho3 (by omega), b2.trans (hb3.mono (by omega))⟩
end Go.Proofs.YtadkeohohehmcaaGreatDoor.Top
end
section
/- A head's digest; what a head behind heads has as Prev. -/
namespace Go.Proofs.YtadkeohohehmcaaGreatDoor.Top
open Go.RowKit Go.Proofs.YtadkeohohehmcaaGreatDoorW.PrintWords Go.Proofs.YtadkeohohehmcaaGreatDoorW.PrintLast Go.Proofs.YtadkeohohehmcaaGreatDoorW.PrintMore Go.Proofs.YtadkeohohehmcaaGreatDoor.PTop
set_option linter.unusedVariables false
set_option linter.unusedSimpArgs false
attribute [local go_sem] Oper.semAt_some

theorem headB_len (h : Hd) (ok : HdOk h) : (headB h).length ≤ 1000 := by
  unfold headB
  rw [List.length_append, List.length_append, ok.root, ok.prev]
  unfold countF
  split <;> simp
def hdigF (KS : List Int) (h : Hd) : List Int := shaF KS (headB h)
theorem hdigF_len (KS : List Int) (h : Hd) : (hdigF KS h).length = 32 := shaF_len _ _
theorem hdigF_byte (KS : List Int) (h : Hd) (x : Int) (hx : x ∈ hdigF KS h) : 0 ≤ x ∧ x < 256 := shaF_byte KS _ x hx
set_option maxHeartbeats 2000000 in
set_option maxRecDepth 100000 in
theorem hdigest_c (KS : List Int) (h : Hd) (ok : HdOk h) (w : World) (hk : HKey KS w) : Calls Tryz.prog 12 #[headV h] w fun e w' => e = .returned (.tuple #[dv (hdigF KS h), .int .i64 0]) ∧ Below w.heap.size w w' := by
  have hi36 := info36s h ok
  have h1c := hd_one h
  have hw0 := hk.pos
  have hd := hdigF_len KS h
  have BC := Aside0.mk (fun W => hbytes_c h ok W)
  have SC : Aside0 (∀ (v : Value) (W : World), Below w.heap.size w W → Reads W 1 v (headB h).length (u8s (headB h)) → Calls Tryz.prog 22 #[v] W fun e w' => e = .returned (dv (hdigF KS h)) ∧ Below W.heap.size W w') := ⟨fun v W hW hr => sha_reads KS v (headB h) W (hk.below hW hw0) hr (by have := headB_len h ok; omega)⟩
  have k0 := blk_new w (.cells (hdcells h).toArray 36)
  have b0 : Below w.heap.size w (w.alloc (.cells (hdcells h).toArray 36)) := (Below.refl _ w).alloc (Nat.le_refl _) _
  have s0 : (w.alloc (.cells (hdcells h).toArray 36)).heap.size = w.heap.size + 1 := by simp
  unfold headV at BC ⊢
  generalize hdigF KS h = d at *
  generalize headB h = hb at *
  generalize (hdcells h).toArray = cs at *
  clear hk
  have hi31 := info31 d hd
  have hz := zD_size d hd
  have h1d := dig_one d
  go_enter Tryz.func12, Tryz.ntmps12
  go_upto_region 1 with (refine wpList_allocW rfl 31 rfl zD zero31 ?_; intro W1 b1 s1 k1)
  rw [s0] at s1 k1
  have k2 := (b1.block w.heap.size (by omega)).trans k0
  have q1 : Below w.heap.size w W1 := b0.trans (b1.mono (by omega))
  have B1 := Aside0.mk (BC.out W1)
  clear BC b1 b0 s0 k0
  go_upto_region 4 with (first | (refine wpList_load_row rfl 36 (.tmp 1) rfl w.heap.size rfl 36 _ (0, 0) _ k2 Tryz.underlying36 rfl hi36 ?_) | (go_at_call 21; refine B1.out.mono ?_; rintro e W2 ⟨v2, rfl, ho2, hb2⟩; refine Aside0.out ?_))
  refine ⟨?_⟩
  have hul : (u8s hb).length = hb.length := by simp
  rw [hul] at ho2
  have q2 : Below w.heap.size w W2 := q1.trans (hb2.mono (by omega))
  have k3 := (hb2.block (w.heap.size + 1) (by omega)).trans k1
  have S2 := Aside0.mk (SC.out v2 W2 q2 (Reads.of_own ho2))
  have hs2 := hb2.size
  clear SC ho2 k1 k2 B1
  go_upto_region 4 with fail
  go_wp2_with (first | (go_at_call 22; refine S2.out.mono ?_; rintro e W3 ⟨rfl, hb3⟩; refine Aside0.out ?_))
  refine ⟨?_⟩
  have k4 := (hb3.block (w.heap.size + 1) (by omega)).trans k3
  go_wp2_with (refine wpList_store_row rfl 31 (.tmp 2) (.tmp 16) rfl (w.heap.size + 1) _ rfl rfl 31 _ k4 hi31 hz h1d ?_)
  have hgf := setRow_heap W3 (w.heap.size + 1) _ (d.map (Value.int .u8)).toArray 31 (0, 0) k4
  refine bodyPost_ret (results_ct rfl _ _ (w.heap.size + 1) 31 _ (0, 0) _ rfl hgf Tryz.underlying31 rfl hi31) rfl ?_
  exact ⟨rfl, below_setRow (q2.trans (hb3.mono (by omega))) _ (by omega) _⟩
theorem hsC_len : ∀ hs : List Hd, (∀ h ∈ hs, HdOk h) → (hsC hs).length = hs.length * 65
  | [], _ => rfl
  | x :: r, h => by rw [hsC, List.length_append, hsC_len r (fun y hy => h y (List.mem_cons_of_mem _ hy)), hdcells_len x (h x List.mem_cons_self), List.length_cons]; omega
theorem hsC_at : ∀ (hs : List Hd), (∀ h ∈ hs, HdOk h) → ∀ (i : Nat) (x : Hd), hs[i]? = some x → ∀ j u, (hdcells x)[j]? = some u → (hsC hs)[i * 65 + j]? = some u
  | [], _, i, x, h => by simp at h
  | y :: r, _, 0, x, h => fun j u hj => by
    obtain rfl : y = x := by simpa using h
    rw [hsC, Nat.zero_mul, Nat.zero_add, List.getElem?_append_left (List.getElem?_eq_some_iff.1 hj).1]
    exact hj
  | y :: r, hok, i + 1, x, h => fun j u hj => by
    have l := hdcells_len y (hok y List.mem_cons_self)
    rw [hsC, show (i + 1) * 65 + j = (hdcells y).length + (i * 65 + j) by omega, List.getElem?_append_right (by omega), Nat.add_sub_cancel_left]
    exact hsC_at r (fun z hz => hok z (List.mem_cons_of_mem _ hz)) i x (by simpa using h) j u hj
/-- What a head behind these has as Prev. -/
def prevF (KS : List Int) (hs : List Hd) : List Int := (hs.getLast?.map (hdigF KS)).getD (List.replicate 32 0)
theorem prevF_len (KS : List Int) (hs : List Hd) : (prevF KS hs).length = 32 := by
  unfold prevF
  cases hs.getLast? with
  | none => rfl
  | some h => simp only [Option.map_some, Option.getD_some]; exact hdigF_len KS h
theorem prevF_ok (KS : List Int) (hs : List Hd) : PathOk (prevF KS hs) := by
  refine ⟨prevF_len KS hs, fun x hx => ?_⟩
  unfold prevF at hx
  cases h : hs.getLast? with
  | none => rw [h] at hx; simp only [Option.map_none, Option.getD_none] at hx; have := List.eq_of_mem_replicate hx; omega
  | some y => rw [h] at hx; simp only [Option.map_some, Option.getD_some] at hx; exact hdigF_byte KS y x hx
set_option maxHeartbeats 2000000 in
set_option maxRecDepth 100000 in
theorem prev_none (A : Option Addr) (c : Nat) (w : World) : Calls Tryz.prog 25 #[.slice A 0 c] w fun e w' => e = .returned (dv (List.replicate 32 0)) ∧ Below w.heap.size w w' := by
  have hi31 := info31 (List.replicate 32 0) rfl
  have hz := zD_size (List.replicate 32 0) rfl
  have h1c := dig_one (List.replicate 32 0)
  go_enter Tryz.func25, Tryz.ntmps25
  go_upto_region 1 with (refine wpList_allocW rfl 31 rfl zD zero31 ?_; intro W1 b1 s1 k1)
  go_wp2_with (refine wpList_store_row rfl 31 (.tmp 2) (.tmp 8) rfl w.heap.size zD rfl rfl 31 _ k1 hi31 hz h1c ?_)
  have hgf := setRow_heap W1 w.heap.size _ zD 31 (0, 0) k1
  refine bodyPost_ret (results_cell_row rfl _ _ w.heap.size 31 _ (0, 0) _ rfl hgf Tryz.underlying31 rfl hi31) rfl ?_
  exact ⟨rfl, below_setRow b1 _ (Nat.le_refl _) _⟩
set_option maxHeartbeats 2000000 in
set_option maxRecDepth 100000 in
theorem prev_some (KS : List Int) (h : Hd) (ok : HdOk h) (b off n c : Nat) (w : World) (hk : HKey KS w) (hr : w.rangeAt b (off + n * 65) (hdcells h)) (hn : n < 100000) (hnc : n + 1 ≤ c) :
    Calls Tryz.prog 25 #[.slice (some ⟨b, off, none⟩) (n + 1) c] w fun e w' => e = .returned (dv (hdigF KS h)) ∧ Below w.heap.size w w' := by
  have hw0 := hk.pos
  have hd := hdigF_len KS h
  have hbl : b < w.heap.size := block_lt_of_cell (hr 0 _ rfl)
  have DC : Aside0 (∀ W, Below w.heap.size w W → Calls Tryz.prog 12 #[headV h] W fun e w' => e = .returned (.tuple #[dv (hdigF KS h), .int .i64 0]) ∧ Below W.heap.size W w') := ⟨fun W hW => hdigest_c KS h ok W (hk.below hW hw0)⟩
  have hi36 : (Tryz.prog.info? 36).map (·.size) = some (hdcells h).length := by rw [hdcells_len h ok]; kernel_rfl
  unfold headV at DC
  generalize hdigF KS h = d at *
  generalize hdcells h = hc at *
  clear hk
  have hi31 := info31 d hd
  have hi31l := info31l d hd
  have hz := zD_size d hd
  have h1d := dig_one d
  have hne : ¬ (((n + 1 : Nat) : Int) = 0) := by omega
  have hw : IntKind.i64.wrap (((n + 1 : Nat) : Int) - 1) = (n : Int) := by simp [IntKind.wrap, IntKind.bits, IntKind.signed]; omega
  have hlt : (n : Int) < ((n + 1 : Nat) : Int) := by omega
  have hge : (0 : Int) ≤ (n : Int) := by omega
  go_enter Tryz.func25, Tryz.ntmps25
  go_upto_region 1 with (refine wpList_allocW rfl 31 rfl zD zero31 ?_; intro W1 b1 s1 k1)
  have RL : W1.rangeAt b (off + n * 65) hc := range_same hr (b1.block b hbl)
  have D1 := Aside0.mk (DC.out W1 b1)
  clear DC hr
  have s1' : W1.heap.size = w.heap.size + 1 := s1
  go_upto_region 4 with (first | (refine wpList_load_mid rfl 36 (.tmp 14) rfl b (off + n * 65) rfl _ _ RL Tryz.underlying36 rfl hi36 ?_) | (go_at_call 12; refine D1.out.mono ?_; rintro e W2 ⟨rfl, hb2⟩; refine Aside0.out ?_))
  refine ⟨?_⟩
  have k2 := (hb2.block w.heap.size (by omega)).trans k1
  have q2 : Below w.heap.size w W2 := b1.trans (hb2.mono (by omega))
  clear D1 RL hb2
  go_upto_region 4 with (first | (refine wpList_allocW rfl 31 rfl zD zero31 ?_; intro W3 b3 s3 k3) | (refine wpList_store_row rfl 31 (.tmp 3) (.tmp 17) rfl W2.heap.size _ rfl rfl 31 _ k3 hi31 hz h1d ?_))
  have k4 := setRow_heap W3 W2.heap.size _ (d.map (Value.int .u8)).toArray 31 (0, 0) k3
  have hs2 := q2.size
  have k5 := (setRow_other W3 W2.heap.size w.heap.size (d.map (Value.int .u8)).toArray (by have := (Array.getElem?_eq_some_iff.1 k2).1; omega)).trans ((b3.block _ (Array.getElem?_eq_some_iff.1 k2).1).trans k2)
  have q4 : Below w.heap.size w (W3.setRow W2.heap.size (d.map (Value.int .u8)).toArray) := below_setRow (q2.trans (b3.mono hs2)) _ hs2 _
  generalize W3.setRow W2.heap.size (d.map (Value.int .u8)).toArray = W4 at k4 k5 q4 ⊢
  go_wp2_with (first | (refine wpList_load_row rfl 31 (.tmp 3) rfl W2.heap.size rfl 31 _ (0, 0) _ k4 Tryz.underlying31 rfl hi31 ?_) | (refine wpList_store_row rfl 31 (.tmp 2) (.tmp 19) rfl w.heap.size _ rfl rfl 31 _ k5 hi31 hz h1d ?_))
  have hgf := setRow_heap W4 w.heap.size _ (d.map (Value.int .u8)).toArray 31 (0, 0) k5
  refine bodyPost_ret (results_cell_row rfl _ _ w.heap.size 31 _ (0, 0) _ rfl hgf Tryz.underlying31 rfl hi31) rfl ?_
  exact ⟨rfl, below_setRow q4 _ (Nat.le_refl _) _⟩
theorem prev_c (KS : List Int) (hs : List Hd) (ok : ∀ h ∈ hs, HdOk h) (v : Value) (w : World) (hk : HKey KS w) (hr : Reads w 65 v hs.length (hsC hs)) (hm : hs.length ≤ 10000) :
    Calls Tryz.prog 25 #[v] w fun e w' => e = .returned (dv (prevF KS hs)) ∧ Below w.heap.size w w' := by
  obtain ⟨A, c, rfl, hc⟩ := hr.form
  by_cases h0 : hs = []
  · subst h0
    exact prev_none A c w
  · have hp : 0 < hs.length := List.length_pos_iff.2 h0
    obtain ⟨n, hn⟩ : ∃ n, hs.length = n + 1 := ⟨hs.length - 1, by omega⟩
    rcases hr.2 with ⟨h, h1⟩ | ⟨b, off, c', h, hc', hx⟩
    · omega
    · injection h with h _ _
      subst h
      have hl : n < hs.length := by omega
      have hg : hs.getLast? = some hs[n] := by rw [List.getLast?_eq_getElem?, hn, Nat.add_sub_cancel, List.getElem?_eq_getElem hl]
      have e : prevF KS hs = hdigF KS hs[n] := by unfold prevF; rw [hg]; simp only [Option.map_some, Option.getD_some]
      rw [e, hn]
      refine prev_some KS hs[n] (ok _ (List.getElem_mem _)) b off n c w hk (fun j u hj => ?_) (by omega) (by omega)
      rw [Nat.add_assoc]
      exact hx _ _ (hsC_at hs ok n hs[n] (List.getElem?_eq_getElem hl) j u hj)
end Go.Proofs.YtadkeohohehmcaaGreatDoor.Top
end
section
/- Versions' bytes and digest. -/
namespace Go.Proofs.YtadkeohohehmcaaGreatDoor.Top
open Go.RowKit Go.Proofs.YtadkeohohehmcaaGreatDoorW.PrintWords Go.Proofs.YtadkeohohehmcaaGreatDoorW.PrintLast Go.Proofs.YtadkeohohehmcaaGreatDoorW.PrintMore Go.Proofs.YtadkeohohehmcaaGreatDoor.PTop
set_option linter.unusedVariables false
set_option linter.unusedSimpArgs false
attribute [local go_sem] Oper.semAt_some

def verOne (v : S68) : List Int := countF v.f0 ++ countF v.f1 ++ strF v.f2
def verAll : List S68 → List Int
  | [] => []
  | v :: r => verOne v ++ verAll r
theorem verAll_append : ∀ a b : List S68, verAll (a ++ b) = verAll a ++ verAll b
  | [], b => rfl
  | x :: r, b => by rw [List.cons_append, verAll, verAll, verAll_append r b, List.append_assoc]
def verB (vs : List S68) : List Int := countF vs.length ++ verAll vs
theorem countF_len (x : Int) : (countF x).length ≤ 2 := by unfold countF; split <;> simp
/-- What a version in form is. -/
structure VerIn (v : S68) : Prop where
  e0 : 0 ≤ v.f0
  e1 : v.f0 ≤ 200
  k0 : 0 ≤ v.f1
  k1 : v.f1 ≤ 3
  key : v.f2.size ≤ 64
theorem mayB_in {v : S68} (h : mayB v = true) : VerIn v := by
  have h2 : (decide (1 ≤ v.f0) && decide (v.f0 ≤ 200) && keyB v) = true := h
  rw [Bool.and_eq_true, Bool.and_eq_true, decide_eq_true_eq, decide_eq_true_eq] at h2
  obtain ⟨⟨a, b⟩, c⟩ := h2
  unfold keyB at c
  rw [Bool.or_eq_true, Bool.and_eq_true, Bool.and_eq_true, Bool.and_eq_true, Bool.or_eq_true, beq_iff_eq, beq_iff_eq, beq_iff_eq, decide_eq_true_eq, decide_eq_true_eq] at c
  rcases c with ⟨⟨c1, c2⟩, c3⟩ | ⟨c1, c2⟩
  · exact ⟨by omega, b, by omega, by omega, c3⟩
  · exact ⟨by omega, b, by omega, by omega, by omega⟩
theorem CheckOk.in_ {vs : List S68} (h : CheckOk vs) : ∀ v ∈ vs, VerIn v := fun v hv => by
  obtain ⟨i, hi, rfl⟩ := List.getElem_of_mem hv
  exact mayB_in (h.2 i _ (List.getElem?_eq_getElem hi)).1
theorem verOne_len {v : S68} (h : VerIn v) : (verOne v).length ≤ 70 := by
  unfold verOne strF
  have a := countF_len v.f0
  have b := countF_len v.f1
  have c := countF_len (v.f2.size : Int)
  have d := sbs_len v.f2
  have e := h.key
  simp only [List.length_append]
  omega
theorem verAll_len : ∀ vs : List S68, (∀ v ∈ vs, VerIn v) → (verAll vs).length ≤ 70 * vs.length
  | [], _ => by simp [verAll]
  | x :: r, h => by
    have a := verOne_len (h x List.mem_cons_self)
    have b := verAll_len r (fun v hv => h v (List.mem_cons_of_mem _ hv))
    rw [verAll, List.length_append, List.length_cons]
    omega
def zV : Array Value := #[.int .i64 0, .int .i64 0, .string ⟨#[]⟩]
theorem zero68 : (Tryz.prog.info? 68).map (·.zero) = some (some (.agg zV)) := by kernel_rfl
theorem info68s (x : S68) : (Tryz.prog.info? 68).map (·.size) = some (vcells x).length := by rw [show (vcells x).length = 3 from rfl]; kernel_rfl
theorem info68a (x : S68) : (Tryz.prog.info? 68).map (·.size) = some (vcells x).toArray.size := by rw [show (vcells x).toArray.size = 3 from rfl]; kernel_rfl
theorem Vs.range {w : World} {b off n c : Nat} {vs : List S68} (h : Vs w (.slice (some ⟨b, off, none⟩) n c) vs) (i : Nat) (x : S68) (hi : vs[i]? = some x) : w.rangeAt b (off + i * 3) (vcells x) := fun j u hj => by
  rcases h.2 with ⟨h1, _⟩ | ⟨b', off', c', h1, _, hx⟩
  · injection h1 with h1; cases h1
  · injection h1 with h1
    injection h1 with h1
    injection h1 with h1 h2
    subst h1
    subst h2
    rw [Nat.add_assoc]
    refine hx _ _ ?_
    obtain ⟨a0, a1, a2⟩ := vsC_at vs i x hi
    have hl : j < 3 := (List.getElem?_eq_some_iff.1 hj).1
    match j, hl with
    | 0, _ => rw [← hj]; exact a0
    | 1, _ => rw [← hj]; exact a1
    | 2, _ => rw [← hj]; exact a2
theorem LaidP.move {A B : World} {lb n0 : Nat} {xs : List Int} (h : LaidP A lb n0 xs) (hb : Below A.heap.size A B) : LaidP B lb n0 xs := by
  obtain ⟨v, h1, h2⟩ := h
  exact ⟨v, (hb.block _ (Array.getElem?_eq_some_iff.1 h1).1).trans h1, own_move h2 fun k e => hb.block k (h2.lt k e).2⟩
theorem Tou.below {A B : World} {g n0 : Nat} (h : Tou [g] A B) (hg : n0 ≤ g) (hn : n0 ≤ A.heap.size) : Below n0 A B :=
  ⟨h.os, h.tape, h.output, h.size, fun k hk => h.block k (fun hm => by rw [List.mem_singleton] at hm; omega) (by omega)⟩
def PutPost (xs : List Int) (w : World) (e : Ending) (w' : World) : Prop := ∃ v', e = .returned (.tuple #[v', .int .i64 0]) ∧ w'.ownsRow w.heap.size 5 1 v' xs.length (u8s xs) ∧ Below w.heap.size w w'
set_option maxHeartbeats 4000000 in
set_option maxRecDepth 100000 in
theorem verput_c (v : Value) (vs : List S68) (w : World) (h : Vs w v vs) (hc : CheckOk vs) : Calls Tryz.prog 63 #[v] w fun e w' => PutPost (verB vs) w e w' := by
  have h16 := hc.1
  have CK := Aside0.mk (check_c v vs w h hc)
  obtain ⟨A, c, rfl, hlc⟩ := Reads.form h
  have HV := Aside0.mk h
  have HI := Aside0.mk hc.in_
  have HCC : Aside0 (∀ xs x lb n0 W, 0 ≤ x → x < 16384 → LaidP W lb n0 xs → n0 ≤ W.heap.size → xs.length ≤ 1000000 → Calls Tryz.prog 84 #[.pointer (some ⟨lb, 0, none⟩), .int .i64 x] W fun e w' => e = .returned (.tuple #[]) ∧ LaidP w' lb n0 (xs ++ countF x) ∧ Tou [lb] W w') := ⟨fun xs x lb n0 W h0 h1 hl hn hm => count_c xs x h0 h1 lb n0 W hl hn hm⟩
  clear h hc
  go_enter Tryz.func63, Tryz.ntmps63
  go_upto_region 4 with (go_at_call 24; refine CK.out.mono ?_; rintro e W1 ⟨rfl, hb1⟩)
  have B1 := Aside0.mk hb1
  clear CK hb1
  go_upto_region 6 with fail
  obtain ⟨W2, hW2⟩ : ∃ W2, W1.alloc (.cells #[.slice none 0 0] 158) = W2 := ⟨_, rfl⟩
  have L2 : LaidP W2 W1.heap.size w.heap.size [] := by rw [← hW2]; exact ⟨_, blk_new W1 _, World.ownsRow_nil _ _ _ _⟩
  have s2 : W2.heap.size = W1.heap.size + 1 := by rw [← hW2]; simp
  have hs1 := B1.out.size
  have q2 : Below w.heap.size w W2 := by rw [← hW2]; exact B1.out.alloc hs1 _
  rw [hW2]
  have C1 := Aside0.mk (HCC.out [] (vs.length : Int) W1.heap.size w.heap.size W2 (by omega) (by omega) L2 (by omega) (by decide))
  have S2 := Aside0.mk s2
  clear hW2 L2 B1 s2
  have hlb : w.heap.size ≤ W1.heap.size := hs1
  generalize W1.heap.size = lb at *
  go_upto_region 7 with (go_at_call 84; refine C1.out.mono ?_; rintro e W3 ⟨rfl, hl3, ht3⟩)
  have q3 : Below w.heap.size w W3 := q2.trans (ht3.below hlb (by have := q2.size; omega))
  have L3 := Aside0.mk hl3
  have Q3 := Aside0.mk q3
  clear q2 C1 hl3 ht3 q3
  go_wp2_with fail
  go_loopg [24] vs.length (fun gg s24 wr => ∃ i : Nat, vs.length - i ≤ gg ∧ i ≤ vs.length ∧ s24 = .int .i64 (i : Int) ∧ Aside (LaidP wr lb w.heap.size (countF vs.length ++ verAll (vs.take i))) ∧ Aside (Below w.heap.size w wr))
  case atStart => exact ⟨0, by omega, by omega, rfl, by have h9 := L3.out; simp only [List.nil_append] at h9; simp only [List.take_zero, verAll, List.append_nil]; exact h9, Q3.out⟩
  case round =>
    obtain ⟨i, hgg, hle, rfl, L, B⟩ := hrel
    have LL := Aside0.mk L.out
    have BB := Aside0.mk B.out
    clear L B L3 Q3
    by_cases hin : i < vs.length
    · have hi0 : (i : Int) < (vs.length : Int) := by omega
      obtain ⟨b, off, rfl⟩ : ∃ b off, A = some ⟨b, off, none⟩ := by
        rcases HV.out.2 with ⟨_, h1⟩ | ⟨b, off, _, h1, _⟩
        · omega
        · injection h1 with h1
          exact ⟨b, off, h1⟩
      have hx : vs[i]? = some vs[i] := List.getElem?_eq_getElem hin
      have RL := (show Vs wr _ vs from HV.out.below BB.out).range i _ hx
      have VI := HI.out vs[i] (List.getElem_mem hin)
      have TK : Aside0 (verAll (vs.take (i + 1)) = verAll (vs.take i) ++ verOne vs[i]) := ⟨by rw [List.take_add_one, hx, verAll_append]; simp [verAll]⟩
      have hln : (countF vs.length ++ verAll (vs.take i)).length ≤ 2000 := by
        have a := countF_len (vs.length : Int)
        have b := verAll_len (vs.take i) (fun v hv => HI.out v (List.mem_of_mem_take hv))
        rw [List.length_take] at b
        rw [List.length_append]
        omega
      generalize vs[i] = x at *
      have hi68 := info68s x
      have hi68a := info68a x
      obtain ⟨x0, x1, x2⟩ := x
      have ve := VI.e0
      have ve1 := VI.e1
      have vk := VI.k0
      have vk1 := VI.k1
      have vky := VI.key
      dsimp only at ve ve1 vk vk1 vky
      have hz68 : zV.size = (vcells ⟨x0, x1, x2⟩).toArray.size := rfl
      have h1c : (vcells ⟨x0, x1, x2⟩).toArray.all (·.oneCell') = true := by simp [vcells, Value.oneCell']
      go_upto_region 10 with (first | (refine wpList_load_mid rfl 68 (.tmp 26) rfl b (off + i * 3) rfl _ _ RL Tryz.underlying68 rfl hi68 ?_) | (refine wpList_allocW rfl 68 rfl zV zero68 ?_; intro W4 b4 s4 k4) | (refine wpList_store_row rfl 68 (.tmp 8) (.tmp 27) rfl wr.heap.size _ rfl rfl 68 _ k4 hi68a hz68 h1c ?_))
      have kx := setRow_heap W4 wr.heap.size _ (vcells ⟨x0, x1, x2⟩).toArray 68 (0, 0) k4
      have bx : Below wr.heap.size wr (W4.setRow wr.heap.size (vcells ⟨x0, x1, x2⟩).toArray) := below_setRow b4 _ (Nat.le_refl _) _
      have sx : (W4.setRow wr.heap.size (vcells ⟨x0, x1, x2⟩).toArray).heap.size = wr.heap.size + 1 := by rw [size_setRow]; omega
      generalize W4.setRow wr.heap.size (vcells ⟨x0, x1, x2⟩).toArray = W5 at kx bx sx ⊢
      have hwr := BB.out.size
      have L5 := LL.out.move bx
      have lbl : lb < wr.heap.size := by
        obtain ⟨_, hv, _⟩ := LL.out
        exact (Array.getElem?_eq_some_iff.1 hv).1
      have B5 : Below w.heap.size w W5 := BB.out.trans (bx.mono hwr)
      generalize hxb : wr.heap.size = xb at *
      have e0 : W5.cell? ⟨xb, 0, none⟩ = some (.int .i64 x0) := cell_in (l := vcells ⟨x0, x1, x2⟩) kx rfl
      have C5 := Aside0.mk (HCC.out _ x0 lb w.heap.size W5 ve (by omega) L5 (by omega) (by omega))
      have KX := Aside0.mk kx
      have BB5 := Aside0.mk B5
      have SX := Aside0.mk sx
      clear b4 s4 k4 kx bx B5 L5 LL BB RL hi68 hi68a hz68 h1c sx
      obtain ⟨xs0, hxs0⟩ : ∃ xs0, countF vs.length ++ verAll (vs.take i) = xs0 := ⟨_, rfl⟩
      rw [hxs0] at C5 hln
      have HX0 := Aside0.mk hxs0
      clear hxs0
      go_upto_region 11 with (go_at_call 84; refine C5.out.mono ?_; rintro e W6 ⟨rfl, hl6, ht6⟩)
      have kx6 := (ht6.block xb (fun h => by rw [List.mem_singleton] at h; omega) (by rw [SX.out]; omega)).trans KX.out
      have B6 := BB5.out.trans (ht6.below hlb (by rw [SX.out]; omega))
      have hs6 := ht6.size
      rw [SX.out] at hs6
      have e1 : W6.cell? ⟨xb, 1, none⟩ = some (.int .i64 x1) := cell_in (l := vcells ⟨x0, x1, x2⟩) kx6 rfl
      have hl0 := countF_len x0
      have hl1 := countF_len x1
      have C6 := Aside0.mk (HCC.out _ x1 lb w.heap.size W6 vk (by omega) hl6 (by omega) (by rw [List.length_append]; omega))
      have KX6 := Aside0.mk kx6
      have BB6 := Aside0.mk B6
      clear C5 KX BB5 SX e0 hl6 ht6 kx6 B6
      go_upto_region 12 with (go_at_call 84; refine C6.out.mono ?_; rintro e W7 ⟨rfl, hl7, ht7⟩)
      have kx7 := (ht7.block xb (fun h => by rw [List.mem_singleton] at h; omega) (by omega)).trans KX6.out
      have B7 := BB6.out.trans (ht7.below hlb (by omega))
      have hs7 := ht7.size
      obtain ⟨v7, hv7, ho7⟩ := hl7
      have hxl : (xs0 ++ countF x0 ++ countF x1).length ≤ 2004 := by rw [List.length_append, List.length_append]; omega
      obtain ⟨xs, hxs⟩ : ∃ xs, xs = xs0 ++ countF x0 ++ countF x1 := ⟨_, rfl⟩
      rw [← hxs] at ho7 hxl
      obtain ⟨A6, c6, rfl, hc6⟩ := (Reads.of_own ho7).form
      have ho7' : W7.drew.ownsRow w.heap.size 5 1 (.slice A6 xs.length c6) xs.length (u8s xs) := ho7
      obtain ⟨zs, hzs⟩ : ∃ zs, zs = xs ++ strF x2 := ⟨_, rfl⟩
      have PB := Aside0.mk (putbytes_c xs A6 c6 x2 (by omega) W7.drew (Reads.of_own ho7') (by omega))
      rw [← hzs] at PB
      have HZS := Aside0.mk hzs
      clear hzs
      have c1 : W7.cell? ⟨lb, 0, none⟩ = some (.slice A6 xs.length c6) := by simp [World.cell?, hv7]
      have c2 : W7.cell? ⟨xb, 2, none⟩ = some (.string x2) := cell_in (l := vcells ⟨x0, x1, x2⟩) kx7 rfl
      have HXS := Aside0.mk hxs
      have HV7 := Aside0.mk hv7
      have BB7 := Aside0.mk B7
      clear C6 KX6 BB6 e1 hxs ho7 hv7 B7 ht7 kx7 ho7'
      go_upto_region 12 with fail
      refine wp_region_held_drew (S := (fun W => W.cell? ⟨xb, 2, none⟩ = some (.string x2))) (by kernel_rfl) (by exact c2) (fun hHeld => ?_)
      refine wpAnyH_take (i := 0) (oi := _) (v := ?_) rfl (by kernel_rfl) (by kernel_rfl) (by kernel_rfl) (fun _ _ _ h => h) (Or.inl ⟨by rfl, ?_⟩) (by assumption) ?_
      rotate_left
      · (intro w hSw; (try dsimp only at hSw); go_simp; (try with_reducible rfl))
      (try simp only [uA, uB, uC, uD, uE, uF, uG, uH])
      refine wpAnyH_take (i := 1) (oi := _) (v := ?_) rfl (by kernel_rfl) (by kernel_rfl) (by kernel_rfl) (fun _ _ _ h => h) (Or.inl ⟨by rfl, ?_⟩) (by assumption) ?_
      rotate_left
      · (intro w hSw; (try dsimp only at hSw); go_simp; (try with_reducible rfl))
      (try simp only [uA, uB, uC, uD, uE, uF, uG, uH])
      refine wpAnyH_take (i := 2) (oi := _) (v := ?_) rfl (by kernel_rfl) (by kernel_rfl) (by kernel_rfl) (fun _ _ _ h => h) (Or.inl ⟨by rfl, ?_⟩) (by assumption) ?_
      rotate_left
      · (intro w hSw; (try dsimp only at hSw); go_simp; (try with_reducible rfl))
      (try simp only [uA, uB, uC, uD, uE, uF, uG, uH])
      refine wpAnyH_take (i := 3) (oi := _) (v := ?_) rfl (by kernel_rfl) (by kernel_rfl) (by kernel_rfl) (fun _ _ _ h => h) (Or.inl ⟨by rfl, ?_⟩) (by assumption) ?_
      rotate_left
      · (intro w hSw; (try dsimp only at hSw); go_simp; (try with_reducible rfl))
      (try simp only [uA, uB, uC, uD, uE, uF, uG, uH])
      refine wpAnyH_take (i := 5) (oi := _) (v := ?_) rfl (by kernel_rfl) (by kernel_rfl) (by kernel_rfl) (fun _ _ _ h => h) (Or.inl ⟨by rfl, ?_⟩) (by assumption) ?_
      rotate_left
      · (intro w hSw; (try dsimp only at hSw); go_simp; (try with_reducible rfl))
      (try simp only [uA, uB, uC, uD, uE, uF, uG, uH])
      refine wpAnyH_take (i := 6) (oi := _) (v := ?_) rfl (by kernel_rfl) (by kernel_rfl) (by kernel_rfl) (fun _ _ _ h => h) (Or.inl ⟨by rfl, ?_⟩) (by assumption) ?_
      rotate_left
      · (intro w hSw; (try dsimp only at hSw); go_simp; (try with_reducible rfl))
      (try simp only [uA, uB, uC, uD, uE, uF, uG, uH])
      refine wpAnyH_ready (rs := [4]) (by kernel_rfl) (by decide) (AllReadyH.cons rfl (fun K' hK => ?_) AllReadyH.nil)
      rw [if_pos (by rfl)]
      go_simp
      refine hK.out _ _ (by exact c2) (fun hHeld => ?_)
      clear hK
      (try simp only [uA, uB, uC, uD, uE, uF, uG, uH])
      refine wpAnyH_ready (rs := [7]) (by kernel_rfl) (by decide) (AllReadyH.cons rfl (fun K' hK => ?_) AllReadyH.nil)
      rw [if_pos (by rfl)]
      go_simp
      refine (PB.out).mono ?_
      rintro e W8 ⟨v8, rfl, ho8, hb8⟩
      (try dsimp only)
      have hs8 : W7.heap.size ≤ W8.heap.size := hb8.size
      have hv8 : W8.heap[lb]? = some (.cells #[.slice A6 xs.length c6] 158 (0, 0)) := (hb8.block lb (show lb < W7.heap.size by omega)).trans HV7.out
      have c1' : W8.cell? ⟨lb, 0, none⟩ = some (.slice A6 xs.length c6) := by simp [World.cell?, hv8]
      have c2' : W8.cell? ⟨xb, 2, none⟩ = some (.string x2) := (World.cell?_of_block (w := W7) (hb8.block xb (show xb < W7.heap.size by omega))).trans c2
      have hul8 : (u8s zs).length = zs.length := by simp
      rw [hul8] at ho8
      obtain ⟨A8, c8, rfl, hc8⟩ := (Reads.of_own ho8).form
      have f1' : W8.frozen? ⟨lb, 0, none⟩ = false := by simp [World.frozen?, hv8]
      refine hK.out _ _ (by exact c2') (fun hHeld => ?_)
      clear hK
      (try simp only [uA, uB, uC, uD, uE, uF, uG, uH])
      refine wpAnyH_take (i := 8) (oi := _) (v := ?_) rfl (by kernel_rfl) (by kernel_rfl) (by kernel_rfl) (fun _ _ _ h => h) (Or.inl ⟨by rfl, ?_⟩) (by assumption) ?_
      rotate_left
      · (intro w hSw; (try dsimp only at hSw); go_simp; (try with_reducible rfl))
      (try simp only [uA, uB, uC, uD, uE, uF, uG, uH])
      refine wpAnyH_take (i := 9) (oi := _) (v := ?_) rfl (by kernel_rfl) (by kernel_rfl) (by kernel_rfl) (fun _ _ _ h => h) (Or.inl ⟨by rfl, ?_⟩) (by assumption) ?_
      rotate_left
      · (intro w hSw; (try dsimp only at hSw); go_simp; (try with_reducible rfl))
      (try simp only [uA, uB, uC, uD, uE, uF, uG, uH])
      refine wpAnyH_take (i := 10) (oi := _) (v := ?_) rfl (by kernel_rfl) (by kernel_rfl) (by kernel_rfl) (fun _ _ _ h => h) (Or.inl ⟨by rfl, ?_⟩) (by assumption) ?_
      rotate_left
      · (intro w hSw; (try dsimp only at hSw); go_simp; (try with_reducible rfl))
      (try simp only [uA, uB, uC, uD, uE, uF, uG, uH])
      refine wpAnyH_take (i := 11) (oi := _) (v := ?_) rfl (by kernel_rfl) (by kernel_rfl) (by kernel_rfl) (fun _ _ _ h => h) (Or.inl ⟨by rfl, ?_⟩) (by assumption) ?_
      rotate_left
      · (intro w hSw; (try dsimp only at hSw); go_simp; (try with_reducible rfl))
      (try simp only [uA, uB, uC, uD, uE, uF, uG, uH])
      refine wpAnyH_take (i := 12) (oi := _) (v := ?_) rfl (by kernel_rfl) (by kernel_rfl) (by kernel_rfl) (fun _ _ _ h => h) (Or.inl ⟨by rfl, ?_⟩) (by assumption) ?_
      rotate_left
      · (intro w hSw; (try dsimp only at hSw); go_simp; (try with_reducible rfl))
      (try simp only [uA, uB, uC, uD, uE, uF, uG, uH])
      have c2'' : (W8.setCell ⟨lb, 0, none⟩ (.slice A8 zs.length c8)).cell? ⟨xb, 2, none⟩ = some (.string x2) := (World.cell?_of_block (w := W8) (Below.heap_setCell W8 _ _ xb (by show xb ≠ lb; omega))).trans c2'
      refine wpAnyH_ready (rs := [13]) (by kernel_rfl) (by decide) (AllReadyH.cons rfl (fun K' hK => ?_) AllReadyH.nil)
      rw [if_pos (by rfl)]
      go_simp
      refine hK.out _ _ (by exact c2'') (fun hHeld => ?_)
      clear hK
      (try simp only [uA, uB, uC, uD, uE, uF, uG, uH])
      refine wpAnyH_done (by kernel_rfl) ?_ _
      have hv9 := blk_put hv8 0 (.slice A8 zs.length c8) rfl
      have hl9 : LaidP (W8.setCell ⟨lb, 0, none⟩ (.slice A8 zs.length c8)) lb w.heap.size zs := ⟨_, hv9, by
        refine own_move (own_weaken ho8 (by have := BB7.out.size; exact this)) fun k e => Below.heap_setCell W8 _ _ k fun e2 => ?_
        obtain ⟨cur, hcur⟩ := own_typed ho8 k e
        rw [show k = lb from e2, hv8] at hcur
        cases hcur⟩
      have B9 : Below w.heap.size w (W8.setCell ⟨lb, 0, none⟩ (.slice A8 zs.length c8)) := (BB7.out.trans (show Below w.heap.size W7 W8 from ⟨hb8.os, hb8.tape, hb8.output, hb8.size, fun k hk => hb8.block k (Nat.lt_of_lt_of_le hk BB7.out.size)⟩)).trans ⟨rfl, rfl, rfl, by simp [World.setCell], fun k hk => Below.heap_setCell W8 _ _ k (by show k ≠ lb; omega)⟩
      have L9 : Aside0 (LaidP (W8.setCell ⟨lb, 0, none⟩ (.slice A8 zs.length c8)) lb w.heap.size (countF vs.length ++ verAll (vs.take (i + 1)))) := ⟨by
        rw [TK.out]
        have e : countF vs.length ++ (verAll (vs.take i) ++ verOne ⟨x0, x1, x2⟩) = zs := by
          rw [HZS.out, HXS.out, ← List.append_assoc, HX0.out]
          simp [verOne, List.append_assoc]
        rw [e]
        exact hl9⟩
      have hwi : IntKind.i64.wrap ((i : Int) + 1) = (i : Int) + 1 := by simp [IntKind.wrap, IntKind.bits, IntKind.signed]; omega
      have BB9 := Aside0.mk B9
      clear hl9 B9 hv9 hv8 ho8 hb8 c1 c2 c1' c2' c2'' f1' PB
      go_wp2_with fail
      go_roundg (vs.length - (i + 1))
      case measure => omega
      case rel => exact ⟨i + 1, Nat.le_refl _, by omega, by simp, L9.out, BB9.out⟩
    · obtain rfl : i = vs.length := by omega
      have hnl : ¬ (vs.length : Int) < (vs.length : Int) := by omega
      have hl := LL.out
      rw [List.take_length] at hl
      obtain ⟨v, hv, ho⟩ := hl
      have c1 : wr.cell? ⟨lb, 0, none⟩ = some v := by simp [World.cell?, hv]
      have hb := BB.out
      have OO := Aside0.mk ho
      clear LL BB ho hv
      go_wp2
      refine bodyPost_ret (results_tmp2 rfl _ _ _) rfl ?_
      exact ⟨v, rfl, OO.out, hb⟩
end Go.Proofs.YtadkeohohehmcaaGreatDoor.Top
end
section
/- Versions' digest; those of an epoch. -/
namespace Go.Proofs.YtadkeohohehmcaaGreatDoor.Top
open Go.RowKit Go.Proofs.YtadkeohohehmcaaGreatDoorW.PrintWords Go.Proofs.YtadkeohohehmcaaGreatDoorW.PrintLast Go.Proofs.YtadkeohohehmcaaGreatDoorW.PrintMore Go.Proofs.YtadkeohohehmcaaGreatDoor.PTop
set_option linter.unusedVariables false
set_option linter.unusedSimpArgs false
attribute [local go_sem] Oper.semAt_some

def vdigF (KS : List Int) (vs : List S68) : List Int := shaF KS (verB vs)
theorem vdigF_len (KS : List Int) (vs : List S68) : (vdigF KS vs).length = 32 := shaF_len _ _
theorem verB_len {vs : List S68} (h : CheckOk vs) : (verB vs).length ≤ 2000 := by
  have a := verAll_len vs h.in_
  have b := countF_len (vs.length : Int)
  have c := h.1
  unfold verB
  rw [List.length_append]
  omega
set_option maxHeartbeats 2000000 in
set_option maxRecDepth 100000 in
theorem vdigest_c (KS : List Int) (v : Value) (vs : List S68) (w : World) (hk : HKey KS w) (h : Vs w v vs) (hc : CheckOk vs) : Calls Tryz.prog 37 #[v] w fun e w' => e = .returned (.tuple #[dv (vdigF KS vs), .int .i64 0]) ∧ Below w.heap.size w w' := by
  have hw0 := hk.pos
  have hd := vdigF_len KS vs
  have BC : Aside0 (∀ W, Below w.heap.size w W → Calls Tryz.prog 63 #[v] W fun e w' => PutPost (verB vs) W e w') := ⟨fun W hW => verput_c v vs W (Reads.below h hW) hc⟩
  have SC : Aside0 (∀ (v : Value) (W : World), Below w.heap.size w W → Reads W 1 v (verB vs).length (u8s (verB vs)) → Calls Tryz.prog 22 #[v] W fun e w' => e = .returned (dv (vdigF KS vs)) ∧ Below W.heap.size W w') := ⟨fun v W hW hr => sha_reads KS v (verB vs) W (hk.below hW hw0) hr (by have := verB_len hc; omega)⟩
  generalize vdigF KS vs = d at *
  generalize verB vs = hb at *
  clear hk h hc
  have hi31 := info31 d hd
  have hz := zD_size d hd
  have h1d := dig_one d
  go_enter Tryz.func37, Tryz.ntmps37
  go_upto_region 1 with (refine wpList_allocW rfl 31 rfl zD zero31 ?_; intro W1 b1 s1 k1)
  have B1 := Aside0.mk (BC.out W1 b1)
  clear BC
  go_upto_region 4 with (go_at_call 63; refine B1.out.mono ?_; rintro e W2 ⟨v2, rfl, ho2, hb2⟩; refine Aside0.out ?_)
  refine ⟨?_⟩
  have q2 : Below w.heap.size w W2 := b1.trans (hb2.mono (by omega))
  have k3 := (hb2.block w.heap.size (by omega)).trans k1
  have S2 := Aside0.mk (SC.out v2 W2 q2 (Reads.of_own ho2))
  have hs2 := hb2.size
  clear SC ho2 k1 B1
  go_upto_region 4 with fail
  go_wp2_with (first | (go_at_call 22; refine S2.out.mono ?_; rintro e W3 ⟨rfl, hb3⟩; refine Aside0.out ?_))
  refine ⟨?_⟩
  have k4 := (hb3.block w.heap.size (by omega)).trans k3
  go_wp2_with (refine wpList_store_row rfl 31 (.tmp 2) (.tmp 16) rfl w.heap.size _ rfl rfl 31 _ k4 hi31 hz h1d ?_)
  have hgf := setRow_heap W3 w.heap.size _ (d.map (Value.int .u8)).toArray 31 (0, 0) k4
  refine bodyPost_ret (results_ct rfl _ _ w.heap.size 31 _ (0, 0) _ rfl hgf Tryz.underlying31 rfl hi31) rfl ?_
  exact ⟨rfl, below_setRow (q2.trans (hb3.mono (by omega))) _ (by omega) _⟩
/-- Those up to an epoch. -/
def atF (e : Int) (vs : List S68) : List S68 := vs.takeWhile fun v => decide (v.f0 ≤ e)
set_option maxHeartbeats 2000000 in
set_option maxRecDepth 100000 in
theorem over_c (x : S68) (b : Nat) (e : Int) (w : World) (hb : w.cell? ⟨b, 0, none⟩ = some (.int .i64 e)) : Calls Tryz.prog 62 #[verV x, .pointer (some ⟨b, 0, none⟩)] w fun en w' => en = .returned (.bool (decide (x.f0 > e))) ∧ Below w.heap.size w w' := by
  obtain ⟨x0, x1, x2⟩ := x
  have hbl := block_lt_of_cell hb
  unfold verV
  dsimp only
  by_cases h : x0 > e
  · rw [decide_eq_true h]
    go_enter Tryz.func62, Tryz.ntmps62
    go_wp2
    go_ret
    exact ⟨rfl, (Below.refl _ w).alloc (Nat.le_refl _) _⟩
  · rw [decide_eq_false h]
    go_enter Tryz.func62, Tryz.ntmps62
    go_wp2
    go_ret
    exact ⟨rfl, (Below.refl _ w).alloc (Nat.le_refl _) _⟩
end Go.Proofs.YtadkeohohehmcaaGreatDoor.Top
end
section
/- The versions of an epoch. -/
namespace Go.Proofs.YtadkeohohehmcaaGreatDoor.Top
open Go.RowKit Go.Proofs.YtadkeohohehmcaaGreatDoorW.PrintWords Go.Proofs.YtadkeohohehmcaaGreatDoorW.PrintLast Go.Proofs.YtadkeohohehmcaaGreatDoorW.PrintMore Go.Proofs.YtadkeohohehmcaaGreatDoor.PTop
set_option linter.unusedVariables false
set_option linter.unusedSimpArgs false
attribute [local go_sem] Oper.semAt_some

theorem at_prefix (e : Int) : ∀ (vs : List S68) (i : Nat), i ≤ vs.length → (∀ j x, j < i → vs[j]? = some x → x.f0 ≤ e) → (∀ x, vs[i]? = some x → ¬ x.f0 ≤ e) → atF e vs = vs.take i
  | [], i, hi, _, _ => by simp [atF]
  | y :: r, 0, hi, _, h => by
    have := h y rfl
    unfold atF
    rw [List.takeWhile_cons, decide_eq_false this]
    rfl
  | y :: r, i + 1, hi, h1, h2 => by
    have a := h1 0 y (by omega) rfl
    have b := at_prefix e r i (by simpa using hi) (fun j x hj hx => h1 (j + 1) x (by omega) (by simpa using hx)) (fun x hx => h2 x (by simpa using hx))
    unfold atF at b ⊢
    rw [List.takeWhile_cons, decide_eq_true a, List.take_succ_cons, if_pos rfl, b]
structure IdxL (e : Int) (vs : List S68) (s8 : Value) (i : Nat) : Prop where
  ix : s8 = .int .i64 (i : Int)
  le : i ≤ vs.length
  lo : ∀ j x, j < i → vs[j]? = some x → x.f0 ≤ e
/-- What IndexFunc answers. -/
def IdxPost (e : Int) (vs : List S68) (en : Ending) : Prop := (en = .returned (.int .i64 (-1)) ∧ atF e vs = vs) ∨ (∃ i : Nat, en = .returned (.int .i64 (i : Int)) ∧ i < vs.length ∧ atF e vs = vs.take i)
set_option maxHeartbeats 4000000 in
set_option maxRecDepth 100000 in
theorem index_c (v : Value) (vs : List S68) (e : Int) (eb : Nat) (w : World) (h : Vs w v vs) (hm : vs.length ≤ 100000) (he : w.cell? ⟨eb, 0, none⟩ = some (.int .i64 e)) :
    Calls Tryz.prog 61 #[v, .func (.func 62) #[] #[.pointer (some ⟨eb, 0, none⟩)]] w fun en w' => IdxPost e vs en ∧ Below w.heap.size w w' := by
  obtain ⟨A, c, rfl, hlc⟩ := Reads.form h
  have HV := Aside0.mk h
  have HE := Aside0.mk he
  clear h he
  go_enter Tryz.func61, Tryz.ntmps61
  go_wp2_with fail
  go_loopg [8] vs.length (fun gg s8 wr => ∃ i : Nat, vs.length - i ≤ gg ∧ Aside (IdxL e vs s8 i) ∧ Aside (Below w.heap.size w wr))
  case atStart => exact ⟨0, by omega, ⟨rfl, by omega, fun j x hj => by omega⟩, Below.refl _ _⟩
  case round =>
    obtain ⟨i, hgg, L, B⟩ := hrel
    have LL := Aside0.mk L.out
    have BB := Aside0.mk B.out
    obtain rfl := LL.out.ix
    have hle := LL.out.le
    clear L B
    by_cases hin : i < vs.length
    · have hi0 : (i : Int) < (vs.length : Int) := by omega
      obtain ⟨b, off, rfl⟩ : ∃ b off, A = some ⟨b, off, none⟩ := by
        rcases HV.out.2 with ⟨_, h1⟩ | ⟨b, off, _, h1, _⟩
        · omega
        · injection h1 with h1
          exact ⟨b, off, h1⟩
      have hx : vs[i]? = some vs[i] := List.getElem?_eq_getElem hin
      have RL := (show Vs wr _ vs from Reads.below HV.out BB.out).range i _ hx
      have ebl := block_lt_of_cell HE.out
      have OC := Aside0.mk (over_c vs[i] eb e wr ((World.cell?_of_block (w := w) (BB.out.block eb ebl)).trans HE.out))
      have HX := Aside0.mk hx
      clear hx
      generalize vs[i] = x at *
      have hi68 := info68s x
      have hge : (0 : Int) ≤ (i : Int) := by omega
      have hwi : IntKind.i64.wrap ((i : Int) + 1) = (i : Int) + 1 := by simp [IntKind.wrap, IntKind.bits, IntKind.signed]; omega
      have hwr := BB.out.size
      have VV : Aside0 (verV x = .agg (vcells x).toArray) := ⟨rfl⟩
      rw [VV.out] at OC
      generalize (vcells x) = xc at *
      by_cases hgt : x.f0 > e
      · rw [decide_eq_true hgt] at OC
        have HF : Aside0 (IdxPost e vs (.returned (.int .i64 (i : Int)))) := ⟨Or.inr ⟨i, rfl, hin, at_prefix e vs i hle LL.out.lo (fun y hy => by rw [HX.out] at hy; injection hy with hy; subst hy; omega)⟩⟩
        go_wp2_with (first | (refine wpList_load_mid rfl 68 (.tmp 14) rfl b (off + i * 3) rfl _ _ RL Tryz.underlying68 rfl hi68 ?_) | (go_at_call 62; refine OC.out.mono ?_; rintro en W2 ⟨rfl, hb2⟩))
        go_ret
        exact ⟨HF.out, BB.out.trans (hb2.mono hwr)⟩
      · rw [decide_eq_false hgt] at OC
        have hlo : ∀ j y, j < i + 1 → vs[j]? = some y → y.f0 ≤ e := fun j y hj hy => by
          by_cases ej : j = i
          · subst ej
            rw [HX.out] at hy
            injection hy with hy
            subst hy
            omega
          · exact LL.out.lo j y (by omega) hy
        have HLO := Aside0.mk hlo
        clear hlo
        go_wp2_with (first | (refine wpList_load_mid rfl 68 (.tmp 14) rfl b (off + i * 3) rfl _ _ RL Tryz.underlying68 rfl hi68 ?_) | (go_at_call 62; refine OC.out.mono ?_; rintro en W2 ⟨rfl, hb2⟩))
        go_roundg (vs.length - (i + 1))
        case measure => omega
        case rel => exact ⟨i + 1, Nat.le_refl _, ⟨by simp, by omega, HLO.out⟩, BB.out.trans (hb2.mono hwr)⟩
    · obtain rfl : i = vs.length := by omega
      have hnl : ¬ (vs.length : Int) < (vs.length : Int) := by omega
      have HF : Aside0 (IdxPost e vs (.returned (.int .i64 (-1)))) := ⟨Or.inl ⟨rfl, by
        rw [at_prefix e vs vs.length hle LL.out.lo (fun y hy => by simp at hy), List.take_length]⟩⟩
      have hb := BB.out
      clear LL BB
      go_wp2
      go_ret
      exact ⟨HF.out, hb⟩
end Go.Proofs.YtadkeohohehmcaaGreatDoor.Top
end
