/- directory.Apply. -/
import Derived.Test.YtadkeohohehmcaaGreatDoorLaA
import Derived.Test.YtadkeohohehmcaaGreatDoorIntB
import Derived.Test.YtadkeohohehmcaaGreatDoorReqB
import Derived.Test.YtadkeohohehmcaaGreatDoorChkA
import Derived.BigFrame
namespace Go.Proofs.YtadkeohohehmcaaGreatDoor.Top
open Go.RowKit Go.Proofs.YtadkeohohehmcaaGreatDoorW.PrintWords Go.Proofs.YtadkeohohehmcaaGreatDoorW.PrintLast Go.Proofs.YtadkeohohehmcaaGreatDoorW.PrintMore Go.Proofs.YtadkeohohehmcaaGreatDoor.PTop
set_option linter.unusedVariables false
set_option linter.unusedSimpArgs false
attribute [local go_sem] Oper.semAt_some
theorem DirC.frame {w w' : World} {base : Nat} {d : Dir} {x1 x2 x3 : Value} (h : DirC w base d x1 x2 x3) (hm : ∀ k, base ≤ k → k < w.heap.size → w'.heap[k]? = w.heap[k]?) : DirC w' base d x1 x2 x3 := by
  obtain ⟨⟨uc, h1, h2⟩, h3, h4⟩ := h
  exact ⟨⟨uc, own_move h1 fun k e => hm k (h1.lt k e).1 (h1.lt k e).2, UsC.move (w := w) (fun k cur hk hc => hm k hk (Array.getElem?_eq_some_iff.1 hc).1) h2⟩, own_move h3 fun k e => hm k (h3.lt k e).1 (h3.lt k e).2, own_move h4 fun k e => hm k (h4.lt k e).1 (h4.lt k e).2⟩
/-- A work's own cell is written: the rows stay. -/
theorem DirC.put {w : World} {base wb : Nat} {d : Dir} {x1 x2 x3 : Value} {cur : Array Value} (h : DirC w base d x1 x2 x3) (hb : w.heap[wb]? = some (.cells cur 47 (0, 0))) (i : Nat) (v : Value) : DirC (w.setCell ⟨wb, i, none⟩ v) base d x1 x2 x3 := by
  have far : ∀ (t : TypeId), t ≠ 47 → ∀ (k : Nat) (cs : Array Value), w.heap[k]? = some (.cells cs t (0, 0)) → (w.setCell ⟨wb, i, none⟩ v).heap[k]? = w.heap[k]? := fun t ht k cs hk => Below.heap_setCell w _ _ k fun e => by
    have e : k = wb := e
    rw [e, hb] at hk
    injection hk with hk
    injection hk with _ hk
    exact ht hk.symm
  obtain ⟨⟨uc, h1, h2⟩, h3, h4⟩ := h
  refine ⟨⟨uc, own_move h1 fun k e => ?_, UsC.move (w := w) (fun k cs _ hc => far 68 (by decide) k cs hc) h2⟩, own_move h3 fun k e => ?_, own_move h4 fun k e => ?_⟩
  · obtain ⟨cs, hc⟩ := own_typed h1 k e
    exact far 63 (by decide) k cs hc
  · obtain ⟨cs, hc⟩ := own_typed h3 k e
    exact far 36 (by decide) k cs hc
  · obtain ⟨cs, hc⟩ := own_typed h4 k e
    exact far 71 (by decide) k cs hc
/-- Other numbers of epochs, the same rows. -/
theorem DirC.epoch {w : World} {base : Nat} {d : Dir} {x1 x2 x3 : Value} (h : DirC w base d x1 x2 x3) (e : Int) : DirC w base ⟨e, d.us, d.hs, d.ss⟩ x1 x2 x3 := h
theorem DirC.forms {w : World} {base : Nat} {d : Dir} {x1 x2 x3 : Value} (h : DirC w base d x1 x2 x3) : ∃ A1 c1 A2 c2 A3 c3, x1 = .slice A1 d.us.length c1 ∧ x2 = .slice A2 d.hs.length c2 ∧ x3 = .slice A3 d.ss.length c3 := by
  obtain ⟨⟨uc, h1, h2⟩, h3, h4⟩ := h
  obtain ⟨A1, c1, e1, _⟩ := (Reads.of_own h1).form
  obtain ⟨A2, c2, e2, _⟩ := (Reads.of_own h3).form
  obtain ⟨A3, c3, e3, _⟩ := (Reads.of_own h4).form
  exact ⟨A1, c1, A2, c2, A3, c3, e1, e2, e3⟩
def z28 : List Value := [.int .i64 0, .slice none 0 0, .slice none 0 0, .slice none 0 0]
theorem hi28 : (Tryz.prog.info? 28).map (·.size) = some 4 := by kernel_rfl
theorem wpList_load_row_if {P : Program} {ops : Array Oper} {rest : List Oper} {o : Oper} {a : Act} {w : World} {Q : Exit → Act → World → Prop} (hw : Region.wanted o (yielded ops a.tmps) = true) (ty : TypeId) (x : Operand) (ho : o.op = .load ty x)
    (g : Nat) (hx : a.eval x = .pointer (some ⟨g, 0, none⟩)) (t : TypeId) (cs : Array Value) (fr : Nat × Nat) (d : TypeDesc) (hg : w.heap[g]? = some (.cells cs t fr)) (hu : P.underlying ty = some d) (hd : (match d with | .struct _ | .array _ _ => true | _ => false) = true) (hi : (P.info? ty).map (·.size) = some cs.size)
    (h : wpList P ops Q rest (a.put o.dst (.agg cs)) w) : wpList P ops Q (o :: rest) a w :=
  BigFrame.wpList_want hw fun K hK => wp_load_row ty x ho g hx t cs fr d hg hu hd hi (hK _ _ h)
theorem hi28z : (Tryz.prog.info? 28).map (·.size) = some z28.toArray.size := hi28
theorem z28_one : z28.toArray.all (·.oneCell') = true := by rw [List.all_toArray]; rfl
def AppPost (KS : List Int) (d : Dir) (c : Cmd) (w : World) (e : Ending) (w' : World) : Prop :=
  ∃ code d' A1 m1 c1 A2 m2 c2 A3 m3 c3, e = .returned (.tuple #[.agg #[.int .i64 d'.e, .slice A1 m1 c1, .slice A2 m2 c2, .slice A3 m3 c3], .int .i64 code]) ∧ AppR KS d c code d' ∧ (code = 0 → ∃ n0, w.heap.size ≤ n0 ∧ DirC w' n0 d' (.slice A1 m1 c1) (.slice A2 m2 c2) (.slice A3 m3 c3)) ∧ Below w.heap.size w w'
theorem app_err {KS : List Int} {d : Dir} {c : Cmd} {w w' : World} {code : Int} (h0 : code ≠ 0) (h : AppR KS d c code dir0) (hb : Below w.heap.size w w') : AppPost KS d c w (.returned (.tuple #[.agg z28.toArray, .int .i64 code])) w' :=
  ⟨code, dir0, none, 0, 0, none, 0, 0, none, 0, 0, rfl, h, fun e => absurd e h0, hb⟩
set_option maxHeartbeats 16000000 in
set_option maxRecDepth 100000 in
theorem apply_c (KS : List Int) (d : Dir) (c : Cmd) (x1 x2 x3 : Value) (A : Array Value) (w : World) (hk : HKey KS w) (hr : DirR w d x1 x2 x3) (hin : DirIn KS d) (hp : PathOk c.root) (hA : A.toList = ccells c) :
    Calls Tryz.prog 9 #[dirV d x1 x2 x3, .agg A] w fun e w' => AppPost KS d c w e w' := by
  have hk0 := hk.pos
  have CC : Aside0 (∀ W, Below w.heap.size w W → Calls Tryz.prog 13 #[.agg #[.int .i64 d.e, x1, x2, x3]] W fun e w' => e = .returned (.int .i64 0) ∧ Below W.heap.size W w') := ⟨fun W hW => check_dir KS d x1 x2 x3 W (hk.below hW hk0) (hr.below hW) hin⟩
  have MC : Aside0 (∀ W, Calls Tryz.prog 14 #[.agg A] W fun e w' => MayPost (mayC c) W e w') := ⟨fun W => mayc_c c hp A hA W⟩
  have BC : Aside0 (∀ W, Below w.heap.size w W → Calls Tryz.prog 15 #[.agg #[.int .i64 d.e, x1, x2, x3]] W fun e w' => BegPost d W e w') := ⟨fun W hW => begin_c d x1 x2 x3 W (hr.below hW) (by have := hin.us.len; omega) (by have := hsLen_of hin; omega) (by have := hin.ss.len; omega) (fun u hu => by have := (usOk_of hin u hu).vs.1; omega)⟩
  have IC : Aside0 (∀ (W : World) wb n0, Below w.heap.size w W → Wk W wb n0 d → Calls Tryz.prog 16 #[.pointer (some ⟨wb, 0, none⟩), .agg A] W fun e w' => IntPost KS d c n0 wb W e w') := ⟨fun W wb n0 hW hw => int_c KS d c wb n0 A W (hk.below hW hk0) hA hw (intOk_of hin hp)⟩
  have RC : Aside0 (mayC c = true → (c.k = 1 ∨ c.k = 2 ∨ c.k = 3) → ∀ (W : World) wb n0, Wk W wb n0 d → Calls Tryz.prog 17 #[.pointer (some ⟨wb, 0, none⟩), .agg A] W fun e w' => ReqPost d c n0 wb W e w') := ⟨fun hm h3 W wb n0 hw => req_c d c wb n0 A W hA hw (reqOk_of hin hp hm h3)⟩
  obtain ⟨A1, c1, e1, _⟩ := Reads.form hr.us.choose_spec.1
  obtain ⟨A2, c2, e2, _⟩ := Reads.form hr.hs
  obtain ⟨A3, c3, e3, _⟩ := Reads.form hr.ss
  have lo := hin.lo
  have hi := hin.hi
  subst e1 e2 e3
  have lo := hin.lo
  have hi := hin.hi
  have hAa : A = (ccells c).toArray := by rw [← hA]
  subst hAa
  have hi41 : (Tryz.prog.info? 41).map (·.size) = some (ccells c).toArray.size := size41' c hp.len
  have hAO := cc_one c
  generalize hn1 : d.us.length = n1 at *
  generalize hn2 : d.hs.length = n2 at *
  generalize hn3 : d.ss.length = n3 at *
  obtain ⟨W0, hW0⟩ : ∃ W0, w.alloc (.cells #[.int .i64 d.e, .slice A1 n1 c1, .slice A2 n2 c2, .slice A3 n3 c3] 28) = W0 := ⟨_, rfl⟩
  have b0 : Below w.heap.size w W0 := by rw [← hW0]; exact (Below.refl _ w).alloc (Nat.le_refl _) _
  have s0 : W0.heap.size = w.heap.size + 1 := by rw [← hW0]; simp
  have k0 : W0.heap[w.heap.size]? = some (.cells #[.int .i64 d.e, .slice A1 n1 c1, .slice A2 n2 c2, .slice A3 n3 c3] 28 (0, 0)) := by rw [← hW0]; exact blk_new w _
  obtain ⟨W1, hW1⟩ : ∃ W1, W0.alloc (.cells (ccells c).toArray 41) = W1 := ⟨_, rfl⟩
  have b1 : Below W0.heap.size W0 W1 := by rw [← hW1]; exact (Below.refl _ W0).alloc (Nat.le_refl _) _
  have s1 : W1.heap.size = w.heap.size + 1 + 1 := by rw [← hW1]; simp [s0]
  have k1 : W1.heap[w.heap.size + 1]? = some (.cells (ccells c).toArray 41 (0, 0)) := by rw [← hW1, ← s0]; exact blk_new W0 _
  have k1p := (b1.block w.heap.size (by omega)).trans k0
  have HB1 := Aside0.mk (b0.trans (b1.mono (by omega)))
  have HW0 := Aside0.mk hW0
  have HW1 := Aside0.mk hW1
  have HS1 := Aside0.mk s1
  have HN := Aside0.mk (And.intro hn1 (And.intro hn2 hn3))
  have HIN := Aside0.mk hin
  have HP := Aside0.mk hp
  clear hW0 hW1 hk hr hin hA hn1 hn2 hn3 k0 b0 b1 hp
  unfold dirV
  go_enter Tryz.func9, Tryz.ntmps9
  go_upto_region 1 with (first | (refine wpList_allocW rfl 28 rfl z28.toArray (by kernel_rfl) ?_; intro W2 b2 s2 k2; refine Aside0.out ?_))
  refine ⟨?_⟩
  rw [HW0.out, HW1.out] at b2 k2 s2
  rw [s1] at b2 k2 s2
  clear s0 s1
  obtain ⟨rb, hrb⟩ : ∃ n, w.heap.size + 1 + 1 = n := ⟨_, rfl⟩
  obtain ⟨cb, hcb⟩ : ∃ n, w.heap.size + 1 = n := ⟨_, rfl⟩
  obtain ⟨pb, hpb⟩ : ∃ n, w.heap.size = n := ⟨_, rfl⟩
  have hpc : pb < cb := by omega
  have hcr : cb < rb := by omega
  have kp2 := (b2.block w.heap.size (by omega)).trans k1p
  have kc2 := (b2.block (w.heap.size + 1) (by omega)).trans k1
  have q2 : Below w.heap.size w W2 := HB1.out.trans (b2.mono (by omega))
  rw [hrb] at k2 s2 ⊢
  rw [hcb] at kc2 ⊢
  rw [hpb] at kp2 ⊢
  have HPB := Aside0.mk hpb
  have HS2 := Aside0.mk s2
  have hs2 : rb < W2.heap.size := by omega
  have FA : Aside0 (∀ W, Below W2.heap.size W2 W → W.heap[pb]? = some (.cells #[.int .i64 d.e, .slice A1 n1 c1, .slice A2 n2 c2, .slice A3 n3 c3] 28 (0, 0)) ∧ W.heap[cb]? = some (.cells (ccells c).toArray 41 (0, 0)) ∧ W.heap[rb]? = some (.cells z28.toArray 28 (0, 0)) ∧ Below w.heap.size w W ∧ rb < W.heap.size) := ⟨fun W hW => ⟨(hW.block pb (by omega)).trans kp2, (hW.block cb (by omega)).trans kc2, (hW.block rb (by omega)).trans k2, q2.trans (hW.mono (by omega)), by have := hW.size; omega⟩⟩
  clear b2 k1 k1p hrb hcb hpb q2
  go_upto_region 1 with fail
  have C2 := Aside0.mk (CC.out W2 (FA.out W2 (Below.refl _ _)).2.2.2.1)
  go_upto_region 2 with (first | (refine wpList_load_row rfl 28 (.tmp 2) rfl pb rfl 28 _ (0, 0) _ kp2 Tryz.underlying28 rfl hi28 ?_) | (go_at_call 13; refine C2.out.mono ?_; rintro e W3 ⟨rfl, h3⟩; refine Aside0.out ?_))
  refine ⟨?_⟩
  clear kp2 kc2 k2 C2
  obtain ⟨kp3, kc3, k3, q3, l3⟩ := FA.out W3 h3
  have M3 := Aside0.mk (MC.out W3)
  go_upto_region 2 with (first | (refine wpList_load_row_if (by rfl) 41 (.tmp 3) rfl cb rfl 41 _ (0, 0) _ kc3 Tryz.underlying41 rfl hi41 ?_) | (go_at_call 14; refine M3.out.mono ?_; rintro e W4 ⟨rfl, h4⟩; refine Aside0.out ?_))
  refine ⟨?_⟩
  clear kp3 kc3 k3 M3 q3
  have h4' : Below W2.heap.size W2 W4 := h3.trans (h4.mono h3.size)
  have H4 := Aside0.mk h4'
  obtain ⟨kp4, kc4, k4, q4, l4⟩ := FA.out W4 h4'
  have B4 := Aside0.mk (BC.out W4 q4)
  clear h3 h4 h4' l3
  cases hm : mayC c
  · have PP : Aside0 (∀ W, Below w.heap.size w W → AppPost KS d c w (.returned (.tuple #[.agg z28.toArray, .int .i64 70])) W) := ⟨fun W hW => app_err (by decide) (AppR.form dir0 hm) hW⟩
    have BQ := Aside0.mk q4
    go_wp2_with (refine wpList_store_row rfl 28 (.tmp 4) (.tmp 16) rfl rb z28.toArray rfl rfl 28 _ k4 hi28z rfl z28_one ?_)
    have hgf := setRow_heap W4 rb _ z28.toArray 28 (0, 0) k4
    refine bodyPost_ret (results_ct rfl _ _ rb 28 _ (0, 0) _ rfl hgf Tryz.underlying28 rfl hi28z) rfl ?_
    exact PP.out _ (below_setRow BQ.out _ (by have := HPB.out; omega) _)
  have HM := Aside0.mk hm
  go_upto_region 4 with (first | (refine wpList_load_row rfl 28 (.tmp 2) rfl pb rfl 28 _ (0, 0) _ kp4 Tryz.underlying28 rfl hi28 ?_) | (go_at_call 15; refine B4.out.mono ?_; rintro e W5 ⟨wb, rfl, hwk, h5⟩; refine Aside0.out ?_))
  refine ⟨?_⟩
  have HWK := Aside0.mk hwk
  have h5' : Below W2.heap.size W2 W5 := H4.out.trans (h5.mono H4.out.size)
  obtain ⟨kp5, kc5, k5, q5, l5⟩ := FA.out W5 h5'
  have hsz := h5.size
  have hnw := hwk.1
  have I5 : Aside0 (∀ W, Below W4.heap.size W5 W → W.heap[rb]? = some (.cells z28.toArray 28 (0, 0)) ∧ Below w.heap.size w W) := ⟨fun W hW => ⟨(hW.block rb l4).trans k5, q5.trans (hW.mono q4.size)⟩⟩
  obtain ⟨_, x1, x2, x3, hb5, hD5⟩ := hwk
  have K5 := Aside0.mk hb5
  have D5 := Aside0.mk hD5
  clear kp4 kc4 k4 hb5 hD5 B4 h5 hm
  have c50 : W5.cell? ⟨cb, 0, none⟩ = some (.int .i64 c.k) := cell_in (l := ccells c) kc5 rfl
  have c55 : W5.cell? ⟨cb, 5, none⟩ = some (.int .i64 c.e) := cell_in (l := ccells c) kc5 rfl
  have w50 : W5.cell? ⟨wb, 0, none⟩ = some (.int .i64 d.e) := by have := K5.out; simp [World.cell?, this]
  have hwe : IntKind.i64.wrap (d.e + 1) = d.e + 1 := by simp [IntKind.wrap, IntKind.bits, IntKind.signed]; omega
  have KC5 := Aside0.mk kc5
  have KR5 := Aside0.mk k5
  clear kp5 kc5 k5
  go_upto_region 7 with fail
  by_cases hk4 : c.k = 4
  · have HK4 := Aside0.mk hk4
    go_upto_region 8 with fail
    clear hk4 c50
    by_cases he : c.e = d.e + 1
    · have HE := Aside0.mk he
      refine wp_region_held_drew (S := (fun W => W.cell? ⟨cb, 5, none⟩ = some (.int .i64 c.e) ∧ W.cell? ⟨wb, 0, none⟩ = some (.int .i64 d.e))) (by kernel_rfl) (by exact ⟨c55, w50⟩) (fun hHeld => ?_)
      refine wpAnyH_take (i := 0) (oi := _) (v := ?_) rfl (by kernel_rfl) (by kernel_rfl) (by kernel_rfl) (fun _ _ _ h => h) (Or.inl ⟨by rfl, ?_⟩) (by assumption) ?_
      rotate_left
      · (intro w hSw; (try dsimp only at hSw); obtain ⟨s1_, s2_⟩ := hSw; go_simp; (try with_reducible rfl))
      (try simp only [uA, uB, uC, uD, uE, uF, uG, uH])
      refine wpAnyH_take (i := 1) (oi := _) (v := ?_) rfl (by kernel_rfl) (by kernel_rfl) (by kernel_rfl) (fun _ _ _ h => h) (Or.inl ⟨by rfl, ?_⟩) (by assumption) ?_
      rotate_left
      · (intro w hSw; (try dsimp only at hSw); obtain ⟨s1_, s2_⟩ := hSw; go_simp; (try with_reducible rfl))
      (try simp only [uA, uB, uC, uD, uE, uF, uG, uH])
      refine wpAnyH_take (i := 2) (oi := _) (v := ?_) rfl (by kernel_rfl) (by kernel_rfl) (by kernel_rfl) (fun _ _ _ h => h) (Or.inl ⟨by rfl, ?_⟩) (by assumption) ?_
      rotate_left
      · (intro w hSw; (try dsimp only at hSw); obtain ⟨s1_, s2_⟩ := hSw; go_simp; (try with_reducible rfl))
      (try simp only [uA, uB, uC, uD, uE, uF, uG, uH])
      refine wpAnyH_take (i := 3) (oi := _) (v := ?_) rfl (by kernel_rfl) (by kernel_rfl) (by kernel_rfl) (fun _ _ _ h => h) (Or.inl ⟨by rfl, ?_⟩) (by assumption) ?_
      rotate_left
      · (intro w hSw; (try dsimp only at hSw); obtain ⟨s1_, s2_⟩ := hSw; go_simp; (try with_reducible rfl))
      (try simp only [uA, uB, uC, uD, uE, uF, uG, uH])
      refine wpAnyH_take (i := 4) (oi := _) (v := ?_) rfl (by kernel_rfl) (by kernel_rfl) (by kernel_rfl) (fun _ _ _ h => h) (Or.inl ⟨by rfl, ?_⟩) (by assumption) ?_
      rotate_left
      · (intro w hSw; (try dsimp only at hSw); obtain ⟨s1_, s2_⟩ := hSw; go_simp; (try with_reducible rfl))
      (try simp only [uA, uB, uC, uD, uE, uF, uG, uH])
      refine wpAnyH_take (i := 5) (oi := _) (v := ?_) rfl (by kernel_rfl) (by kernel_rfl) (by kernel_rfl) (fun _ _ _ h => h) (Or.inl ⟨by rfl, ?_⟩) (by assumption) ?_
      rotate_left
      · (intro w hSw; (try dsimp only at hSw); obtain ⟨s1_, s2_⟩ := hSw; go_simp; (try with_reducible rfl))
      (try simp only [uA, uB, uC, uD, uE, uF, uG, uH])
      refine wpAnyH_take (i := 6) (oi := _) (v := ?_) rfl (by kernel_rfl) (by kernel_rfl) (by kernel_rfl) (fun _ _ _ h => h) (Or.inl ⟨by rfl, ?_⟩) (by assumption) ?_
      rotate_left
      · (intro w hSw; (try dsimp only at hSw); obtain ⟨s1_, s2_⟩ := hSw; go_simp; (try with_reducible rfl))
      (try simp only [uA, uB, uC, uD, uE, uF, uG, uH])
      refine wpAnyH_take (i := 7) (oi := _) (v := ?_) rfl (by kernel_rfl) (by kernel_rfl) (by kernel_rfl) (fun _ _ _ h => h) (Or.inl ⟨by rfl, ?_⟩) (by assumption) ?_
      rotate_left
      · (intro w hSw; (try dsimp only at hSw); obtain ⟨s1_, s2_⟩ := hSw; go_simp; (try with_reducible rfl))
      (try simp only [uA, uB, uC, uD, uE, uF, uG, uH])
      refine wpAnyH_take (i := 8) (oi := _) (v := .bool false) rfl (by kernel_rfl) (by kernel_rfl) (by kernel_rfl) (fun _ _ _ h => h) (Or.inl ⟨by rfl, ?_⟩) (by assumption) ?_
      rotate_left 0
      · (intro w hSw; (try dsimp only at hSw); obtain ⟨s1_, s2_⟩ := hSw; go_simp; (try with_reducible rfl))
      (try simp only [uA, uB, uC, uD, uE, uF, uG, uH])
      refine wpAnyH_done (by kernel_rfl) ?_ _
      have AR : Aside0 (AppR KS d c 0 ⟨d.e + 1, d.us, d.hs, d.ss⟩) := ⟨by
        have := AppR.seal_ (KS := KS) (d := d) (c := c) ⟨d.e + 1, d.us, d.hs, d.ss⟩ HM.out HK4.out (fun h => by rw [h])
        rw [if_pos HE.out] at this
        exact this⟩
      replace c55 : W5.cell? ⟨cb, 5, none⟩ = some (.int .i64 (d.e + 1)) := by rw [← he]; exact c55
      clear he hHeld
      have z5 : W5.frozen? ⟨wb, 0, none⟩ = false := by have := K5.out; simp [World.frozen?, this]
      go_upto_region 13 with fail
      have KB : Aside0 ((W5.setCell ⟨wb, 0, none⟩ (.int .i64 (d.e + 1))).drew.heap[wb]? = some (.cells #[.int .i64 (d.e + 1), x1, x2, x3] 47 (0, 0))) := ⟨blk_put K5.out 0 (.int .i64 (d.e + 1)) rfl⟩
      have DD : Aside0 (DirC (W5.setCell ⟨wb, 0, none⟩ (.int .i64 (d.e + 1))).drew W4.heap.size ⟨d.e + 1, d.us, d.hs, d.ss⟩ x1 x2 x3) := ⟨DirC.below (d := d) (DirC.put (d := d) D5.out K5.out 0 _) (Below.refl _ _).drew⟩
      have hqq : Below W4.heap.size W5 (W5.setCell ⟨wb, 0, none⟩ (.int .i64 (d.e + 1))).drew := ((Below.refl _ W5).setCell hnw _).drew
      obtain ⟨kr, bq⟩ := I5.out _ hqq
      have BQ := Aside0.mk bq
      generalize (W5.setCell ⟨wb, 0, none⟩ (.int .i64 (d.e + 1))).drew = W6 at *
      clear bq hqq z5 w50 c55
      obtain ⟨B1, m1, B2, m2, B3, m3, rfl, rfl, rfl⟩ := DD.out.forms
      have rl : W6.rangeAt wb 0 [.int .i64 (d.e + 1), .slice B1 _ m1, .slice B2 _ m2, .slice B3 _ m3] := fun j v hj => by
        rw [Nat.zero_add]
        exact cell_in (l := [.int .i64 (d.e + 1), .slice B1 _ m1, .slice B2 _ m2, .slice B3 _ m3]) KB.out hj
      have KR := Aside0.mk kr
      clear kr
      generalize hq1 : d.us.length = q1 at *
      generalize hq2 : d.hs.length = q2 at *
      generalize hq3 : d.ss.length = q3 at *
      have HQ := Aside0.mk (And.intro hq1 (And.intro hq2 hq3))
      clear hq1 hq2 hq3
      have hi28l : (Tryz.prog.info? 28).map (·.size) = some [Value.int .i64 (d.e + 1), .slice B1 q1 m1, .slice B2 q2 m2, .slice B3 q3 m3].length := hi28
      have hi28c : (Tryz.prog.info? 28).map (·.size) = some #[Value.int .i64 (d.e + 1), .slice B1 q1 m1, .slice B2 q2 m2, .slice B3 q3 m3].size := hi28
      have hz28 : z28.toArray.size = #[Value.int .i64 (d.e + 1), .slice B1 q1 m1, .slice B2 q2 m2, .slice B3 q3 m3].size := rfl
      have h128 : #[Value.int .i64 (d.e + 1), .slice B1 q1 m1, .slice B2 q2 m2, .slice B3 q3 m3].all (·.oneCell') = true := by simp [Value.oneCell']
      go_wp2_with (first | (refine wpList_load_mid rfl 28 (.tmp 52) rfl wb 0 rfl _ _ rl Tryz.underlying28 rfl hi28l ?_) | (refine wpList_store_row rfl 28 (.tmp 4) (.tmp 53) rfl rb _ rfl rfl 28 _ KR.out hi28c hz28 h128 ?_))
      have hgf := setRow_heap W6 rb _ #[Value.int .i64 (d.e + 1), .slice B1 q1 m1, .slice B2 q2 m2, .slice B3 q3 m3] 28 (0, 0) KR.out
      refine bodyPost_ret (results_ct rfl _ _ rb 28 _ (0, 0) _ rfl hgf Tryz.underlying28 rfl hi28c) rfl ?_
      refine ⟨0, _, _, _, _, _, _, _, _, _, _, rfl, AR.out, fun _ => ⟨W4.heap.size, q4.size, ?_⟩, below_setRow BQ.out _ (by have := HPB.out; omega) _⟩
      rw [HQ.out.1, HQ.out.2.1, HQ.out.2.2] at *
      exact DirC.frame DD.out fun k h1 h2 => setRow_other _ rb k _ (by omega)
    · have HE := Aside0.mk he
      refine wp_region_held_drew (S := (fun W => W.cell? ⟨cb, 5, none⟩ = some (.int .i64 c.e) ∧ W.cell? ⟨wb, 0, none⟩ = some (.int .i64 d.e))) (by kernel_rfl) (by exact ⟨c55, w50⟩) (fun hHeld => ?_)
      refine wpAnyH_take (i := 0) (oi := _) (v := ?_) rfl (by kernel_rfl) (by kernel_rfl) (by kernel_rfl) (fun _ _ _ h => h) (Or.inl ⟨by rfl, ?_⟩) (by assumption) ?_
      rotate_left
      · (intro w hSw; (try dsimp only at hSw); obtain ⟨s1_, s2_⟩ := hSw; go_simp; (try with_reducible rfl))
      (try simp only [uA, uB, uC, uD, uE, uF, uG, uH])
      refine wpAnyH_take (i := 1) (oi := _) (v := ?_) rfl (by kernel_rfl) (by kernel_rfl) (by kernel_rfl) (fun _ _ _ h => h) (Or.inl ⟨by rfl, ?_⟩) (by assumption) ?_
      rotate_left
      · (intro w hSw; (try dsimp only at hSw); obtain ⟨s1_, s2_⟩ := hSw; go_simp; (try with_reducible rfl))
      (try simp only [uA, uB, uC, uD, uE, uF, uG, uH])
      refine wpAnyH_take (i := 2) (oi := _) (v := ?_) rfl (by kernel_rfl) (by kernel_rfl) (by kernel_rfl) (fun _ _ _ h => h) (Or.inl ⟨by rfl, ?_⟩) (by assumption) ?_
      rotate_left
      · (intro w hSw; (try dsimp only at hSw); obtain ⟨s1_, s2_⟩ := hSw; go_simp; (try with_reducible rfl))
      (try simp only [uA, uB, uC, uD, uE, uF, uG, uH])
      refine wpAnyH_take (i := 3) (oi := _) (v := ?_) rfl (by kernel_rfl) (by kernel_rfl) (by kernel_rfl) (fun _ _ _ h => h) (Or.inl ⟨by rfl, ?_⟩) (by assumption) ?_
      rotate_left
      · (intro w hSw; (try dsimp only at hSw); obtain ⟨s1_, s2_⟩ := hSw; go_simp; (try with_reducible rfl))
      (try simp only [uA, uB, uC, uD, uE, uF, uG, uH])
      refine wpAnyH_take (i := 4) (oi := _) (v := ?_) rfl (by kernel_rfl) (by kernel_rfl) (by kernel_rfl) (fun _ _ _ h => h) (Or.inl ⟨by rfl, ?_⟩) (by assumption) ?_
      rotate_left
      · (intro w hSw; (try dsimp only at hSw); obtain ⟨s1_, s2_⟩ := hSw; go_simp; (try with_reducible rfl))
      (try simp only [uA, uB, uC, uD, uE, uF, uG, uH])
      refine wpAnyH_take (i := 5) (oi := _) (v := ?_) rfl (by kernel_rfl) (by kernel_rfl) (by kernel_rfl) (fun _ _ _ h => h) (Or.inl ⟨by rfl, ?_⟩) (by assumption) ?_
      rotate_left
      · (intro w hSw; (try dsimp only at hSw); obtain ⟨s1_, s2_⟩ := hSw; go_simp; (try with_reducible rfl))
      (try simp only [uA, uB, uC, uD, uE, uF, uG, uH])
      refine wpAnyH_take (i := 6) (oi := _) (v := ?_) rfl (by kernel_rfl) (by kernel_rfl) (by kernel_rfl) (fun _ _ _ h => h) (Or.inl ⟨by rfl, ?_⟩) (by assumption) ?_
      rotate_left
      · (intro w hSw; (try dsimp only at hSw); obtain ⟨s1_, s2_⟩ := hSw; go_simp; (try with_reducible rfl))
      (try simp only [uA, uB, uC, uD, uE, uF, uG, uH])
      refine wpAnyH_take (i := 7) (oi := _) (v := ?_) rfl (by kernel_rfl) (by kernel_rfl) (by kernel_rfl) (fun _ _ _ h => h) (Or.inl ⟨by rfl, ?_⟩) (by assumption) ?_
      rotate_left
      · (intro w hSw; (try dsimp only at hSw); obtain ⟨s1_, s2_⟩ := hSw; go_simp; (try with_reducible rfl))
      (try simp only [uA, uB, uC, uD, uE, uF, uG, uH])
      refine wpAnyH_take (i := 8) (oi := _) (v := .bool true) rfl (by kernel_rfl) (by kernel_rfl) (by kernel_rfl) (fun _ _ _ h => h) (Or.inl ⟨by rfl, ?_⟩) (by assumption) ?_
      rotate_left 0
      · (intro w hSw; (try dsimp only at hSw); obtain ⟨s1_, s2_⟩ := hSw; go_simp; (try with_reducible rfl))
      (try simp only [uA, uB, uC, uD, uE, uF, uG, uH])
      refine wpAnyH_done (by kernel_rfl) ?_ _
      have PP : Aside0 (∀ W, Below w.heap.size w W → AppPost KS d c w (.returned (.tuple #[.agg z28.toArray, .int .i64 72])) W) := ⟨fun W hW => app_err (by decide) (by
        have := AppR.seal_ (KS := KS) (d := d) (c := c) dir0 HM.out HK4.out (fun h => absurd h HE.out)
        rw [if_neg HE.out] at this
        exact this) hW⟩
      clear hHeld
      have z5 : W5.frozen? ⟨wb, 0, none⟩ = false := by have := K5.out; simp [World.frozen?, this]
      go_upto_region 13 with fail
      have hqq : Below W4.heap.size W5 (W5.setCell ⟨wb, 0, none⟩ (.int .i64 c.e)).drew := ((Below.refl _ W5).setCell hnw _).drew
      obtain ⟨kr, bq⟩ := I5.out _ hqq
      have BQ := Aside0.mk bq
      generalize (W5.setCell ⟨wb, 0, none⟩ (.int .i64 c.e)).drew = W6 at *
      clear bq hqq z5 w50 c55 he
      go_wp2_with (refine wpList_store_row rfl 28 (.tmp 4) (.tmp 48) rfl rb z28.toArray rfl rfl 28 _ kr hi28z rfl z28_one ?_)
      have hgf := setRow_heap W6 rb _ z28.toArray 28 (0, 0) kr
      refine bodyPost_ret (results_ct rfl _ _ rb 28 _ (0, 0) _ rfl hgf Tryz.underlying28 rfl hi28z) rfl ?_
      exact PP.out _ (below_setRow BQ.out _ (by have := HPB.out; omega) _)
  have HK4 := Aside0.mk hk4
  by_cases hk5 : c.k = 5
  · have HK5 := Aside0.mk hk5
    have C5 := Aside0.mk (IC.out W5 wb W4.heap.size q5 HWK.out)
    have X5 := KC5.out
    go_upto_region 13 with (first | (refine wpList_load_row rfl 41 (.tmp 3) rfl cb rfl 41 _ (0, 0) _ X5 Tryz.underlying41 rfl hi41 ?_) | (go_at_call 16; refine C5.out.mono ?_; rintro e W6 ⟨rfl, hwk6, b6⟩; refine Aside0.out ?_))
    refine ⟨?_⟩
    clear hk5 hk4 c50 X5
    obtain ⟨kr, bq⟩ := I5.out W6 b6
    have BQ := Aside0.mk bq
    have AI : Aside0 (∀ d', (intCode KS d c = 0 → d' = intD KS d c) → AppR KS d c (intCode KS d c) d') := ⟨fun d' h => AppR.intent d' HM.out HK5.out h⟩
    have HWK6 := Aside0.mk hwk6
    generalize intCode KS d c = code at *
    by_cases hz : code = 0
    · subst hz
      obtain ⟨hnw6, y1, y2, y3, hb6, hd6⟩ := HWK6.out rfl
      have AR := Aside0.mk (AI.out (intD KS d c) (fun _ => rfl))
      have KB := Aside0.mk hb6
      have DD := Aside0.mk hd6
      generalize intD KS d c = dd at *
      clear hb6 hd6 bq b6 HWK6 hwk6 w50 c55 hnw6
      obtain ⟨B1, m1, B2, m2, B3, m3, rfl, rfl, rfl⟩ := DD.out.forms
      have rl : W6.rangeAt wb 0 [.int .i64 dd.e, .slice B1 _ m1, .slice B2 _ m2, .slice B3 _ m3] := fun j v hj => by
        rw [Nat.zero_add]
        exact cell_in (l := [.int .i64 dd.e, .slice B1 _ m1, .slice B2 _ m2, .slice B3 _ m3]) KB.out hj
      have KR := Aside0.mk kr
      clear kr
      generalize hq1 : dd.us.length = q1 at *
      generalize hq2 : dd.hs.length = q2 at *
      generalize hq3 : dd.ss.length = q3 at *
      have HQ := Aside0.mk (And.intro hq1 (And.intro hq2 hq3))
      clear hq1 hq2 hq3
      have hi28l : (Tryz.prog.info? 28).map (·.size) = some [Value.int .i64 dd.e, .slice B1 q1 m1, .slice B2 q2 m2, .slice B3 q3 m3].length := hi28
      have hi28c : (Tryz.prog.info? 28).map (·.size) = some #[Value.int .i64 dd.e, .slice B1 q1 m1, .slice B2 q2 m2, .slice B3 q3 m3].size := hi28
      have hz28 : z28.toArray.size = #[Value.int .i64 dd.e, .slice B1 q1 m1, .slice B2 q2 m2, .slice B3 q3 m3].size := rfl
      have h128 : #[Value.int .i64 dd.e, .slice B1 q1 m1, .slice B2 q2 m2, .slice B3 q3 m3].all (·.oneCell') = true := by simp [Value.oneCell']
      go_wp2_with (first | (refine wpList_load_mid rfl 28 (.tmp 52) rfl wb 0 rfl _ _ rl Tryz.underlying28 rfl hi28l ?_) | (refine wpList_store_row rfl 28 (.tmp 4) (.tmp 53) rfl rb _ rfl rfl 28 _ KR.out hi28c hz28 h128 ?_))
      have hgf := setRow_heap W6 rb _ #[Value.int .i64 dd.e, .slice B1 q1 m1, .slice B2 q2 m2, .slice B3 q3 m3] 28 (0, 0) KR.out
      refine bodyPost_ret (results_ct rfl _ _ rb 28 _ (0, 0) _ rfl hgf Tryz.underlying28 rfl hi28c) rfl ?_
      refine ⟨0, _, _, _, _, _, _, _, _, _, _, rfl, AR.out, fun _ => ⟨W4.heap.size, q4.size, ?_⟩, below_setRow BQ.out _ (by have := HPB.out; omega) _⟩
      rw [HQ.out.1, HQ.out.2.1, HQ.out.2.2] at *
      exact DirC.frame DD.out fun k h1 h2 => setRow_other _ rb k _ (by omega)
    · have PP : Aside0 (∀ W, Below w.heap.size w W → AppPost KS d c w (.returned (.tuple #[.agg z28.toArray, .int .i64 code])) W) := ⟨fun W hW => app_err hz (AI.out dir0 (fun h => absurd h hz)) hW⟩
      clear bq b6 HWK6 hwk6 w50 c55 AI
      go_wp2_with (refine wpList_store_row rfl 28 (.tmp 4) (.tmp 48) rfl rb z28.toArray rfl rfl 28 _ kr hi28z rfl z28_one ?_)
      have hgf := setRow_heap W6 rb _ z28.toArray 28 (0, 0) kr
      refine bodyPost_ret (results_ct rfl _ _ rb 28 _ (0, 0) _ rfl hgf Tryz.underlying28 rfl hi28z) rfl ?_
      exact PP.out _ (below_setRow BQ.out _ (by have := HPB.out; omega) _)
  have HK5 := Aside0.mk hk5
  have h3 : c.k = 1 ∨ c.k = 2 ∨ c.k = 3 := by
    have := may_ks HM.out
    omega
  have H3 := Aside0.mk h3
  have C5 := Aside0.mk (RC.out HM.out h3 W5 wb W4.heap.size HWK.out)
  have X5 := KC5.out
  clear h3
  go_upto_region 13 with (first | (refine wpList_load_row rfl 41 (.tmp 3) rfl cb rfl 41 _ (0, 0) _ X5 Tryz.underlying41 rfl hi41 ?_) | (go_at_call 17; refine C5.out.mono ?_; rintro e W6 ⟨i, j, hi, hj, rfl, hwk6, b6⟩; refine Aside0.out ?_))
  refine ⟨?_⟩
  clear hk5 hk4 c50 X5
  obtain ⟨kr, bq⟩ := I5.out W6 b6
  have BQ := Aside0.mk bq
  have AI : Aside0 (∀ d', (reqCode d c j = 0 → d' = reqD d c i j) → AppR KS d c (reqCode d c j) d') := ⟨fun d' h => AppR.request d' i j HM.out H3.out hi hj h⟩
  have HWK6 := Aside0.mk hwk6
  clear hi hj
  generalize reqCode d c j = code at *
  by_cases hz : code = 0
  · subst hz
    obtain ⟨hnw6, y1, y2, y3, hb6, hd6⟩ := HWK6.out rfl
    have AR := Aside0.mk (AI.out (reqD d c i j) (fun _ => rfl))
    have KB := Aside0.mk hb6
    have DD := Aside0.mk hd6
    generalize reqD d c i j = dd at *
    clear hb6 hd6 bq b6 HWK6 hwk6 w50 c55 hnw6
    obtain ⟨B1, m1, B2, m2, B3, m3, rfl, rfl, rfl⟩ := DD.out.forms
    have rl : W6.rangeAt wb 0 [.int .i64 dd.e, .slice B1 _ m1, .slice B2 _ m2, .slice B3 _ m3] := fun j v hj => by
      rw [Nat.zero_add]
      exact cell_in (l := [.int .i64 dd.e, .slice B1 _ m1, .slice B2 _ m2, .slice B3 _ m3]) KB.out hj
    have KR := Aside0.mk kr
    clear kr
    generalize hq1 : dd.us.length = q1 at *
    generalize hq2 : dd.hs.length = q2 at *
    generalize hq3 : dd.ss.length = q3 at *
    have HQ := Aside0.mk (And.intro hq1 (And.intro hq2 hq3))
    clear hq1 hq2 hq3
    have hi28l : (Tryz.prog.info? 28).map (·.size) = some [Value.int .i64 dd.e, .slice B1 q1 m1, .slice B2 q2 m2, .slice B3 q3 m3].length := hi28
    have hi28c : (Tryz.prog.info? 28).map (·.size) = some #[Value.int .i64 dd.e, .slice B1 q1 m1, .slice B2 q2 m2, .slice B3 q3 m3].size := hi28
    have hz28 : z28.toArray.size = #[Value.int .i64 dd.e, .slice B1 q1 m1, .slice B2 q2 m2, .slice B3 q3 m3].size := rfl
    have h128 : #[Value.int .i64 dd.e, .slice B1 q1 m1, .slice B2 q2 m2, .slice B3 q3 m3].all (·.oneCell') = true := by simp [Value.oneCell']
    go_wp2_with (first | (refine wpList_load_mid rfl 28 (.tmp 52) rfl wb 0 rfl _ _ rl Tryz.underlying28 rfl hi28l ?_) | (refine wpList_store_row rfl 28 (.tmp 4) (.tmp 53) rfl rb _ rfl rfl 28 _ KR.out hi28c hz28 h128 ?_))
    have hgf := setRow_heap W6 rb _ #[Value.int .i64 dd.e, .slice B1 q1 m1, .slice B2 q2 m2, .slice B3 q3 m3] 28 (0, 0) KR.out
    refine bodyPost_ret (results_ct rfl _ _ rb 28 _ (0, 0) _ rfl hgf Tryz.underlying28 rfl hi28c) rfl ?_
    refine ⟨0, _, _, _, _, _, _, _, _, _, _, rfl, AR.out, fun _ => ⟨W4.heap.size, q4.size, ?_⟩, below_setRow BQ.out _ (by have := HPB.out; omega) _⟩
    rw [HQ.out.1, HQ.out.2.1, HQ.out.2.2] at *
    exact DirC.frame DD.out fun k h1 h2 => setRow_other _ rb k _ (by omega)
  · have PP : Aside0 (∀ W, Below w.heap.size w W → AppPost KS d c w (.returned (.tuple #[.agg z28.toArray, .int .i64 code])) W) := ⟨fun W hW => app_err hz (AI.out dir0 (fun h => absurd h hz)) hW⟩
    clear bq b6 HWK6 hwk6 w50 c55 AI
    go_wp2_with (refine wpList_store_row rfl 28 (.tmp 4) (.tmp 48) rfl rb z28.toArray rfl rfl 28 _ kr hi28z rfl z28_one ?_)
    have hgf := setRow_heap W6 rb _ z28.toArray 28 (0, 0) kr
    refine bodyPost_ret (results_ct rfl _ _ rb 28 _ (0, 0) _ rfl hgf Tryz.underlying28 rfl hi28z) rfl ?_
    exact PP.out _ (below_setRow BQ.out _ (by have := HPB.out; omega) _)
end Go.Proofs.YtadkeohohehmcaaGreatDoor.Top
