/- Several texts in one. -/
import Derived.Test.YtadkeohohehmcaaGreatDoorHeA
import Derived.Great.BuildSlice
section
/- The versions of an epoch: a copy; the next version. -/
namespace Go.Proofs.YtadkeohohehmcaaGreatDoor.Top
open Go.RowKit Go.Proofs.YtadkeohohehmcaaGreatDoorW.PrintWords Go.Proofs.YtadkeohohehmcaaGreatDoorW.PrintLast Go.Proofs.YtadkeohohehmcaaGreatDoorW.PrintMore Go.Proofs.YtadkeohohehmcaaGreatDoor.PTop
set_option linter.unusedVariables false
set_option linter.unusedSimpArgs false
attribute [local go_sem] Oper.semAt_some

theorem Reads.take {w : World} {k n c m : Nat} {A : Option Addr} {xs : List Value} (h : Reads w k (.slice A n c) n xs) (hm : m ≤ n) : Reads w k (.slice A m c) m (xs.take (m * k)) := by
  have hl : (xs.take (m * k)).length = m * k := by
    rw [List.length_take, h.1]
    exact Nat.min_eq_left (Nat.mul_le_mul_right k hm)
  refine ⟨hl, ?_⟩
  rcases h.2 with ⟨h1, h2⟩ | ⟨b, off, c', h1, hc, hx⟩
  · injection h1 with h1 _ h3
    subst h1
    subst h3
    exact Or.inl ⟨by rw [show m = 0 by omega], by omega⟩
  · injection h1 with h1 _ h3
    subst h1
    subst h3
    refine Or.inr ⟨b, off, c, rfl, by omega, fun j u hj => hx j u ?_⟩
    rw [List.getElem?_take] at hj
    split at hj
    · exact hj
    · cases hj
theorem atF_take (e : Int) (vs : List S68) : atF e vs = vs.take (atF e vs).length := by
  unfold atF
  induction vs with
  | nil => rfl
  | cons x r ih =>
    rw [List.takeWhile_cons]
    split
    · rw [List.length_cons, List.take_succ_cons, ← ih]
    · rfl
def AtPost (vs : List S68) (w : World) (en : Ending) (w' : World) : Prop := ∃ v', en = .returned v' ∧ w'.ownsRow w.heap.size 68 3 v' vs.length (vsC vs) ∧ Below w.heap.size w w'
set_option maxHeartbeats 4000000 in
set_option maxRecDepth 100000 in
theorem at_c (v : Value) (vs : List S68) (e : Int) (w : World) (h : Vs w v vs) (hc : CheckOk vs) : Calls Tryz.prog 36 #[v, .int .i64 e] w fun en w' => AtPost (atF e vs) w en w' := by
  have h16 := hc.1
  obtain ⟨A, c, rfl, hlc⟩ := Reads.form h
  obtain ⟨W0, hW0⟩ : ∃ W0, w.alloc (.cells #[.int .i64 e] 3) = W0 := ⟨_, rfl⟩
  have b0 : Below w.heap.size w W0 := by rw [← hW0]; exact (Below.refl _ w).alloc (Nat.le_refl _) _
  have s0 : W0.heap.size = w.heap.size + 1 := by rw [← hW0]; simp
  have k0 : W0.heap[w.heap.size]? = some (.cells #[.int .i64 e] 3 (0, 0)) := by rw [← hW0]; exact blk_new w _
  have CK := Aside0.mk (check_c _ vs W0 (Reads.below h b0) hc)
  have IX : Aside0 (∀ W, Below W0.heap.size W0 W → Calls Tryz.prog 61 #[.slice A vs.length c, .func (.func 62) #[] #[.pointer (some ⟨w.heap.size, 0, none⟩)]] W fun en w' => IdxPost e vs en ∧ Below W.heap.size W w') := ⟨fun W hW => index_c _ vs e w.heap.size W (Reads.below h (b0.trans (hW.mono (by omega)))) (by omega) (by simp [World.cell?, (hW.block w.heap.size (by omega)).trans k0])⟩
  have CL : Aside0 (∀ (m : Nat) (W : World), m ≤ vs.length → Below w.heap.size w W → atF e vs = vs.take m → Calls Tryz.prog 27 #[.slice A m c] W fun en w' => CloneP 68 3 (atF e vs).length (vsC (atF e vs)) W en w') := ⟨fun m W hm hW he => by
    have h1 := Reads.take (Reads.below h hW) hm
    rw [vsC_take, ← he] at h1
    have h2 : (atF e vs).length = m := by rw [he, List.length_take]; omega
    rw [h2]
    exact clone_ver _ m _ W h1 (by omega) (vsC_one _)⟩
  have HS := Aside0.mk (And.intro b0 s0)
  have H0 := Aside0.mk hW0
  have hlci : (vs.length : Int) ≤ (c : Int) := by omega
  clear h hc k0 b0 s0 hW0
  go_enter Tryz.func36, Tryz.ntmps36
  go_upto_region 1 with fail
  rw [H0.out]
  clear H0
  go_upto_region 3 with (go_at_call 24; refine CK.out.mono ?_; rintro en W1 ⟨rfl, hb1⟩)
  have I1 := Aside0.mk (IX.out W1 hb1)
  have q1 : Below w.heap.size w W1 := HS.out.1.trans (hb1.mono (by have := HS.out.2; omega))
  have hs1 := q1.size
  clear IX CK hb1
  go_upto_region 4 with (go_at_call 61; refine I1.out.mono ?_; rintro en W2 ⟨⟨rfl, hz⟩ | ⟨i, rfl, hi, hz⟩, hb2⟩ <;> refine Aside0.out ?_)
  · refine ⟨?_⟩
    have q2 : Below w.heap.size w W2 := q1.trans (hb2.mono hs1)
    have C2 := Aside0.mk (CL.out vs.length W2 (Nat.le_refl _) q2 (by rw [hz, List.take_length]))
    have hs2 := q2.size
    clear CL I1
    go_wp2_with (go_at_call 27; refine C2.out.mono ?_; rintro en W3 ⟨v', rfl, ho, hb3⟩)
    go_ret
    exact ⟨v', rfl, own_weaken ho hs2, q2.trans (hb3.mono hs2)⟩
  · refine ⟨?_⟩
    have q2 : Below w.heap.size w W2 := q1.trans (hb2.mono hs1)
    have C2 := Aside0.mk (CL.out i W2 (by omega) q2 hz)
    have hs2 := q2.size
    have hi1 : ¬ (i : Int) < 0 := by omega
    have hi2 : (i : Int) ≤ (c : Int) := by omega
    have hi3 : (0 : Int) ≤ (i : Int) := by omega
    clear CL I1
    go_wp2_with (go_at_call 27; refine C2.out.mono ?_; rintro en W3 ⟨v', rfl, ho, hb3⟩)
    go_ret
    exact ⟨v', rfl, own_weaken ho hs2, q2.trans (hb3.mono hs2)⟩
end Go.Proofs.YtadkeohohehmcaaGreatDoor.Top
end
section
/- The next version. -/
namespace Go.Proofs.YtadkeohohehmcaaGreatDoor.Top
open Go.RowKit Go.Proofs.YtadkeohohehmcaaGreatDoorW.PrintWords Go.Proofs.YtadkeohohehmcaaGreatDoorW.PrintLast Go.Proofs.YtadkeohohehmcaaGreatDoorW.PrintMore Go.Proofs.YtadkeohohehmcaaGreatDoor.PTop
set_option linter.unusedVariables false
set_option linter.unusedSimpArgs false
attribute [local go_sem] Oper.semAt_some

def nextF (vs : List S68) (x : S68) : Int := if x.f1 = 1 ∧ opn (lastF vs) = false then 51 else if x.f1 ≠ 1 ∧ opn (lastF vs) = true then 52 else if vs.length = 16 then 2 else 0
def NextPost (vs : List S68) (x : S68) (w : World) (e : Ending) (w' : World) : Prop :=
  (∃ v', e = .returned (.tuple #[v', .int .i64 (nextF vs x)]) ∧ (nextF vs x = 0 → w'.ownsRow w.heap.size 68 3 v' (vs.length + 1) (vsC (vs ++ [x])))) ∧ Below w.heap.size w w'
set_option maxHeartbeats 4000000 in
set_option maxRecDepth 100000 in
theorem next_c (v : Value) (vs : List S68) (x : S68) (w : World) (h : Vs w v vs) (hc : CheckOk vs) (hmay : mayB x = true) (hle : (lastF vs).f0 ≤ x.f0) : Calls Tryz.prog 52 #[v, verV x] w fun e w' => NextPost vs x w e w' := by
  have h16 := hc.1
  obtain ⟨A, c, rfl, hlc⟩ := Reads.form h
  obtain ⟨W0, hW0⟩ : ∃ W0, w.alloc (.cells (vcells x).toArray 68) = W0 := ⟨_, rfl⟩
  have b0 : Below w.heap.size w W0 := by rw [← hW0]; exact (Below.refl _ w).alloc (Nat.le_refl _) _
  have s0 : W0.heap.size = w.heap.size + 1 := by rw [← hW0]; simp
  have k0 : W0.heap[w.heap.size]? = some (.cells (vcells x).toArray 68 (0, 0)) := by rw [← hW0]; exact blk_new w _
  have HV : Aside0 (∀ W, Below w.heap.size w W → Vs W (.slice A vs.length c) vs) := ⟨fun W hW => Reads.below h hW⟩
  have LC : Aside0 (Calls Tryz.prog 44 #[.slice A vs.length c] W0 fun e w' => e = .returned (verV (lastF vs)) ∧ Below W0.heap.size W0 w') := ⟨last_c _ vs W0 (HV.out W0 b0) (by omega)⟩
  have CK : Aside0 (∀ W, Below w.heap.size w W → Calls Tryz.prog 24 #[.slice A vs.length c] W fun e w' => e = .returned (.int .i64 0) ∧ Below W.heap.size W w') := ⟨fun W hW => check_c _ vs W (HV.out W hW) hc⟩
  have MC : Aside0 (∀ W, Calls Tryz.prog 45 #[verV x] W fun e w' => e = .returned (.bool true) ∧ Below W.heap.size W w') := ⟨fun W => by have := may_c x W; rwa [hmay] at this⟩
  have OC : Aside0 (∀ W, Calls Tryz.prog 46 #[verV (lastF vs)] W fun e w' => e = .returned (.bool (opn (lastF vs))) ∧ Below W.heap.size W w') := ⟨fun W => open_c _ W⟩
  have CL : Aside0 (∀ W, Below w.heap.size w W → Calls Tryz.prog 27 #[.slice A vs.length c] W fun e w' => CloneP 68 3 vs.length (vsC vs) W e w') := ⟨fun W hW => clone_ver _ _ _ W (HV.out W hW) (by omega) (vsC_one _)⟩
  have HS := Aside0.mk (And.intro b0 s0)
  have H0 := Aside0.mk hW0
  have K0 := Aside0.mk k0
  have hnf : nextF vs x = if x.f1 = 1 ∧ opn (lastF vs) = false then 51 else if x.f1 ≠ 1 ∧ opn (lastF vs) = true then 52 else if vs.length = 16 then 2 else 0 := rfl
  have HNF := Aside0.mk hnf
  have NP : Aside0 (∀ e w', NextPost vs x w e w' ↔ ((∃ v', e = .returned (.tuple #[v', .int .i64 (nextF vs x)]) ∧ (nextF vs x = 0 → w'.ownsRow w.heap.size 68 3 v' (vs.length + 1) (vsC (vs ++ [x])))) ∧ Below w.heap.size w w')) := ⟨fun _ _ => Iff.rfl⟩
  have VA : Aside0 (vsC (vs ++ [x]) = vsC vs ++ vcells x) := ⟨by rw [vsC_append]; simp [vsC]⟩
  clear h hc hmay k0 b0 s0 hW0 HV hnf
  generalize nextF vs x = nf at *
  obtain ⟨L, hL⟩ : ∃ L, L = lastF vs := ⟨_, rfl⟩
  rw [← hL] at LC OC HNF hle
  clear hL
  generalize opn L = op at *
  obtain ⟨l0, l1, l2⟩ := L
  obtain ⟨x0, x1, x2⟩ := x
  unfold verV at LC OC MC ⊢
  dsimp only at LC OC MC HNF hle ⊢
  have VX : Aside0 (vcells ⟨x0, x1, x2⟩ = [.int .i64 x0, .int .i64 x1, .string x2]) := ⟨rfl⟩
  rw [VX.out] at H0 K0 VA
  have hnle : ¬ x0 < l0 := by omega
  go_enter Tryz.func52, Tryz.ntmps52
  go_upto_region 1 with fail
  rw [H0.out]
  go_upto_region 2 with (go_at_call 44; refine LC.out.mono ?_; rintro e W1 ⟨rfl, hb1⟩)
  obtain ⟨W2, hW2⟩ : ∃ W2, W1.alloc (.cells #[.int .i64 l0, .int .i64 l1, .string l2] 68) = W2 := ⟨_, rfl⟩
  have hs1 := hb1.size
  have hs0 := HS.out.2
  have s2 : W2.heap.size = W1.heap.size + 1 := by rw [← hW2]; simp
  have q1 : Below w.heap.size w W1 := HS.out.1.trans (hb1.mono (by omega))
  have q2 : Below w.heap.size w W2 := by rw [← hW2]; exact q1.alloc (by omega) _
  have kx : W2.heap[w.heap.size]? = some (.cells #[.int .i64 x0, .int .i64 x1, .string x2] 68 (0, 0)) := by
    rw [← hW2, uOld _ _ _ (by omega)]
    exact (hb1.block _ (by omega)).trans K0.out
  have kl : W2.heap[W1.heap.size]? = some (.cells #[.int .i64 l0, .int .i64 l1, .string l2] 68 (0, 0)) := by rw [← hW2]; exact blk_new W1 _
  rw [hW2]
  generalize hxb : w.heap.size = xb at *
  generalize W1.heap.size = lb at *
  have FX : ∀ W, Below W2.heap.size W2 W → (W.cell? ⟨xb, 0, none⟩ = some (.int .i64 x0) ∧ W.cell? ⟨xb, 1, none⟩ = some (.int .i64 x1) ∧ W.cell? ⟨xb, 2, none⟩ = some (.string x2)) ∧ (W.cell? ⟨lb, 0, none⟩ = some (.int .i64 l0) ∧ W.cell? ⟨lb, 1, none⟩ = some (.int .i64 l1) ∧ W.cell? ⟨lb, 2, none⟩ = some (.string l2)) ∧ Below xb w W := fun W hW => by
    have a := (hW.block xb (by omega)).trans kx
    have b := (hW.block lb (by omega)).trans kl
    refine ⟨⟨?_, ?_, ?_⟩, ⟨?_, ?_, ?_⟩, q2.trans (hW.mono (by omega))⟩
    all_goals simp [World.cell?, a, b]
  have FF := Aside0.mk FX
  have C2 := Aside0.mk (CK.out W2 q2)
  have HZ := Aside0.mk (And.intro hxb (And.intro s2 (And.intro hs1 hs0)))
  clear FX kx kl q1 q2 hW2 hb1 CK LC H0 K0 HS hxb s2 hs1 hs0
  go_upto_region 4 with (first | (go_at_call 24; refine C2.out.mono ?_; rintro e W3 ⟨rfl, hb3⟩; obtain ⟨⟨a0, a1, a2⟩, _, _⟩ := FF.out W3 hb3) | (go_at_call 45; refine (MC.out _).mono ?_; rintro e W4 ⟨rfl, hb4⟩; obtain ⟨⟨d0, d1, d2⟩, ⟨d3, d4, d5⟩, _⟩ := FF.out W4 (hb3.trans (hb4.mono hb3.size))))
  obtain ⟨i68, j1, j2, j3, j4⟩ := info_of info68
  have hi68c : (Tryz.prog.info? 68).map (·.size) = some [Value.int .i64 x0, .int .i64 x1, .string x2].length := info68s ⟨x0, x1, x2⟩
  have hb4' : Below W2.heap.size W2 W4 := hb3.trans (hb4.mono hb3.size)
  have FR : Aside0 (∀ W, Below W2.heap.size W2 W → W.rangeAt xb 0 [.int .i64 x0, .int .i64 x1, .string x2]) := ⟨fun W hW j u hj => by
    obtain ⟨⟨a, b, c⟩, _⟩ := FF.out W hW
    have hl : j < 3 := (List.getElem?_eq_some_iff.1 hj).1
    match j, hl with
    | 0, _ => rw [a, ← hj]; rfl
    | 1, _ => rw [b, ← hj]; rfl
    | 2, _ => rw [c, ← hj]; rfl⟩
  by_cases hk1 : x1 = 1
  · cases op
    · have hnf : nf = 51 := by rw [HNF.out, if_pos ⟨hk1, rfl⟩]
      subst hnf
      go_wp2_with (go_at_call 46; refine (OC.out _).mono ?_; rintro e W5 ⟨rfl, hb5⟩)
      refine bodyPost_ret (results_tmp2 rfl _ _ _) rfl ?_
      exact (NP.out _ _).2 ⟨⟨_, rfl, fun h => absurd h (by decide)⟩, (FF.out W5 (hb4'.trans (hb5.mono hb4'.size))).2.2⟩
    · subst hk1
      have NFX : (if (1 : Int) = 1 ∧ true = false then (51 : Int) else if (1 : Int) ≠ 1 ∧ true = true then 52 else if vs.length = 16 then 2 else 0) = if vs.length = 16 then 2 else 0 := by simp
      go_upto_region 6 with (go_at_call 46; refine (OC.out _).mono ?_; rintro e W5 ⟨rfl, hb5⟩)
      have hb5' : Below W2.heap.size W2 W5 := hb4'.trans (hb5.mono hb4'.size)
      obtain ⟨⟨g0, g1, g2⟩, _, _⟩ := FF.out W5 hb5'
      go_upto_region 8 with fail
      by_cases h16e : vs.length = 16
      · have hle16 : (vs.length : Int) = 16 := by omega
        have hnf : nf = 2 := by rw [HNF.out, NFX, if_pos h16e]
        have q9 := (FF.out W5 hb5').2.2
        subst hnf
        go_wp2_with fail
        refine bodyPost_ret (results_tmp2 rfl _ _ _) rfl ?_
        exact (NP.out _ _).2 ⟨⟨_, rfl, fun h => absurd h (by decide)⟩, q9⟩
      · have hle16 : ¬ (vs.length : Int) = 16 := by omega
        have hnf : nf = 0 := by rw [HNF.out, NFX, if_neg h16e]
        have q9 := (FF.out W5 hb5').2.2
        subst hnf
        have hzz := HZ.out
        have C9 := Aside0.mk (CL.out W5.drew q9.drew)
        have r0 : W5.rangeAt xb 0 [.int .i64 x0, .int .i64 1, .string x2] := FR.out W5 hb5'
        clear hzz
        go_upto_region 10 with fail
        refine wp_region_held_drew (S := (fun W => W.rangeAt xb 0 [.int .i64 x0, .int .i64 1, .string x2])) (by kernel_rfl) (by exact r0) (fun hHeld => ?_)
        refine wpAnyH_take (i := 0) (oi := _) (v := ?_) rfl (by kernel_rfl) (by kernel_rfl) (by kernel_rfl) (fun _ _ _ h => h) (Or.inl ⟨by rfl, ?_⟩) (by assumption) ?_
        rotate_left
        · (intro w hSw; (try dsimp only at hSw); go_simp; (try with_reducible rfl))
        (try simp only [uA, uB, uC, uD, uE, uF, uG, uH])
        refine wpAnyH_take (i := 2) (oi := _) (v := _) rfl (by kernel_rfl) (by kernel_rfl) (by kernel_rfl) (fun _ _ _ h => h) (yieldsIf_load_mid (by rfl) 68 (.tmp 3) rfl xb 0 rfl [.int .i64 x0, .int .i64 1, .string x2] _ (fun W hW => hW) Tryz.underlying68 rfl hi68c) (by assumption) ?_
        (try simp only [uA, uB, uC, uD, uE, uF, uG, uH])
        refine wpAnyH_ready (rs := [1, 3]) (by kernel_rfl) (by decide) (AllReadyH.cons rfl (fun K' hK => ?_) (AllReadyH.cons rfl (fun K' hK => ?_) AllReadyH.nil))
        · rw [if_pos (by rfl)]
          go_simp
          refine (C9.out).mono ?_
          rintro e W6 ⟨v6, rfl, ho6, hb6⟩
          (try dsimp only)
          have hxl : xb < W5.heap.size := block_lt_of_cell (r0 0 _ rfl)
          have r6 : W6.rangeAt xb 0 [.int .i64 x0, .int .i64 1, .string x2] := range_same r0 (hb6.block xb hxl)
          have hs6 : W5.heap.size ≤ W6.heap.size := hb6.size
          have q6 : Below xb w W6 := q9.drew.trans (hb6.mono (Nat.le_of_lt hxl))
          have ho6' : W6.ownsRow xb 68 3 v6 vs.length (vsC vs) := own_weaken ho6 (Nat.le_of_lt hxl)
          refine hK.out _ _ (by exact r6) (fun hHeld => ?_)
          clear hK r0 C9
          (try simp only [uA, uB, uC, uD, uE, uF, uG, uH])
          refine wpAnyH_ready (rs := [3]) (by kernel_rfl) (by decide) (AllReadyH.cons rfl (fun K' hK => ?_) AllReadyH.nil)
          rw [if_pos (by rfl)]
          go_simp
          obtain ⟨W7, hW7⟩ : ∃ W7, W6.alloc (.cells #[.int .i64 x0, .int .i64 1, .string x2] 68) = W7 := ⟨_, rfl⟩
          have b7 : Below W6.heap.size W6 W7 := by rw [← hW7]; exact (Below.refl _ _).alloc (Nat.le_refl _) _
          have k7 : W7.heap[W6.heap.size]? = some (.cells #[.int .i64 x0, .int .i64 1, .string x2] 68 (0, 0)) := by rw [← hW7]; exact blk_new W6 _
          have n7 : ∀ j u, [Value.int .i64 x0, .int .i64 1, .string x2][j]? = some u → W7.cell? ((⟨W6.heap.size, 0, none⟩ : Addr).add j) = some u := fun j u hj => by
            rw [Addr.add_lit, Nat.zero_add]
            exact cell_in (l := [.int .i64 x0, .int .i64 1, .string x2]) k7 hj
          have hxl6 : xb < W6.heap.size := block_lt_of_cell (r6 0 _ rfl)
          have r7 : W7.rangeAt xb 0 [.int .i64 x0, .int .i64 1, .string x2] := range_same r6 (b7.block xb hxl6)
          have ho7 : W7.ownsRow xb 68 3 v6 vs.length (vsC vs) := own_move ho6' fun k e => b7.block k (ho6'.lt k e).2
          have q7 : Below xb w W7 := q6.trans (b7.mono (Nat.le_of_lt hxl6))
          have xl7 : xb ≤ W7.heap.size := by have := b7.size; omega
          have ne7 : v6.ownBlock ≠ some xb := fun e => Nat.lt_irrefl _ (Nat.lt_of_lt_of_le hxl (ho6.lt xb e).1)
          (try rw [hW7])
          refine hK.out _ _ (by exact r7) (fun hHeld => ?_)
          clear hK
          (try simp only [uA, uB, uC, uD, uE, uF, uG, uH])
          refine wpAnyH_ready (rs := [4]) (by kernel_rfl) (by decide) (AllReadyH.cons rfl (fun K' hK => ?_) AllReadyH.nil)
          rw [if_pos (by rfl)]
          refine wp_append_own W7 (.tmp 47) (.tmp 49) 61 rfl xb 68 i68 _ 3 32 Tryz.underlying61 j1 j2 j3 j4 rfl (by decide) v6 vs.length (vsC vs) rfl ho7 ⟨W6.heap.size, 0, none⟩ 1 1 [.int .i64 x0, .int .i64 1, .string x2] rfl rfl n7 (by simp [Value.oneCell']) (by simp only [maxLen]; omega) (by omega) xl7 ?_
          intro v8 W8 ho8 hg8 _
          (try dsimp only)
          have q8 : Below xb w W8 := q7.grown hg8 xl7 fun k e => (ho7.lt k e).1
          have r8 : W8.rangeAt xb 0 [.int .i64 x0, .int .i64 1, .string x2] := range_same r7 (hg8.block xb (block_lt_of_cell (r7 0 _ rfl)) (fun e => ne7 e.symm))
          refine hK.out _ _ (by exact r8) (fun hHeld => ?_)
          clear hK
          (try simp only [uA, uB, uC, uD, uE, uF, uG, uH])
          refine wpAnyH_take (i := 5) (oi := _) (v := ?_) rfl (by kernel_rfl) (by kernel_rfl) (by kernel_rfl) (fun _ _ _ h => h) (Or.inl ⟨by rfl, ?_⟩) (by assumption) ?_
          rotate_left
          · (intro w hSw; (try dsimp only at hSw); go_simp; (try with_reducible rfl))
          (try simp only [uA, uB, uC, uD, uE, uF, uG, uH])
          refine wpAnyH_take (i := 6) (oi := _) (v := ?_) rfl (by kernel_rfl) (by kernel_rfl) (by kernel_rfl) (fun _ _ _ h => h) (Or.inl ⟨by rfl, ?_⟩) (by assumption) ?_
          rotate_left
          · (intro w hSw; (try dsimp only at hSw); go_simp; (try with_reducible rfl))
          (try simp only [uA, uB, uC, uD, uE, uF, uG, uH])
          refine wpAnyH_done (by kernel_rfl) ?_ _
          go_wp2_with fail
          refine bodyPost_ret (results_tmp2 rfl _ _ _) rfl ?_
          refine (NP.out _ _).2 ⟨⟨v8, rfl, fun _ => ?_⟩, q8⟩
          rw [VA.out]
          exact ho8
        · rw [if_pos (by rfl)]
          go_simp
          have hxl : xb < W5.heap.size := block_lt_of_cell (r0 0 _ rfl)
          obtain ⟨W6, hW6⟩ : ∃ W6, W5.drew.alloc (.cells #[.int .i64 x0, .int .i64 1, .string x2] 68) = W6 := ⟨_, rfl⟩
          have hW6' : (W5.alloc (.cells #[.int .i64 x0, .int .i64 1, .string x2] 68)).drew = W6 := by rw [← hW6]; rfl
          have b6 : Below W5.heap.size W5 W6 := by rw [← hW6']; exact ((Below.refl _ _).alloc (Nat.le_refl _) _).drew
          have k6 : W6.heap[W5.heap.size]? = some (.cells #[.int .i64 x0, .int .i64 1, .string x2] 68 (0, 0)) := by rw [← hW6']; exact blk_new W5 _
          have s6 : W6.heap.size = W5.heap.size + 1 := by rw [← hW6']; simp
          have r6 : W6.rangeAt xb 0 [.int .i64 x0, .int .i64 1, .string x2] := range_same r0 (b6.block xb hxl)
          have q6 : Below xb w W6 := q9.trans (b6.mono (Nat.le_of_lt hxl))
          have C6 := Aside0.mk (CL.out W6 q6)
          (first | rw [hW6] | rw [hW6'] | skip)
          refine hK.out _ _ (by exact r6) (fun hHeld => ?_)
          clear hK r0 C9 CL
          (try simp only [uA, uB, uC, uD, uE, uF, uG, uH])
          refine wpAnyH_ready (rs := [1]) (by kernel_rfl) (by decide) (AllReadyH.cons rfl (fun K' hK => ?_) AllReadyH.nil)
          rw [if_pos (by rfl)]
          go_simp
          refine (C6.out).mono ?_
          rintro e W7 ⟨v6, rfl, ho6, b7⟩
          (try dsimp only)
          have k7 := (b7.block W5.heap.size (by omega)).trans k6
          have n7 : ∀ j u, [Value.int .i64 x0, .int .i64 1, .string x2][j]? = some u → W7.cell? ((⟨W5.heap.size, 0, none⟩ : Addr).add j) = some u := fun j u hj => by
            rw [Addr.add_lit, Nat.zero_add]
            exact cell_in (l := [.int .i64 x0, .int .i64 1, .string x2]) k7 hj
          have hxl6 : xb < W6.heap.size := by omega
          have r7 : W7.rangeAt xb 0 [.int .i64 x0, .int .i64 1, .string x2] := range_same r6 (b7.block xb hxl6)
          have ho7 : W7.ownsRow xb 68 3 v6 vs.length (vsC vs) := own_weaken ho6 (by omega)
          have q7 : Below xb w W7 := q6.trans (b7.mono (Nat.le_of_lt hxl6))
          have xl7 : xb ≤ W7.heap.size := by have := b7.size; omega
          have ne7 : v6.ownBlock ≠ some xb := fun e => by have := (ho6.lt xb e).1; omega
          refine hK.out _ _ (by exact r7) (fun hHeld => ?_)
          clear hK
          (try simp only [uA, uB, uC, uD, uE, uF, uG, uH])
          refine wpAnyH_ready (rs := [4]) (by kernel_rfl) (by decide) (AllReadyH.cons rfl (fun K' hK => ?_) AllReadyH.nil)
          rw [if_pos (by rfl)]
          refine wp_append_own W7 (.tmp 47) (.tmp 49) 61 rfl xb 68 i68 _ 3 32 Tryz.underlying61 j1 j2 j3 j4 rfl (by decide) v6 vs.length (vsC vs) rfl ho7 ⟨W5.heap.size, 0, none⟩ 1 1 [.int .i64 x0, .int .i64 1, .string x2] rfl rfl n7 (by simp [Value.oneCell']) (by simp only [maxLen]; omega) (by omega) xl7 ?_
          intro v8 W8 ho8 hg8 _
          (try dsimp only)
          have q8 : Below xb w W8 := q7.grown hg8 xl7 fun k e => (ho7.lt k e).1
          have r8 : W8.rangeAt xb 0 [.int .i64 x0, .int .i64 1, .string x2] := range_same r7 (hg8.block xb (block_lt_of_cell (r7 0 _ rfl)) (fun e => ne7 e.symm))
          refine hK.out _ _ (by exact r8) (fun hHeld => ?_)
          clear hK
          (try simp only [uA, uB, uC, uD, uE, uF, uG, uH])
          refine wpAnyH_take (i := 5) (oi := _) (v := ?_) rfl (by kernel_rfl) (by kernel_rfl) (by kernel_rfl) (fun _ _ _ h => h) (Or.inl ⟨by rfl, ?_⟩) (by assumption) ?_
          rotate_left
          · (intro w hSw; (try dsimp only at hSw); go_simp; (try with_reducible rfl))
          (try simp only [uA, uB, uC, uD, uE, uF, uG, uH])
          refine wpAnyH_take (i := 6) (oi := _) (v := ?_) rfl (by kernel_rfl) (by kernel_rfl) (by kernel_rfl) (fun _ _ _ h => h) (Or.inl ⟨by rfl, ?_⟩) (by assumption) ?_
          rotate_left
          · (intro w hSw; (try dsimp only at hSw); go_simp; (try with_reducible rfl))
          (try simp only [uA, uB, uC, uD, uE, uF, uG, uH])
          refine wpAnyH_done (by kernel_rfl) ?_ _
          go_wp2_with fail
          refine bodyPost_ret (results_tmp2 rfl _ _ _) rfl ?_
          refine (NP.out _ _).2 ⟨⟨v8, rfl, fun _ => ?_⟩, q8⟩
          rw [VA.out]
          exact ho8
  · cases op
    · have NFX : (if x1 = 1 ∧ false = false then (51 : Int) else if x1 ≠ 1 ∧ false = true then 52 else if vs.length = 16 then 2 else 0) = if vs.length = 16 then 2 else 0 := by simp [hk1]
      go_upto_region 8 with (go_at_call 46; refine (OC.out _).mono ?_; rintro e W5 ⟨rfl, hb5⟩)
      have hb5' : Below W2.heap.size W2 W5 := hb4'.trans (hb5.mono hb4'.size)
      obtain ⟨⟨g0, g1, g2⟩, _, _⟩ := FF.out W5 hb5'
      by_cases h16e : vs.length = 16
      · have hle16 : (vs.length : Int) = 16 := by omega
        have hnf : nf = 2 := by rw [HNF.out, NFX, if_pos h16e]
        have q9 := (FF.out W5 hb5').2.2
        subst hnf
        go_wp2_with fail
        refine bodyPost_ret (results_tmp2 rfl _ _ _) rfl ?_
        exact (NP.out _ _).2 ⟨⟨_, rfl, fun h => absurd h (by decide)⟩, q9⟩
      · have hle16 : ¬ (vs.length : Int) = 16 := by omega
        have hnf : nf = 0 := by rw [HNF.out, NFX, if_neg h16e]
        have q9 := (FF.out W5 hb5').2.2
        subst hnf
        have hzz := HZ.out
        have C9 := Aside0.mk (CL.out W5.drew q9.drew)
        have r0 : W5.rangeAt xb 0 [.int .i64 x0, .int .i64 x1, .string x2] := FR.out W5 hb5'
        clear hzz
        go_upto_region 10 with fail
        refine wp_region_held_drew (S := (fun W => W.rangeAt xb 0 [.int .i64 x0, .int .i64 x1, .string x2])) (by kernel_rfl) (by exact r0) (fun hHeld => ?_)
        refine wpAnyH_take (i := 0) (oi := _) (v := ?_) rfl (by kernel_rfl) (by kernel_rfl) (by kernel_rfl) (fun _ _ _ h => h) (Or.inl ⟨by rfl, ?_⟩) (by assumption) ?_
        rotate_left
        · (intro w hSw; (try dsimp only at hSw); go_simp; (try with_reducible rfl))
        (try simp only [uA, uB, uC, uD, uE, uF, uG, uH])
        refine wpAnyH_take (i := 2) (oi := _) (v := _) rfl (by kernel_rfl) (by kernel_rfl) (by kernel_rfl) (fun _ _ _ h => h) (yieldsIf_load_mid (by rfl) 68 (.tmp 3) rfl xb 0 rfl [.int .i64 x0, .int .i64 x1, .string x2] _ (fun W hW => hW) Tryz.underlying68 rfl hi68c) (by assumption) ?_
        (try simp only [uA, uB, uC, uD, uE, uF, uG, uH])
        refine wpAnyH_ready (rs := [1, 3]) (by kernel_rfl) (by decide) (AllReadyH.cons rfl (fun K' hK => ?_) (AllReadyH.cons rfl (fun K' hK => ?_) AllReadyH.nil))
        · rw [if_pos (by rfl)]
          go_simp
          refine (C9.out).mono ?_
          rintro e W6 ⟨v6, rfl, ho6, hb6⟩
          (try dsimp only)
          have hxl : xb < W5.heap.size := block_lt_of_cell (r0 0 _ rfl)
          have r6 : W6.rangeAt xb 0 [.int .i64 x0, .int .i64 x1, .string x2] := range_same r0 (hb6.block xb hxl)
          have hs6 : W5.heap.size ≤ W6.heap.size := hb6.size
          have q6 : Below xb w W6 := q9.drew.trans (hb6.mono (Nat.le_of_lt hxl))
          have ho6' : W6.ownsRow xb 68 3 v6 vs.length (vsC vs) := own_weaken ho6 (Nat.le_of_lt hxl)
          refine hK.out _ _ (by exact r6) (fun hHeld => ?_)
          clear hK r0 C9
          (try simp only [uA, uB, uC, uD, uE, uF, uG, uH])
          refine wpAnyH_ready (rs := [3]) (by kernel_rfl) (by decide) (AllReadyH.cons rfl (fun K' hK => ?_) AllReadyH.nil)
          rw [if_pos (by rfl)]
          go_simp
          obtain ⟨W7, hW7⟩ : ∃ W7, W6.alloc (.cells #[.int .i64 x0, .int .i64 x1, .string x2] 68) = W7 := ⟨_, rfl⟩
          have b7 : Below W6.heap.size W6 W7 := by rw [← hW7]; exact (Below.refl _ _).alloc (Nat.le_refl _) _
          have k7 : W7.heap[W6.heap.size]? = some (.cells #[.int .i64 x0, .int .i64 x1, .string x2] 68 (0, 0)) := by rw [← hW7]; exact blk_new W6 _
          have n7 : ∀ j u, [Value.int .i64 x0, .int .i64 x1, .string x2][j]? = some u → W7.cell? ((⟨W6.heap.size, 0, none⟩ : Addr).add j) = some u := fun j u hj => by
            rw [Addr.add_lit, Nat.zero_add]
            exact cell_in (l := [.int .i64 x0, .int .i64 x1, .string x2]) k7 hj
          have hxl6 : xb < W6.heap.size := block_lt_of_cell (r6 0 _ rfl)
          have r7 : W7.rangeAt xb 0 [.int .i64 x0, .int .i64 x1, .string x2] := range_same r6 (b7.block xb hxl6)
          have ho7 : W7.ownsRow xb 68 3 v6 vs.length (vsC vs) := own_move ho6' fun k e => b7.block k (ho6'.lt k e).2
          have q7 : Below xb w W7 := q6.trans (b7.mono (Nat.le_of_lt hxl6))
          have xl7 : xb ≤ W7.heap.size := by have := b7.size; omega
          have ne7 : v6.ownBlock ≠ some xb := fun e => Nat.lt_irrefl _ (Nat.lt_of_lt_of_le hxl (ho6.lt xb e).1)
          (try rw [hW7])
          refine hK.out _ _ (by exact r7) (fun hHeld => ?_)
          clear hK
          (try simp only [uA, uB, uC, uD, uE, uF, uG, uH])
          refine wpAnyH_ready (rs := [4]) (by kernel_rfl) (by decide) (AllReadyH.cons rfl (fun K' hK => ?_) AllReadyH.nil)
          rw [if_pos (by rfl)]
          refine wp_append_own W7 (.tmp 47) (.tmp 49) 61 rfl xb 68 i68 _ 3 32 Tryz.underlying61 j1 j2 j3 j4 rfl (by decide) v6 vs.length (vsC vs) rfl ho7 ⟨W6.heap.size, 0, none⟩ 1 1 [.int .i64 x0, .int .i64 x1, .string x2] rfl rfl n7 (by simp [Value.oneCell']) (by simp only [maxLen]; omega) (by omega) xl7 ?_
          intro v8 W8 ho8 hg8 _
          (try dsimp only)
          have q8 : Below xb w W8 := q7.grown hg8 xl7 fun k e => (ho7.lt k e).1
          have r8 : W8.rangeAt xb 0 [.int .i64 x0, .int .i64 x1, .string x2] := range_same r7 (hg8.block xb (block_lt_of_cell (r7 0 _ rfl)) (fun e => ne7 e.symm))
          refine hK.out _ _ (by exact r8) (fun hHeld => ?_)
          clear hK
          (try simp only [uA, uB, uC, uD, uE, uF, uG, uH])
          refine wpAnyH_take (i := 5) (oi := _) (v := ?_) rfl (by kernel_rfl) (by kernel_rfl) (by kernel_rfl) (fun _ _ _ h => h) (Or.inl ⟨by rfl, ?_⟩) (by assumption) ?_
          rotate_left
          · (intro w hSw; (try dsimp only at hSw); go_simp; (try with_reducible rfl))
          (try simp only [uA, uB, uC, uD, uE, uF, uG, uH])
          refine wpAnyH_take (i := 6) (oi := _) (v := ?_) rfl (by kernel_rfl) (by kernel_rfl) (by kernel_rfl) (fun _ _ _ h => h) (Or.inl ⟨by rfl, ?_⟩) (by assumption) ?_
          rotate_left
          · (intro w hSw; (try dsimp only at hSw); go_simp; (try with_reducible rfl))
          (try simp only [uA, uB, uC, uD, uE, uF, uG, uH])
          refine wpAnyH_done (by kernel_rfl) ?_ _
          go_wp2_with fail
          refine bodyPost_ret (results_tmp2 rfl _ _ _) rfl ?_
          refine (NP.out _ _).2 ⟨⟨v8, rfl, fun _ => ?_⟩, q8⟩
          rw [VA.out]
          exact ho8
        · rw [if_pos (by rfl)]
          go_simp
          have hxl : xb < W5.heap.size := block_lt_of_cell (r0 0 _ rfl)
          obtain ⟨W6, hW6⟩ : ∃ W6, W5.drew.alloc (.cells #[.int .i64 x0, .int .i64 x1, .string x2] 68) = W6 := ⟨_, rfl⟩
          have hW6' : (W5.alloc (.cells #[.int .i64 x0, .int .i64 x1, .string x2] 68)).drew = W6 := by rw [← hW6]; rfl
          have b6 : Below W5.heap.size W5 W6 := by rw [← hW6']; exact ((Below.refl _ _).alloc (Nat.le_refl _) _).drew
          have k6 : W6.heap[W5.heap.size]? = some (.cells #[.int .i64 x0, .int .i64 x1, .string x2] 68 (0, 0)) := by rw [← hW6']; exact blk_new W5 _
          have s6 : W6.heap.size = W5.heap.size + 1 := by rw [← hW6']; simp
          have r6 : W6.rangeAt xb 0 [.int .i64 x0, .int .i64 x1, .string x2] := range_same r0 (b6.block xb hxl)
          have q6 : Below xb w W6 := q9.trans (b6.mono (Nat.le_of_lt hxl))
          have C6 := Aside0.mk (CL.out W6 q6)
          (first | rw [hW6] | rw [hW6'] | skip)
          refine hK.out _ _ (by exact r6) (fun hHeld => ?_)
          clear hK r0 C9 CL
          (try simp only [uA, uB, uC, uD, uE, uF, uG, uH])
          refine wpAnyH_ready (rs := [1]) (by kernel_rfl) (by decide) (AllReadyH.cons rfl (fun K' hK => ?_) AllReadyH.nil)
          rw [if_pos (by rfl)]
          go_simp
          refine (C6.out).mono ?_
          rintro e W7 ⟨v6, rfl, ho6, b7⟩
          (try dsimp only)
          have k7 := (b7.block W5.heap.size (by omega)).trans k6
          have n7 : ∀ j u, [Value.int .i64 x0, .int .i64 x1, .string x2][j]? = some u → W7.cell? ((⟨W5.heap.size, 0, none⟩ : Addr).add j) = some u := fun j u hj => by
            rw [Addr.add_lit, Nat.zero_add]
            exact cell_in (l := [.int .i64 x0, .int .i64 x1, .string x2]) k7 hj
          have hxl6 : xb < W6.heap.size := by omega
          have r7 : W7.rangeAt xb 0 [.int .i64 x0, .int .i64 x1, .string x2] := range_same r6 (b7.block xb hxl6)
          have ho7 : W7.ownsRow xb 68 3 v6 vs.length (vsC vs) := own_weaken ho6 (by omega)
          have q7 : Below xb w W7 := q6.trans (b7.mono (Nat.le_of_lt hxl6))
          have xl7 : xb ≤ W7.heap.size := by have := b7.size; omega
          have ne7 : v6.ownBlock ≠ some xb := fun e => by have := (ho6.lt xb e).1; omega
          refine hK.out _ _ (by exact r7) (fun hHeld => ?_)
          clear hK
          (try simp only [uA, uB, uC, uD, uE, uF, uG, uH])
          refine wpAnyH_ready (rs := [4]) (by kernel_rfl) (by decide) (AllReadyH.cons rfl (fun K' hK => ?_) AllReadyH.nil)
          rw [if_pos (by rfl)]
          refine wp_append_own W7 (.tmp 47) (.tmp 49) 61 rfl xb 68 i68 _ 3 32 Tryz.underlying61 j1 j2 j3 j4 rfl (by decide) v6 vs.length (vsC vs) rfl ho7 ⟨W5.heap.size, 0, none⟩ 1 1 [.int .i64 x0, .int .i64 x1, .string x2] rfl rfl n7 (by simp [Value.oneCell']) (by simp only [maxLen]; omega) (by omega) xl7 ?_
          intro v8 W8 ho8 hg8 _
          (try dsimp only)
          have q8 : Below xb w W8 := q7.grown hg8 xl7 fun k e => (ho7.lt k e).1
          have r8 : W8.rangeAt xb 0 [.int .i64 x0, .int .i64 x1, .string x2] := range_same r7 (hg8.block xb (block_lt_of_cell (r7 0 _ rfl)) (fun e => ne7 e.symm))
          refine hK.out _ _ (by exact r8) (fun hHeld => ?_)
          clear hK
          (try simp only [uA, uB, uC, uD, uE, uF, uG, uH])
          refine wpAnyH_take (i := 5) (oi := _) (v := ?_) rfl (by kernel_rfl) (by kernel_rfl) (by kernel_rfl) (fun _ _ _ h => h) (Or.inl ⟨by rfl, ?_⟩) (by assumption) ?_
          rotate_left
          · (intro w hSw; (try dsimp only at hSw); go_simp; (try with_reducible rfl))
          (try simp only [uA, uB, uC, uD, uE, uF, uG, uH])
          refine wpAnyH_take (i := 6) (oi := _) (v := ?_) rfl (by kernel_rfl) (by kernel_rfl) (by kernel_rfl) (fun _ _ _ h => h) (Or.inl ⟨by rfl, ?_⟩) (by assumption) ?_
          rotate_left
          · (intro w hSw; (try dsimp only at hSw); go_simp; (try with_reducible rfl))
          (try simp only [uA, uB, uC, uD, uE, uF, uG, uH])
          refine wpAnyH_done (by kernel_rfl) ?_ _
          go_wp2_with fail
          refine bodyPost_ret (results_tmp2 rfl _ _ _) rfl ?_
          refine (NP.out _ _).2 ⟨⟨v8, rfl, fun _ => ?_⟩, q8⟩
          rw [VA.out]
          exact ho8
    · have hnf : nf = 52 := by rw [HNF.out, if_neg (fun h => hk1 h.1), if_pos ⟨hk1, rfl⟩]
      subst hnf
      go_wp2_with (go_at_call 46; refine (OC.out _).mono ?_; rintro e W5 ⟨rfl, hb5⟩)
      refine bodyPost_ret (results_tmp2 rfl _ _ _) rfl ?_
      exact (NP.out _ _).2 ⟨⟨_, rfl, fun h => absurd h (by decide)⟩, (FF.out W5 (hb4'.trans (hb5.mono hb4'.size))).2.2⟩
end Go.Proofs.YtadkeohohehmcaaGreatDoor.Top
end
