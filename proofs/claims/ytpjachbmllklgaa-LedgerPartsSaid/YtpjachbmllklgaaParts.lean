/- LedgerParts, walked. -/
import Derived.Test.YtpjachbmllklgaaPartsQ
import Derived.Deep.RegionHeld3
import Derived.Deep.DeepCutAuto
namespace Go.Proofs.Ytpjachbmllklgaa.Rng
open Go.RowKit Go.Proofs.YtpjachbmllklgaaW.PrintWords Go.Proofs.Ytpjachbmllklgaa.Kinds
set_option linter.unusedVariables false
set_option linter.unusedSimpArgs false
attribute [local go_sem] Oper.semAt_some

set_option maxHeartbeats 1000000 in
set_option maxRecDepth 100000 in
theorem parts_law (s : Sv) (x : Saved) (hw : WSaved x) (w : World) (hs : SK w s x) (index one two : Int) (ri : -9223372036854775808 ≤ index ∧ index ≤ 9223372036854775807) (r1 : -9223372036854775808 ≤ one ∧ one ≤ 9223372036854775807) (r2 : -9223372036854775808 ≤ two ∧ two ≤ 9223372036854775807) :
    Calls Try.prog 7 #[.agg s.cells, .int .i64 index, .int .i64 one, .int .i64 two] w fun e w' => e = .returned (.bool true) ∧ Below w.heap.size w w' := by
  have e9 : ∀ args w, (callFunc 9 args).run Try.prog w = .ok (.enter 9 args) w := enters_of Try.func9 (by kernel_rfl) rfl
  have e13 : ∀ args w, (callFunc 13 args).run Try.prog w = .ok (.enter 13 args) w := enters_of Try.func13 (by kernel_rfl) rfl
  have e15 : ∀ args w, (callFunc 15 args).run Try.prog w = .ok (.enter 15 args) w := enters_of Try.func15 (by kernel_rfl) rfl
  have e25 : ∀ args w, (callFunc 25 args).run Try.prog w = .ok (.enter 25 args) w := enters_of Try.func25 (by kernel_rfl) rfl
  have e26 : ∀ args w, (callFunc 26 args).run Try.prog w = .ok (.enter 26 args) w := enters_of Try.func26 (by kernel_rfl) rfl
  have e29 : ∀ args w, (callFunc 29 args).run Try.prog w = .ok (.enter 29 args) w := enters_of Try.func29 (by kernel_rfl) rfl
  have hi30 : ∀ cells : Array Value, cells.size = 9 → (Try.prog.info? 30).map (·.size) = some cells.size := fun c hc => by rw [hc]; exact size30
  obtain ⟨b, off, css, hL⟩ : ∃ (b off : Nat) (css : List (List Value)), (s.n : Int) ≤ 1000 → LX0 w s.A b off css x.2.2.2.1 := by
    by_cases h : (s.n : Int) ≤ 1000
    · obtain ⟨b, off, css, h1⟩ := hs.lx0 hw h
      exact ⟨b, off, css, fun _ => h1⟩
    · exact ⟨0, 0, [], fun g => absurd g h⟩
  have hN := Aside0.mk hs.n
  have hCap := Aside0.mk hs.cap
  have HL := Aside0.mk hL
  clear hL hs hw
  obtain ⟨xs, hxs⟩ : ∃ xs, x.2.2.2.1 = xs := ⟨_, rfl⟩
  rw [hxs] at HL hN hCap
  clear hxs x
  rw [cells_eq]
  go_enter Try.func7, Try.ntmps7
  go_wp2_with fail
  rw [← cells_eq]
  have q0 : Below w.heap.size w (w.alloc (.cells s.cells 30)) := (Below.refl _ w).alloc (Nat.le_refl _) _
  have hs0 : (w.alloc (.cells s.cells 30)).heap.size = w.heap.size + 1 := by simp
  have k0 := blk_new w (.cells s.cells 30)
  generalize w.alloc (.cells s.cells 30) = W0 at q0 hs0 k0 ⊢
  have CB := Aside0.mk (big2_c s b off css xs W0 (fun g => ⟨((HL.out g).below q0).lg (by have := (HL.out g).len; have := hN.out; omega), (HL.out g).cx⟩))
  go_wp2_with (refine wpList_load_row rfl 30 (.tmp 4) rfl w.heap.size rfl 30 _ (0, 0) _ k0 Try.underlying30 rfl (hi30 _ rfl) ?_)
  refine CB.out.mono ?_
  rintro e w1 ⟨⟨B, rfl, hB⟩, hb⟩
  have k1 := (hb.block w.heap.size (by omega)).trans k0
  have q1 : Below w.heap.size w w1 := q0.trans (hb.mono q0.size)
  have hs1 := hb.size
  clear hb CB
  cases B
  case true =>
    go_wp2
    go_ret
    exact ⟨rfl, q1⟩
  by_cases g1 : one < 0
  · clear hB
    go_wp2
    go_ret
    exact ⟨rfl, q1⟩
  by_cases g2 : two < 0
  · clear hB
    go_wp2
    go_ret
    exact ⟨rfl, q1⟩
  by_cases g3 : one > 10000
  · clear hB
    go_wp2
    go_ret
    exact ⟨rfl, q1⟩
  by_cases g4 : two > 10000
  · clear hB
    go_wp2
    go_ret
    exact ⟨rfl, q1⟩
  have hsm := hB rfl
  have hL0 := HL.out hsm.n
  have hlen := hL0.len
  have hLX : LX w s.A b off css xs := hL0.lx (fun y hy => by
    obtain ⟨j, hj, rfl⟩ := List.mem_iff_getElem.1 hy
    have := hsm.c j hj
    rw [getElem!_pos xs j hj] at this
    omega)
  have hc5 : ∀ y ∈ xs, y.2.2.2.2.1.length ≤ 5000 ∧ y.2.2.2.2.2.length ≤ 5000 := fun y hy => by
    obtain ⟨j, hj, rfl⟩ := List.mem_iff_getElem.1 hy
    have := hsm.c j hj
    rwa [getElem!_pos xs j hj] at this
  have hn : s.n = css.length := by rw [hN.out, hlen]
  have hncap : s.n ≤ s.cap := by rw [hN.out]; exact hCap.out
  have hx1 : xs.length ≤ 1000 := by have := hsm.n; have := hN.out; omega
  clear hB hsm hL0 HL
  have C25 : Aside0 (∀ W, Below w.heap.size w W → ∀ i m : Int, (-9223372036854775808 ≤ m ∧ m ≤ 9223372036854775807) → Calls Try.prog 25 #[.agg s.cells, .int .i64 i, .int .i64 m] W fun e w' => ∃ v, e = .returned v ∧ kEnt.R 59 w' W.heap.size (fun _ => True) v (aboveX (sndX s xs) i m) ∧ Below W.heap.size W w') :=
    ⟨fun W hW i m hm => above_c s b off css xs W (hLX.below hW) hn hncap i m hm⟩
  obtain ⟨hsi, hits⟩ := sound_six hLX
  obtain ⟨b1, b2, b3, hgo⟩ := sound_si s css
  rw [hits] at hgo
  have C13 : Aside0 (∀ W, Below w.heap.size w W → ∀ i : Int, (-9223372036854775808 ≤ i ∧ i ≤ 9223372036854775807) → Calls Try.prog 13 #[.agg s.cells, .int .i64 i] W fun e w' => e = .returned (.tuple #[.int .i64 (termV (s.sound css).si (s.sound css).st (itX (sndX s xs)) i).1, .bool (termV (s.sound css).si (s.sound css).st (itX (sndX s xs)) i).2]) ∧ Below W.heap.size W w') :=
    ⟨fun W hW i hi => by have := term_c s b off css W ((hLX.below hW).lg hn) i hi; rwa [hits] at this⟩
  have hwi : ∀ y ∈ sndX s xs, -9223372036854775808 ≤ y.1 ∧ y.1 ≤ 9223372036854775807 := fun y hy => hLX.wi _ (sndX_mem hy)
  have hc5' : ∀ y ∈ sndX s xs, y.2.2.2.2.1.length ≤ 5000 ∧ y.2.2.2.2.2.length ≤ 5000 := fun y hy => hc5 _ (sndX_mem hy)
  have hyl : (sndX s xs).length ≤ 1000 := by unfold sndX; split; exact hx1; exact Nat.zero_le _
  generalize sndX s xs = ys at *
  generalize (s.sound css).si = si at *
  generalize (s.sound css).st = st at *
  have GO := Aside0.mk hgo
  have AB : Aside0 (∀ i m, (aboveX ys i m).length ≤ 1000 ∧ (∀ y ∈ aboveX ys i m, y.2.2.2.2.1.length ≤ 5000 ∧ y.2.2.2.2.2.length ≤ 5000) ∧ (∀ y ∈ aboveX ys i m, -9223372036854775808 ≤ y.1 ∧ y.1 ≤ 9223372036854775807)) :=
    ⟨fun i m => ⟨by rw [above_length hgo]; omega, fun y hy => hc5' _ (aboveX_mem hy), fun y hy => hwi _ (aboveX_mem hy)⟩⟩
  have PE : Aside0 (aboveX ys index one ++ aboveX ys (atV (aboveX ys index one) index) two = aboveX ys index (one + two)) := ⟨parts_eq hgo index one two (by omega) (by omega)⟩
  clear b3 hsi hits hgo hwi hc5' hyl hLX hc5 hn hncap hx1 hlen hN hCap xs css b off
  go_wp2_with (refine wpList_load_row rfl 30 (.tmp 4) rfl w.heap.size rfl 30 _ (0, 0) _ k1 Try.underlying30 rfl (hi30 _ rfl) ?_)
  refine (C25.out w1 q1 index one r1).mono ?_
  rintro e w2 ⟨v, rfl, hR, hb⟩
  obtain ⟨AA, ca, ba, oa, cssa, rfl, hca, hLa⟩ := lx_of_R hR (by have := (AB.out index one).1; omega) (fun y hy => by have := (AB.out index one).2.1 y hy; omega) (AB.out index one).2.2
  have hwa := (AB.out index one).2.2
  have hla := (AB.out index one).1
  generalize aboveX ys index one = a at *
  have k2 := (hb.block w.heap.size (by omega)).trans k1
  have q2 : Below w.heap.size w w2 := q1.trans (hb.mono q1.size)
  have hs2 : w.heap.size < w2.heap.size := by have := hb.size; omega
  clear hb k1 q1 hs1 hR k0 q0 hs0
  have hat : -9223372036854775808 ≤ atV a index ∧ atV a index ≤ 9223372036854775807 := by
    unfold atV
    split
    · exact ri
    · refine hwa _ ?_
      rw [getElem!_pos _ _ (by omega)]
      exact List.getElem_mem _
  obtain ⟨at_, hate⟩ : ∃ z, atV a index = z := ⟨_, rfl⟩
  rw [hate] at hat
  have PE' := PE.out
  rw [hate] at PE'
  have PE2 := Aside0.mk PE'
  clear PE PE'
  have LA := Aside0.mk hLa
  have WA := Aside0.mk hwa
  clear hLa hwa
  obtain ⟨na, hna⟩ : ∃ n, a.length = n := ⟨_, rfl⟩
  rw [hna] at hla hca ⊢
  have NA := Aside0.mk hna
  have AT := Aside0.mk hate
  clear hna hate
  go_upto_if 42 with (fail)
  go_cut [9, 10] (fun s9 s10 wx => s9 = .slice AA na ca ∧ s10 = .int .i64 at_ ∧ wx = w2)
  case first =>
    rcases na with _ | m
    · obtain rfl : index = at_ := by rw [← AT.out]; unfold atV; rw [if_pos NA.out]
      go_wp2
      go_meet
      exact ⟨rfl, rfl, rfl⟩
    · have hal := NA.out
      have hml : m < cssa.length := by have := LA.out.len; omega
      have c10 : w2.cell? ⟨ba, oa + m * 43, none⟩ = some (.int .i64 at_) := by
        have := LA.out.row m hml 0 _ (LA.out.isE m hml).1.i0
        rw [(LA.out.isE m hml).2.1] at this
        rw [← AT.out]
        unfold atV
        rw [if_neg (by omega), hal]
        simpa using this
      obtain rfl := LA.out.A (by omega)
      clear hal
      go_wp2_with fail
      go_meet
      exact ⟨rfl, rfl, rfl⟩
  case rest =>
    obtain ⟨rfl, rfl, rfl⟩ := hcut
    have NAL := NA
    clear AT NA WA
    go_wp2_with (refine wpList_load_row rfl 30 (.tmp 4) rfl w.heap.size rfl 30 _ (0, 0) _ k2 Try.underlying30 rfl (hi30 _ rfl) ?_)
    refine (C25.out wc q2 at_ two r2).mono ?_
    rintro e w3 ⟨v, rfl, hR, hb⟩
    obtain ⟨AB_, cb, bb, ob, cssb, rfl, hcb, hLb⟩ := lx_of_R hR (by have := (AB.out at_ two).1; omega) (fun y hy => by have := (AB.out at_ two).2.1 y hy; omega) (AB.out at_ two).2.2
    have hlb := (AB.out at_ two).1
    have PE3 := PE2.out
    generalize aboveX ys at_ two = bX at *
    have k3 := (hb.block w.heap.size hs2).trans k2
    have q3 : Below w.heap.size w w3 := q2.trans (hb.mono q2.size)
    have hs3 : w.heap.size < w3.heap.size := by have := hb.size; omega
    have LA3 := Aside0.mk (LA.out.below hb)
    have LB3 := Aside0.mk hLb
    have PE4 := Aside0.mk PE3
    clear hb k2 q2 hs2 hR LA hLb PE2 PE3
    obtain ⟨nb, hnb⟩ : ∃ n, bX.length = n := ⟨_, rfl⟩
    rw [hnb] at hlb hcb ⊢
    have NB := Aside0.mk hnb
    clear hnb
    go_wp2_with (refine wpList_load_row rfl 30 (.tmp 4) rfl w.heap.size rfl 30 _ (0, 0) _ k3 Try.underlying30 rfl (hi30 _ rfl) ?_)
    refine (C25.out w3 q3 index (one + two) (by omega)).mono ?_
    rintro e w4 ⟨v, rfl, hR, hb⟩
    obtain ⟨AC, cc, bc, oc, cssc, rfl, hcc, hLc⟩ := lx_of_R hR (by have := (AB.out index (one + two)).1; omega) (fun y hy => by have := (AB.out index (one + two)).2.1 y hy; omega) (AB.out index (one + two)).2.2
    have hlc := (AB.out index (one + two)).1
    have NUM : Aside0 (∀ j, j < (aboveX ys index (one + two)).length → termV si st (itX ys) ((aboveX ys index (one + two))[j]!).1 = (((aboveX ys index (one + two))[j]!).2.1, true) ∧ ((aboveX ys index (one + two))[j]!).1 = si + 1 + (index - si).toNat + j ∧ (-9223372036854775808 ≤ ((aboveX ys index (one + two))[j]!).1 ∧ ((aboveX ys index (one + two))[j]!).1 ≤ 9223372036854775807)) :=
      ⟨fun j hj => ⟨above_term GO.out st index _ j hj, above_num GO.out index _ j hj, (AB.out index (one + two)).2.2 _ (by rw [getElem!_pos _ j hj]; exact List.getElem_mem _)⟩⟩
    have CC := (AB.out index (one + two)).2
    have PE5 := PE4.out
    generalize aboveX ys index (one + two) = cX at *
    obtain ⟨nc, hnc⟩ : ∃ n, cX.length = n := ⟨_, rfl⟩
    rw [hnc] at hlc hcc NUM ⊢
    have NC := Aside0.mk hnc
    have k4 := (hb.block w.heap.size hs3).trans k3
    have q4 : Below w.heap.size w w4 := q3.trans (hb.mono q3.size)
    have hs4 : w.heap.size < w4.heap.size := by have := hb.size; omega
    have LA4 := Aside0.mk (LA3.out.below hb)
    have LB4 := Aside0.mk (LB3.out.below hb)
    have LC4 := Aside0.mk hLc
    have CC2 := Aside0.mk CC
    have PE6 := Aside0.mk PE5
    generalize hbz : si + 1 + ((index - si).toNat : Int) = bz at NUM
    clear hbz hb k3 q3 hs3 hR LA3 LB3 hLc PE4 PE5 hnc CC AB C25 GO
    go_wp2_with fail
    go_loopg [13] nc (fun gg s13 wr => ∃ kk : Nat, kk ≤ nc ∧ nc - kk ≤ gg ∧ s13 = .int .i64 kk ∧ Aside (Below w4.heap.size w4 wr))
    case atStart => exact ⟨0, by omega, by omega, rfl, Below.refl _ _⟩
    case round =>
      obtain ⟨kk, hk, hgg, rfl, B⟩ := hrel
      by_cases hlt : kk < nc
      · have hltz : (kk : Int) < (nc : Int) := by omega
        have hlc2 : cssc.length = nc := by rw [LC4.out.len, NC.out]
        have hc1 : kk < cssc.length := by omega
        obtain rfl := LC4.out.A (by omega)
        have hLC := LC4.out.below B.out
        have rg1 : ∀ W, Below wr.heap.size wr W → W.rangeAt w.heap.size 0 s.cells.toList := fun W hW => by
          have hh : W.heap[w.heap.size]? = some (.cells s.cells 30 (0, 0)) := (hW.block _ (by have := B.out.size; omega)).trans ((B.out.block _ hs4).trans k4)
          intro i u hiu
          simp only [Nat.zero_add]
          simp only [World.cell?, hh]
          simpa using hiu
        have hi1 : (Try.prog.info? 30).map (·.size) = some s.cells.toList.length := hi30 _ rfl
        have c11 : ∀ W, Below wr.heap.size wr W → W.cell? ⟨bc, oc + kk * 43, none⟩ = some (.int .i64 (cX[kk]!).1) := fun W hW => by
          have := (hLC.below hW).row kk hc1 0 _ (hLC.isE kk hc1).1.i0
          rw [(hLC.isE kk hc1).2.1] at this
          simpa using this
        have c12 : ∀ W, Below wr.heap.size wr W → W.cell? ⟨bc, oc + kk * 43 + 1, none⟩ = some (.int .i64 (cX[kk]!).2.1) := fun W hW => by
          have := (hLC.below hW).row kk hc1 1 _ (hLC.isE kk hc1).1.i1
          rw [(hLC.isE kk hc1).2.1] at this
          simpa using this
        have nm := NUM.out kk hlt
        have HT : Aside0 (∀ W, Below wr.heap.size wr W → Calls Try.prog 13 #[.agg s.cells, .int .i64 (cX[kk]!).1] W fun e w' => e = .returned (.tuple #[.int .i64 (cX[kk]!).2.1, .bool true]) ∧ Below W.heap.size W w') :=
          ⟨fun W hW => by have := C13.out W (q4.trans ((B.out.mono q4.size).trans (hW.mono (by have := B.out.size; have := q4.size; omega)))) _ nm.2.2; rw [nm.1] at this; exact this⟩
        have n1 := nm.2.1
        clear nm
        generalize hx1 : (cX[kk]!).1 = x1 at *
        generalize (cX[kk]!).2.1 = x2 at *
        have N1 := Aside0.mk n1
        clear n1 hLC hc1 hlc2
        go_wp2_with fail
        refine wp_region_held_drew (S := (fun W => Below wr.heap.size wr W)) (by kernel_rfl) (by exact (Below.refl _ _).drew) (fun hHeld => ?_)
        refine wpAnyH_take (i := 0) (oi := _) (v := _) rfl (by kernel_rfl) (by kernel_rfl) (by kernel_rfl) (fun _ _ _ h => h) (yieldsIf_load_mid (by rfl) 30 (.tmp 4) rfl w.heap.size 0 rfl s.cells.toList _ rg1 Try.underlying30 rfl hi1) (by assumption) ?_
        (try simp only [Act.put, List.getElem_toArray, List.getElem_cons_zero, List.getElem_cons_succ, List.setIfInBounds_toArray, List.set_cons_zero, List.set_cons_succ])
        refine wpAnyH_take (i := 1) (oi := _) (v := ?_) rfl (by kernel_rfl) (by kernel_rfl) (by kernel_rfl) (fun _ _ _ h => h) (Or.inl ⟨by rfl, ?_⟩) (by assumption) ?_
        rotate_left
        · (intro w hSw; (try dsimp only at hSw); go_simp; (try with_reducible rfl))
        (try simp only [Act.put, List.getElem_toArray, List.getElem_cons_zero, List.getElem_cons_succ, List.setIfInBounds_toArray, List.set_cons_zero, List.set_cons_succ])
        refine wpAnyH_take (i := 2) (oi := _) (v := ?_) rfl (by kernel_rfl) (by kernel_rfl) (by kernel_rfl) (fun _ _ _ h => h) (Or.inl ⟨by rfl, ?_⟩) (by assumption) ?_
        rotate_left
        · (intro w hSw; (try dsimp only at hSw); go_simp; (try with_reducible rfl))
        (try simp only [Act.put, List.getElem_toArray, List.getElem_cons_zero, List.getElem_cons_succ, List.setIfInBounds_toArray, List.set_cons_zero, List.set_cons_succ])
        refine wpAnyH_take (i := 3) (oi := _) (v := ?_) rfl (by kernel_rfl) (by kernel_rfl) (by kernel_rfl) (fun _ _ _ h => h) (Or.inl ⟨by rfl, ?_⟩) (by assumption) ?_
        rotate_left
        · (intro w hSw; (try dsimp only at hSw); go_simp; (try with_reducible rfl))
        (try simp only [Act.put, List.getElem_toArray, List.getElem_cons_zero, List.getElem_cons_succ, List.setIfInBounds_toArray, List.set_cons_zero, List.set_cons_succ])
        refine wpAnyH_take (i := 4) (oi := _) (v := ?_) rfl (by kernel_rfl) (by kernel_rfl) (by kernel_rfl) (fun _ _ _ h => h) (Or.inl ⟨by rfl, ?_⟩) (by assumption) ?_
        rotate_left
        · (intro w hSw; (try dsimp only at hSw); go_simp; (try with_reducible rfl))
        (try simp only [Act.put, List.getElem_toArray, List.getElem_cons_zero, List.getElem_cons_succ, List.setIfInBounds_toArray, List.set_cons_zero, List.set_cons_succ])
        refine wpAnyH_take (i := 5) (oi := _) (v := ?_) rfl (by kernel_rfl) (by kernel_rfl) (by kernel_rfl) (fun _ _ _ h => h) (Or.inl ⟨by rfl, ?_⟩) (by assumption) ?_
        rotate_left
        · (intro w hSw; (try dsimp only at hSw); have c11w := c11 w hSw; go_simp; (try with_reducible rfl))
        (try simp only [Act.put, List.getElem_toArray, List.getElem_cons_zero, List.getElem_cons_succ, List.setIfInBounds_toArray, List.set_cons_zero, List.set_cons_succ])
        refine wpAnyH_ready (rs := [6]) (by kernel_rfl) (by decide) (AllReadyH.cons rfl (fun K' hK => ?_) AllReadyH.nil)
        rw [if_pos (by rfl)]
        go_simp
        refine (HT.out _ (by assumption)).mono ?_
        rintro e w' ⟨rfl, hb'⟩
        (try dsimp only)
        refine hK.out _ _ (by exact Below.trans (by assumption) (hb'.mono (Below.size (by assumption)))) (fun hHeld => ?_)
        clear hK
        (try simp only [Act.put, List.getElem_toArray, List.getElem_cons_zero, List.getElem_cons_succ, List.setIfInBounds_toArray, List.set_cons_zero, List.set_cons_succ])
        refine wpAnyH_take (i := 7) (oi := _) (v := ?_) rfl (by kernel_rfl) (by kernel_rfl) (by kernel_rfl) (fun _ _ _ h => h) (Or.inl ⟨by rfl, ?_⟩) (by assumption) ?_
        rotate_left
        · (intro w hSw; (try dsimp only at hSw); go_simp; (try with_reducible rfl))
        (try simp only [Act.put, List.getElem_toArray, List.getElem_cons_zero, List.getElem_cons_succ, List.setIfInBounds_toArray, List.set_cons_zero, List.set_cons_succ])
        refine wpAnyH_take (i := 8) (oi := _) (v := ?_) rfl (by kernel_rfl) (by kernel_rfl) (by kernel_rfl) (fun _ _ _ h => h) (Or.inl ⟨by rfl, ?_⟩) (by assumption) ?_
        rotate_left
        · (intro w hSw; (try dsimp only at hSw); go_simp; (try with_reducible rfl))
        (try simp only [Act.put, List.getElem_toArray, List.getElem_cons_zero, List.getElem_cons_succ, List.setIfInBounds_toArray, List.set_cons_zero, List.set_cons_succ])
        refine wpAnyH_take (i := 9) (oi := _) (v := ?_) rfl (by kernel_rfl) (by kernel_rfl) (by kernel_rfl) (fun _ _ _ h => h) (Or.inl ⟨by rfl, ?_⟩) (by assumption) ?_
        rotate_left
        · (intro w hSw; (try dsimp only at hSw); go_simp; (try with_reducible rfl))
        (try simp only [Act.put, List.getElem_toArray, List.getElem_cons_zero, List.getElem_cons_succ, List.setIfInBounds_toArray, List.set_cons_zero, List.set_cons_succ])
        refine wpAnyH_take (i := 10) (oi := _) (v := ?_) rfl (by kernel_rfl) (by kernel_rfl) (by kernel_rfl) (fun _ _ _ h => h) (Or.inl ⟨by rfl, ?_⟩) (by assumption) ?_
        rotate_left
        · (intro w hSw; (try dsimp only at hSw); go_simp; (try with_reducible rfl))
        (try simp only [Act.put, List.getElem_toArray, List.getElem_cons_zero, List.getElem_cons_succ, List.setIfInBounds_toArray, List.set_cons_zero, List.set_cons_succ])
        refine wpAnyH_take (i := 11) (oi := _) (v := ?_) rfl (by kernel_rfl) (by kernel_rfl) (by kernel_rfl) (fun _ _ _ h => h) (Or.inl ⟨by rfl, ?_⟩) (by assumption) ?_
        rotate_left
        · (intro w hSw; (try dsimp only at hSw); go_simp; (try with_reducible rfl))
        (try simp only [Act.put, List.getElem_toArray, List.getElem_cons_zero, List.getElem_cons_succ, List.setIfInBounds_toArray, List.set_cons_zero, List.set_cons_succ])
        refine wpAnyH_done (by kernel_rfl) ?_ _
        have qf : Below wr.heap.size wr w' := Below.trans (by assumption) (hb'.mono (Below.size (by assumption)))
        have q5 : Below w4.heap.size w4 w' := B.out.trans (qf.mono B.out.size)
        have c1 := c11 w' qf
        have c2 := c12 w' qf
        clear c11 c12 rg1 HT
        rcases kk with _ | k
        · go_wp2_with fail
          go_region
          go_wp2_with fail
          go_roundg (nc - 1)
          case measure => omega
          case rel => exact ⟨1, by omega, by omega, rfl, q5.drew⟩
        · have hc0 : k < cssc.length := by have := LC4.out.len; have := NC.out; omega
          have c3 : w'.cell? ⟨bc, oc + k * 43, none⟩ = some (.int .i64 (x1 - 1)) := by
            have hL5 := LC4.out.below q5
            have := hL5.row k hc0 0 _ (hL5.isE k hc0).1.i0
            rw [(hL5.isE k hc0).2.1] at this
            have h2 := (NUM.out k (by omega)).2.1
            have h3 := N1.out
            rw [show x1 - 1 = (cX[k]!).1 by rw [h2, h3]; push_cast; omega]
            simpa using this
          have c4 : w'.cell? ⟨bc, oc + (k + 1) * 43, none⟩ = some (.int .i64 x1) := c1
          have hw : wrap64 (x1 - 1) = x1 - 1 := by
            have h2 := (NUM.out k (by omega)).2
            have h3 := N1.out
            unfold wrap64
            push_cast at h3
            omega
          clear hc0
          go_wp2_with fail
          go_region
          go_wp2_with fail
          go_roundg (nc - (k + 2))
          case measure => omega
          case rel => exact ⟨k + 2, by omega, by omega, by go_num, q5.drew⟩
      · have hltz : ¬ (kk : Int) < (nc : Int) := by omega
        obtain rfl : kk = nc := by omega
        have q5 : Below w.heap.size w wr := q4.trans (B.out.mono q4.size)
        have LA5 := Aside0.mk (LA4.out.below B.out)
        have LB5 := Aside0.mk (LB4.out.below B.out)
        have LC5 := Aside0.mk (LC4.out.below B.out)
        have ha1 : cssa.length = na := by
          have := LA5.out.len
          rw [this]
          exact NAL.out
        have hb1 : cssb.length = nb := by rw [LB5.out.len, NB.out]
        have RA := LA5.out.raw
        rw [ha1] at RA
        have RB := Aside0.mk LB5.out.raw
        have RA' := Aside0.mk RA
        have HA1 := Aside0.mk ha1
        have HB1 := Aside0.mk hb1
        clear hlt hgg hk B LA4 LB4 LC4 C13 NUM k4 q4 hs4 ha1 hb1 RA
        go_wp2_with (at_builtin; refine Kd.R_append_rows (Kd.raw 43) (w0 := wr) wr.heap.size rfl (.tmp 106) (.tmp 107) 27 59 z59 168 rfl Try.underlying27 info59 z59_size (by decide) (by omega) (.slice none 0 0) ([] : List (List Value)) cssa AA na ca (fun _ => True) (fun _ => False) rfl rfl (Kd.R_nil _ _ _ _ _) RA'.out (fun _ _ hk => hk) (fun _ h => h.elim) (fun _ _ => trivial) (Below.refl _ _) (Nat.le_refl _) ?aL ?_)
        case aL => omega
        intro v1 w6 ho hb hg hat
        have HO := Aside0.mk ho
        have hb6 : Below wr.heap.size wr w6 := hb
        have RB6 : Aside0 (ReadsRow ((Kd.raw 43).K w6) 43 w6 AB_ nb cssb) := by
          have := (LB5.out.below hb6).raw
          rw [HB1.out] at this
          exact ⟨this⟩
        obtain ⟨A1, cp1, hv1⟩ := Kd.R_slice ho
        subst hv1
        clear ho hb hg hat RB RA'
        generalize hl1 : cssa.length = l1 at HO HA1 ⊢
        obtain rfl := HA1.out
        have HL1 := Aside0.mk hl1
        clear hl1 HA1
        go_wp2_with (at_builtin; refine Kd.R_append_rows (Kd.raw 43) (w0 := wr) wr.heap.size rfl (.tmp 109) (.tmp 110) 27 59 z59 168 rfl Try.underlying27 info59 z59_size (by decide) (by omega) (.slice A1 l1 cp1) cssa cssb AB_ nb cb (fun _ => True) (fun _ => False) rfl rfl HO.out RB6.out (fun _ _ hk => hk) (fun _ h => h.elim) (fun _ _ => trivial) hb6 hb6.size ?aL ?_)
        case aL => rw [HL1.out]; omega
        intro v2 w7 ho2 hb2 hg2 hat2
        have hb7 : Below wr.heap.size wr w7 := hb2
        have q7 : Below w.heap.size w w7 := q5.trans (hb7.mono q5.size)
        have LA7 := LA5.out.below hb7
        have LB7 := LB5.out.below hb7
        have LC7 := Aside0.mk (LC5.out.below hb7)
        have pe := PE6.out
        have hcl : (cssa ++ cssb).length = cX.length := by rw [← pe, List.length_append, List.length_append, LA7.len, LB7.len]
        have hcx : cX.length ≤ 1000 := by have := NC.out; omega
        have keyK : ∀ j, j < (cssa ++ cssb).length → kEnt.K w7 cX[j]! (cssa ++ cssb)[j]! := by
          intro j hj
          subst pe
          by_cases hja : j < cssa.length
          · have e1 : (cssa ++ cssb)[j]! = cssa[j]! := by rw [getElem!_pos _ j hj, getElem!_pos _ j hja, List.getElem_append_left hja]
            have hja2 : j < a.length := by rw [← LA7.len]; exact hja
            have e2 : (a ++ bX)[j]! = a[j]! := by rw [getElem!_pos _ j (by simp; omega), getElem!_pos _ j hja2, List.getElem_append_left hja2]
            rw [e1, e2]
            exact LA7.K j hja
          · have hjl : j < cssa.length + cssb.length := by simpa using hj
            have hjb : j - cssa.length < cssb.length := by omega
            have e1 : (cssa ++ cssb)[j]! = cssb[j - cssa.length]! := by rw [getElem!_pos _ j hj, getElem!_pos cssb (j - cssa.length) hjb, List.getElem_append_right (by omega)]
            have hla7 := LA7.len
            have hlb7 := LB7.len
            have e2 : (a ++ bX)[j]! = bX[j - cssa.length]! := by rw [getElem!_pos (a ++ bX) j (by simp; omega), getElem!_pos bX (j - cssa.length) (by omega), List.getElem_append_right (by omega)]; simp [hla7]
            rw [e1, e2]
            exact LB7.K _ hjb
        obtain ⟨A2, cp2, b2_, o2_, hv2, LF⟩ := lx_of_raw (xs := cX) ho2 hcl keyK (by omega) (fun y hy => by have := CC2.out.1 y hy; omega) CC2.out.2
        subst hv2
        have LF2 := Aside0.mk LF
        have hnx := NC.out
        rw [hnx]
        have HNX := Aside0.mk hnx
        clear ho2 hb2 hg2 hat2 LA7 LB7 LF pe hcl hcx hnx RB6 HO q5 hb6 HL1 HB1
        go_wp2_with fail
        refine (parts_c w7).mono ?_
        rintro e w8 ⟨rfl, hb8⟩
        have q8 : Below w.heap.size w w8 := q7.trans (hb8.mono q7.size)
        have LF8 := Aside0.mk (LF2.out.below hb8)
        have LC8 := Aside0.mk (LC7.out.below hb8)
        clear hb8 q7 LF2 LC7
        go_wp2_with fail
        refine (asks_c w8).mono ?_
        rintro e w9 ⟨rfl, hb9⟩
        have q9 : Below w.heap.size w w9 := q8.trans (hb9.mono q8.size)
        have LF9 := Aside0.mk (LF8.out.below hb9)
        have LC9 := Aside0.mk (LC8.out.below hb9)
        clear hb9 q8 LF8 LC8
        go_wp2_with fail
        refine (entries_c A2 kk cp2 b2_ o2_ (cssa ++ cssb) AC kk cc bc oc cssc cX w9 LF9.out HNX.out.symm LC9.out HNX.out.symm (fun y hy => by have := CC2.out.1 y hy; omega)).mono ?_
        rintro e w10 ⟨rfl, hb10⟩
        go_wp2
        go_ret
        exact ⟨rfl, q9.trans (hb10.mono q9.size)⟩
end Go.Proofs.Ytpjachbmllklgaa.Rng
