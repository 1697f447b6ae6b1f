/- LedgerJoined, walked: the head; what holds behind Join. -/
import Derived.Test.YtpjachbmllklgaaJdD
import Derived.Test.YtpjachbmllklgaaJdB
import Derived.Test.YtpjachbmllklgaaSameS
import Derived.Test.YtpjachbmllklgaaLgD
namespace Go.Proofs.Ytpjachbmllklgaa.Rng
open Go.RowKit Go.Proofs.YtpjachbmllklgaaW.PrintWords Go.Proofs.Ytpjachbmllklgaa.Kinds Go.Proofs.Ytpjachbmllklgaa.PCou
set_option linter.unusedVariables false
set_option linter.unusedSimpArgs false
attribute [local go_sem] Oper.semAt_some
attribute [local go_sem] fold_zip

theorem cell_lt {W : World} {p : Addr} {u : Value} (h : W.cell? p = some u) : p.block < W.heap.size := by
  rcases Nat.lt_or_ge p.block W.heap.size with g | g
  · exact g
  · rw [World.cell?, Array.getElem?_eq_none (by simpa using g)] at h
    simp at h
/-- All but one block is as it was. -/
structure But (g : Nat) (W W' : World) : Prop where
  os : W'.os = W.os
  tape : W'.tape = W.tape
  output : W'.output = W.output
  size : W.heap.size ≤ W'.heap.size
  block : ∀ k, k ≠ g → k < W.heap.size → W'.heap[k]? = W.heap[k]?
/-- What is saved reads so wherever the other blocks are as they are. -/
def KX (W : World) (g : Nat) (s : Sv) (x : Saved) : Prop := ∀ W', But g W W' → SK W' s x
theorem KX.sk {W : World} {g : Nat} {s : Sv} {x : Saved} (h : KX W g s x) : SK W s x := h W ⟨rfl, rfl, rfl, Nat.le_refl _, fun _ _ _ => rfl⟩
theorem KX.below {W W1 : World} {g : Nat} {s : Sv} {x : Saved} (h : KX W g s x) (hb : Below W.heap.size W W1) : KX W1 g s x := fun W' hm =>
  h W' ⟨hm.os.trans hb.os, hm.tape.trans hb.tape, hm.output.trans hb.output, Nat.le_trans hb.size hm.size, fun k h1 h2 => (hm.block k h1 (Nat.lt_of_lt_of_le h2 hb.size)).trans (hb.block k h2)⟩
theorem KX.setRow {W : World} {g : Nat} {s : Sv} {x : Saved} (h : KX W g s x) (cs : Array Value) : KX (W.setRow g cs) g s x := fun W' hm =>
  h W' ⟨hm.os, hm.tape, hm.output, by have := hm.size; rw [size_setRow] at this; exact this, fun k h1 h2 => (hm.block k h1 (by rw [size_setRow]; exact h2)).trans (setRow_other W g k cs h1)⟩
theorem Kept.kx {W : World} {base g : Nat} {s : Sv} {x : Saved} (h : Kept W base s x) (hg : g < base) : KX W g s x := fun W' hm => h W' (fun k h1 h2 => hm.block k (by omega) h2)
theorem kx_new {w W : World} {g : Nat} {s : Sv} {x : Saved} (h : SK w s x) (hb : Below w.heap.size w W) (hg : w.heap.size ≤ g) : KX W g s x := fun W' hm =>
  h.below ⟨hm.os.trans hb.os, hm.tape.trans hb.tape, hm.output.trans hb.output, Nat.le_trans hb.size hm.size, fun k hk => (hm.block k (by omega) (Nat.lt_of_lt_of_le hk hb.size)).trans (hb.block k hk)⟩

set_option maxHeartbeats 1000000 in
set_option maxRecDepth 100000 in
theorem joined_law (s : Sv) (x : Saved) (hw : WSaved x) (w : World) (hs : SK w s x) (index term : Int) (ri : -9223372036854775808 ≤ index ∧ index ≤ 9223372036854775807)
    (AL : Option Addr) (cl : Nat) (ys : List Ent) (hYC : kEnt.C w AL ys.length ys) (hcl : ys.length ≤ cl) (hwy : ∀ y ∈ ys, -9223372036854775808 ≤ y.1 ∧ y.1 ≤ 9223372036854775807) :
    Calls Try.prog 8 #[.agg s.cells, .int .i64 index, .int .i64 term, .slice AL ys.length cl] w fun e w' => e = .returned (.bool true) ∧ Below w.heap.size w w' := by
  have e9 : ∀ args w, (callFunc 9 args).run Try.prog w = .ok (.enter 9 args) w := enters_of Try.func9 (by kernel_rfl) rfl
  have e13 : ∀ args w, (callFunc 13 args).run Try.prog w = .ok (.enter 13 args) w := enters_of Try.func13 (by kernel_rfl) rfl
  have e15 : ∀ args w, (callFunc 15 args).run Try.prog w = .ok (.enter 15 args) w := enters_of Try.func15 (by kernel_rfl) rfl
  have e32 : ∀ args w, (callFunc 32 args).run Try.prog w = .ok (.enter 32 args) w := enters_of Try.func32 (by kernel_rfl) rfl
  have e33 : ∀ args w, (callFunc 33 args).run Try.prog w = .ok (.enter 33 args) w := enters_of Try.func33 (by kernel_rfl) rfl
  have e34 : ∀ args w, (callFunc 34 args).run Try.prog w = .ok (.enter 34 args) w := enters_of Try.func34 (by kernel_rfl) rfl
  have e35 : ∀ args w, (callFunc 35 args).run Try.prog w = .ok (.enter 35 args) w := enters_of Try.func35 (by kernel_rfl) rfl
  have e36 : ∀ args w, (callFunc 36 args).run Try.prog w = .ok (.enter 36 args) w := enters_of Try.func36 (by kernel_rfl) rfl
  have e37 : ∀ args w, (callFunc 37 args).run Try.prog w = .ok (.enter 37 args) w := enters_of Try.func37 (by kernel_rfl) rfl
  have hi30 : ∀ cells : Array Value, cells.size = 9 → (Try.prog.info? 30).map (·.size) = some cells.size := fun c hc => by rw [hc]; exact size30
  obtain ⟨b, off, css, hL⟩ : ∃ (b off : Nat) (css : List (List Value)), (s.n : Int) ≤ 1000 → LX0 w s.A b off css x.2.2.2.1 := by
    by_cases h : (s.n : Int) ≤ 1000
    · obtain ⟨b, off, css, h1⟩ := hs.lx0 hw h
      exact ⟨b, off, css, fun _ => h1⟩
    · exact ⟨0, 0, [], fun g => absurd g h⟩
  obtain ⟨bl, ol, cssl, hLy⟩ : ∃ (b off : Nat) (css : List (List Value)), (ys.length : Int) ≤ 1000 → LX0 w AL b off css ys := by
    by_cases h : (ys.length : Int) ≤ 1000
    · obtain ⟨b, off, css, h1⟩ := lx0_of_C hYC rfl (by omega) hwy
      exact ⟨b, off, css, fun _ => h1⟩
    · exact ⟨0, 0, [], fun g => absurd g h⟩
  have HS := Aside0.mk hs
  have HW := Aside0.mk hw
  have HWY := Aside0.mk hwy
  have hN := Aside0.mk hs.n
  have HL := Aside0.mk hL
  have HLY := Aside0.mk hLy
  clear hL hs hw hLy hYC hwy
  rw [cells_eq]
  go_enter Try.func8, Try.ntmps8
  go_wp2_with fail
  rw [← cells_eq]
  have q0 : Below w.heap.size w (w.alloc (.cells s.cells 30)) := (Below.refl _ w).alloc (Nat.le_refl _) _
  have hs0 : (w.alloc (.cells s.cells 30)).heap.size = w.heap.size + 1 := by simp
  have k0 := blk_new w (.cells s.cells 30)
  generalize w.alloc (.cells s.cells 30) = W0 at q0 hs0 k0 ⊢
  have CB := Aside0.mk (big3_c s b off css x.2.2.2.1 W0 (fun g => ⟨((HL.out g).below q0).lg (by have := (HL.out g).len; have := hN.out; omega), (HL.out g).cx⟩) AL ys.length cl bl ol cssl ys (fun g => ⟨(HLY.out g).len.symm, (HLY.out g).below q0⟩))
  go_wp2_with (refine wpList_load_row rfl 30 (.tmp 4) rfl w.heap.size rfl 30 _ (0, 0) _ k0 Try.underlying30 rfl (hi30 _ rfl) ?_)
  refine CB.out.mono ?_
  rintro e w1 ⟨⟨B, rfl, hB⟩, hb⟩
  have k1 := (hb.block w.heap.size (by omega)).trans k0
  have q1 : Below w.heap.size w w1 := q0.trans (hb.mono q0.size)
  have hs1 : w.heap.size < w1.heap.size := by have := hb.size; omega
  clear hb CB k0 q0 hs0
  cases B
  case true =>
    go_wp2_with fail
    go_ret
    exact ⟨rfl, q1⟩
  obtain ⟨hsm, hyl, hcy⟩ := hB rfl
  have hL0 := HL.out hsm.n
  have hLY0 := HLY.out hyl
  have hc5 : ∀ y ∈ x.2.2.2.1, y.2.2.2.2.1.length ≤ 5000 ∧ y.2.2.2.2.2.length ≤ 5000 := fun y hy => by
    obtain ⟨j, hj, rfl⟩ := List.mem_iff_getElem.1 hy
    have := hsm.c j hj
    rwa [getElem!_pos x.2.2.2.1 j hj] at this
  have hcy5 : ∀ y ∈ ys, y.2.2.2.2.1.length ≤ 5000 ∧ y.2.2.2.2.2.length ≤ 5000 := fun y hy => by
    obtain ⟨j, hj, rfl⟩ := List.mem_iff_getElem.1 hy
    have := hcy j hj
    rwa [getElem!_pos ys j hj] at this
  have hLX : LX w s.A b off css x.2.2.2.1 := hL0.lx (fun y hy => by have := hc5 y hy; omega)
  have hLYX : LX w AL bl ol cssl ys := hLY0.lx (fun y hy => by have := hcy5 y hy; omega)
  have hv5 : x.2.2.1.2.2.1.1.length ≤ 5000 := by have := hsm.v; have := HS.out.Vn; omega
  have hl5 : x.2.2.1.2.2.1.2.length ≤ 5000 := by have := hsm.l; have := HS.out.Ln; omega
  have hg5x : x.2.2.2.2.length ≤ 1000 := by have := hsm.g; have := HS.out.Gn; omega
  have C32 := Aside0.mk (right_c s x b off css w1 (HS.out.below q1) (hLX.below q1) (by omega) (by omega) (fun y hy => by have := hc5 y hy; omega) (by omega) (by have := hsm.n; omega))
  have hnx : x.2.2.2.1.length ≤ 1000 := by have := hsm.n; have := hN.out; omega
  have hny : ys.length ≤ 1000 := by omega
  have LXw := Aside0.mk hLX
  have LYw := Aside0.mk hLYX
  have C5 := Aside0.mk hc5
  have CY5 := Aside0.mk hcy5
  have SM := Aside0.mk hsm
  clear hsm hB hL0 hLX hLY0 hLYX hc5 hcy5 HL HLY hyl hcy
  go_wp2_with (refine wpList_load_row_if rfl 30 (.tmp 4) rfl w.heap.size rfl 30 _ (0, 0) _ k1 Try.underlying30 rfl (hi30 _ rfl) ?_)
  refine C32.out.mono ?_
  rintro e w2 ⟨B, rfl, hb⟩
  have k2 := (hb.block w.heap.size hs1).trans k1
  have q2 : Below w.heap.size w w2 := q1.trans (hb.mono q1.size)
  have hs2 : w.heap.size < w2.heap.size := by have := hb.size; omega
  clear hb k1 q1 hs1 C32
  cases B with
  | false =>
    go_wp2_with fail
    go_ret
    exact ⟨rfl, q2⟩
  | true =>
  have C33 := Aside0.mk (join_c s b off css x.2.2.2.1 w2 (LXw.out.below q2) (by have := LXw.out.len; have := hN.out; omega) index term ri AL ys.length cl bl ol cssl ys (LYw.out.below q2) LYw.out.len.symm hcl)
  go_wp2_with (refine wpList_load_row rfl 30 (.tmp 4) rfl w.heap.size rfl 30 _ (0, 0) _ k2 Try.underlying30 rfl (hi30 _ rfl) ?_)
  refine C33.out.mono ?_
  intro e w3 hP
  obtain ⟨hb, hP⟩ := hP
  have k3 := (hb.block w.heap.size hs2).trans k2
  have q3 : Below w.heap.size w w3 := q2.trans (hb.mono q2.size)
  have hs3 : w.heap.size < w3.heap.size := by have := hb.size; omega
  rw [LXw.out.its_eq] at hP
  clear hb k2 q2 hs2 C33
  rcases hP with ⟨h1, rfl⟩ | ⟨h1, v, n, rfl, hn, h2⟩
  · generalize jErr s.si s.st (itX x.2.2.2.1) index term ys = je at *
    have hje : (je != 0) = true := by simpa using h1
    go_wp2_with fail
    refine (joins_c w3).mono ?_
    rintro e w4 ⟨rfl, hb⟩
    have q4 : Below w.heap.size w w4 := q3.trans (hb.mono q3.size)
    clear hb
    go_wp2_with fail
    go_ret
    exact ⟨rfl, q4⟩
  · obtain ⟨rl, E, A9, c9, b9, o9, rfl, hA9, hrow9, hplan⟩ : ∃ (rl : List Rec) (E : Nat → List Ent) (A9 : Option Addr) (c9 b9 o9 : Nat), v = .slice A9 rl.length c9 ∧ (0 < rl.length → A9 = some ⟨b9, o9, none⟩) ∧
        (∀ W, Below w3.heap.size w3 W → ∀ j, j < rl.length → ∃ cs, kRec.K W rl[j]! cs ∧ W.rangeAt b9 (o9 + j * 149) cs) ∧ Plan s.si s.st index term x.2.2.2.1 ys rl E := by
      have hj := jok_of HWY.out (by omega) h1
      rcases h2 with ⟨h2, rfl⟩ | ⟨k, h2, hk, hR⟩
      · refine ⟨[], fun _ => x.2.2.2.1, none, 0, 0, 0, rfl, fun g => absurd g (by decide), fun W _ j hj => absurd hj (Nat.not_lt_zero _), plan_none hj ?_⟩
        rcases findV_cases (lacks s.si (termV s.si s.st (itX x.2.2.2.1))) ys with ⟨_, f⟩ | ⟨k, f, _⟩
        · exact f
        · omega
      · rcases findV_cases (lacks s.si (termV s.si s.st (itX x.2.2.2.1))) ys with ⟨f, _⟩ | ⟨k', f, f1, f2, f3⟩
        · omega
        · obtain rfl : k' = k := by omega
          rw [itX_length] at hR
          obtain ⟨A9, c9, b9, o9, hv, _, hA9, hrow9⟩ := recs_of_R hR
          exact ⟨_, _, A9, c9, b9, o9, hv, hA9, hrow9, plan_hit (hit_of hj k' f1 f2 f3) hnx hny⟩
    have HOK : Aside0 (okG true index ys ys.length = true) := ⟨okG_of (jok_of HWY.out (by omega) h1).hi HWY.out (by omega) rfl _ (Nat.le_refl _) (okG_of_jErr h1)⟩
    have PL := Aside0.mk hplan
    have RW9 := Aside0.mk hrow9
    have HA9 := Aside0.mk hA9
    have hsmall := hplan.small
    clear h1 hn h2 hplan hrow9 hA9
    have g4 := blk_new w3 (.cells s.cells 30)
    have p4 : Below w3.heap.size w3 (w3.alloc (.cells s.cells 30)) := (Below.refl _ w3).alloc (Nat.le_refl _) _
    have hs4 : (w3.alloc (.cells s.cells 30)).heap.size = w3.heap.size + 1 := by simp
    go_wp2_with (first | (refine wpList_load_row rfl 30 (.tmp 4) rfl w.heap.size rfl 30 _ (0, 0) _ k3 Try.underlying30 rfl (hi30 _ rfl) ?_) | (refine wpList_store_new rfl 30 (.tmp 12) (.tmp 52) rfl s.cells _ 30 rfl rfl (hi30 _ rfl) rfl (sound_cells_one s) ?_))
    have hkx : KX (w3.alloc (.cells s.cells 30)) w3.heap.size s (x.1, x.2.1, x.2.2.1, E 0, x.2.2.2.2) := by
      rw [PL.out.zero]
      exact kx_new HS.out (q3.trans (p4.mono q3.size)) q3.size
    generalize (w3.alloc (.cells s.cells 30)) = w4 at g4 p4 hs4 hkx ⊢
    obtain ⟨g, hgw⟩ : ∃ g, w3.heap.size = g := ⟨_, rfl⟩
    rw [hgw] at g4 hs4 hkx ⊢
    have HGW := Aside0.mk hgw
    have HKX := Aside0.mk hkx
    have hgx : w.heap.size < g := by omega
    clear hgw hkx
    go_loopg [13] rl.length (fun gg s13 wr => ∃ (i : Nat) (si : Sv), i ≤ rl.length ∧ rl.length - i ≤ gg ∧ s13 = .int .i64 i ∧ Aside (Below g w3 wr) ∧ Aside (wr.heap[g]? = some (.cells si.cells 30 (0, 0))) ∧ Aside (KX wr g si (x.1, x.2.1, x.2.2.1, E i, x.2.2.2.2)))
    case atStart => exact ⟨0, s, by omega, by omega, rfl, (show Below g w3 w4 by rw [← HGW.out]; exact p4), g4, HKX.out⟩
    clear p4 g4 HKX hs4 w4
    case round =>
      obtain ⟨i, si, hi, hgg, rfl, B, K, X⟩ := hrel
      by_cases hlt : i < rl.length
      · have hltz : (i : Int) < (rl.length : Int) := by omega
        obtain rfl := HA9.out (by omega)
        have hri := rl.length
        have hsw : g < wr.heap.size := (Array.getElem?_eq_some_iff.1 K.out).1
        obtain ⟨rs, hK, hrg⟩ := RW9.out wr (by rw [HGW.out]; exact B.out) i hlt
        have hmem : rl[i]! ∈ rl := by rw [getElem!_pos rl i hlt]; exact List.getElem_mem _
        have hrl : rs.length = 149 := kRec.K_len hK
        have hi71 : (Try.prog.info? 71).map (·.size) = some rs.length := by rw [hrl]; exact size71
        have hb5 : rl[i]!.2.2.2.1.2.2.2.2.1.length ≤ 5000 ∧ rl[i]!.2.2.2.1.2.2.2.2.2.length ≤ 5000 := by
          rcases PL.out.ent _ hmem with ⟨h1, h2⟩ | h
          · rw [h1, h2]; omega
          · exact CY5.out _ h
        have hz := PL.out.snap _ hmem
        have C35 := Aside0.mk (may_c rl[i]! rs wr hK ⟨by omega, by omega, by rw [hz]; decide, by rw [hz]; decide⟩)
        have hB5 : b9 < wr.heap.size ∨ True := .inr trivial
        go_wp2_with (refine wpList_load_mid rfl 71 (.tmp 61) rfl b9 (o9 + i * 149) rfl rs _ hrg Try.underlying71 rfl hi71 ?_)
        refine C35.out.mono ?_
        rintro e w5 ⟨B5, rfl, hb⟩
        have B2 : Below g w3 w5 := B.out.trans (hb.mono (by omega))
        have K2 := (hb.block g hsw).trans K.out
        have X2 := X.out.below hb
        have hg5 : g < w5.heap.size := by have := hb.size; omega
        clear hb C35 B K X hK hrg
        cases B5 with
        | false =>
          go_wp2_with fail
          refine (joins_c w5).mono ?_
          rintro e w6 ⟨rfl, hb⟩
          have B3 : Below g w3 w6 := B2.trans (hb.mono (by omega))
          have hg6 : g < w6.heap.size := by have := hb.size; omega
          clear hb
          go_wp2_with fail
          refine (asks_c w6).mono ?_
          rintro e w7 ⟨rfl, hb⟩
          have B4 : Below g w3 w7 := B3.trans (hb.mono (by omega))
          clear hb
          go_wp2_with fail
          go_ret
          exact ⟨rfl, q3.trans (B4.mono (by omega))⟩
        | true =>
          clear hrl hi71
          obtain ⟨rs, hK, hrg⟩ := RW9.out w5 (by rw [HGW.out]; exact B2) i hlt
          have hrl : rs.length = 149 := kRec.K_len hK
          have hi71 : (Try.prog.info? 71).map (·.size) = some rs.length := by rw [hrl]; exact size71
          have rgR : ∀ W, Below w5.heap.size w5 W → W.rangeAt b9 (o9 + i * 149) rs := fun W hW => by
            intro j u hj
            have hc := hrg j u hj
            exact (hW.cell (p := ⟨b9, o9 + i * 149 + j, none⟩) (cell_lt hc)).trans hc
          have rgS : ∀ W, Below w5.heap.size w5 W → W.rangeAt g 0 si.cells.toList := fun W hW => by
            have hh : W.heap[g]? = some (.cells si.cells 30 (0, 0)) := (hW.block _ hg5).trans K2
            intro j u hj
            simp only [Nat.zero_add]
            simp only [World.cell?, hh]
            simpa using hj
          have hiS : (Try.prog.info? 30).map (·.size) = some si.cells.toList.length := hi30 _ rfl
          have hSK := X2.sk
          have hEm : ∀ y ∈ E i, y.2.2.2.2.1.length ≤ 5000 ∧ y.2.2.2.2.2.length ≤ 5000 := fun y hy => by
            rcases PL.out.mem i y hy with h | h
            · exact C5.out y h
            · exact CY5.out y h
          have hEw : ∀ y ∈ E i, -9223372036854775808 ≤ y.1 ∧ y.1 ≤ 9223372036854775807 := fun y hy => by
            rcases PL.out.mem i y hy with h | h
            · exact bounds _ (HW.out.2.2.2.1.2 y h).1
            · exact HWY.out y h
          have hEl := PL.out.len i
          obtain ⟨bE, oE, cE, hLE⟩ := lx_of_C hSK.C rfl (show (E i).length ≤ 1000000 by omega) (fun y hy => by have := hEm y hy; omega) hEw
          have CF : Aside0 (∀ W, Below w5.heap.size w5 W → Calls Try.prog 36 #[.agg si.cells, .agg rs.toArray] W (FoldedPost W (x.1, x.2.1, x.2.2.1, E i, x.2.2.2.2) rl[i]! (E (i + 1)))) :=
            ⟨fun W hW => fold_c si (x.1, x.2.1, x.2.2.1, E i, x.2.2.2.2) bE oE cE W (hSK.below hW) (hLE.below hW) (by rw [hSK.Gn]; exact hg5x) (by rw [hSK.Vn]; exact hv5) (by rw [hSK.Ln]; exact hl5) rl[i]! (E (i + 1)) rs (kRec.K_below hW hK)
              (by have := PL.out.good i hlt; rw [HS.out.si] at this; rw [hSK.si]; exact this) (by omega) (by rw [hSK.si]; have := PL.out.ok.hsi; rw [HS.out.si] at this; exact this)⟩
          have G3 := Aside0.mk (And.intro K2 X2)
          clear hK hrg hSK hEm hEw hEl hLE K2 X2 hb5 hz hmem
          go_upto_region 12 with (fail)
          go_cut [14, 15] (fun s14 s15 wx => ∃ (g2 : Nat) (s' : Sv) (code : Int), s14 = .pointer (some ⟨g2, 0, none⟩) ∧ s15 = .int .i64 code ∧ Aside (Below w5.heap.size w5 wx) ∧ Aside (g < g2) ∧ Aside (wx.heap[g2]? = some (.cells s'.cells 30 (0, 0))) ∧
            Aside ((code = 0 ∧ Kept wx w5.heap.size s' (x.1, x.2.1, x.2.2.1, E (i + 1), x.2.2.2.2)) ∨ (code = 110 ∧ rl[i]!.2.2.2.1.1 > 900000000)))
          case first =>
            refine wp_region_held_drew (S := (fun W => Below w5.heap.size w5 W)) (by kernel_rfl) (by exact (Below.refl _ w5).drew) (fun hHeld => ?_)
            refine wpAnyH_take (i := 0) (oi := _) (v := _) rfl (by kernel_rfl) (by kernel_rfl) (by kernel_rfl) (fun _ _ _ h => h) (yieldsIf_load_mid (by rfl) 30 (.tmp 12) rfl g 0 rfl si.cells.toList _ rgS Try.underlying30 rfl hiS) (by assumption) ?_
            (try simp only [Act.put, List.getElem_toArray, List.getElem_cons_zero, List.getElem_cons_succ, List.setIfInBounds_toArray, List.set_cons_zero, List.set_cons_succ])
            refine wpAnyH_take (i := 1) (oi := _) (v := ?_) rfl (by kernel_rfl) (by kernel_rfl) (by kernel_rfl) (fun _ _ _ h => h) (Or.inl ⟨by rfl, ?_⟩) (by assumption) ?_
            rotate_left
            · (intro w hSw; (try dsimp only at hSw); go_simp; (try with_reducible rfl))
            (try simp only [Act.put, List.getElem_toArray, List.getElem_cons_zero, List.getElem_cons_succ, List.setIfInBounds_toArray, List.set_cons_zero, List.set_cons_succ])
            refine wpAnyH_take (i := 2) (oi := _) (v := ?_) rfl (by kernel_rfl) (by kernel_rfl) (by kernel_rfl) (fun _ _ _ h => h) (Or.inl ⟨by rfl, ?_⟩) (by assumption) ?_
            rotate_left
            · (intro w hSw; (try dsimp only at hSw); go_simp; (try with_reducible rfl))
            (try simp only [Act.put, List.getElem_toArray, List.getElem_cons_zero, List.getElem_cons_succ, List.setIfInBounds_toArray, List.set_cons_zero, List.set_cons_succ])
            refine wpAnyH_take (i := 3) (oi := _) (v := ?_) rfl (by kernel_rfl) (by kernel_rfl) (by kernel_rfl) (fun _ _ _ h => h) (Or.inl ⟨by rfl, ?_⟩) (by assumption) ?_
            rotate_left
            · (intro w hSw; (try dsimp only at hSw); go_simp; (try with_reducible rfl))
            (try simp only [Act.put, List.getElem_toArray, List.getElem_cons_zero, List.getElem_cons_succ, List.setIfInBounds_toArray, List.set_cons_zero, List.set_cons_succ])
            refine wpAnyH_take (i := 4) (oi := _) (v := _) rfl (by kernel_rfl) (by kernel_rfl) (by kernel_rfl) (fun _ _ _ h => h) (yieldsIf_load_mid (by rfl) 71 (.tmp 73) rfl b9 (o9 + i * 149) rfl rs _ rgR Try.underlying71 rfl hi71) (by assumption) ?_
            (try simp only [Act.put, List.getElem_toArray, List.getElem_cons_zero, List.getElem_cons_succ, List.setIfInBounds_toArray, List.set_cons_zero, List.set_cons_succ])
            refine wpAnyH_ready (rs := [5, 9]) (by kernel_rfl) (by decide) (AllReadyH.cons rfl (fun K' hK => ?_) (AllReadyH.cons rfl (fun K' hK => ?_) AllReadyH.nil))
            · rw [if_pos (by rfl)]
              go_simp
              refine (CF.out _ (by assumption)).mono ?_
              rintro e w' ⟨s', code, rfl, hcd, hb'⟩
              (try dsimp only)
              have hbW : Below w5.heap.size w5 w' := (Below.refl _ w5).drew.trans hb'
              refine hK.out _ _ (by exact hbW) (fun hHeld => ?_)
              clear hK
              (try simp only [Act.put, List.getElem_toArray, List.getElem_cons_zero, List.getElem_cons_succ, List.setIfInBounds_toArray, List.set_cons_zero, List.set_cons_succ])
              refine wpAnyH_take (i := 6) (oi := _) (v := ?_) rfl (by kernel_rfl) (by kernel_rfl) (by kernel_rfl) (fun _ _ _ h => h) (Or.inl ⟨by rfl, ?_⟩) (by assumption) ?_
              rotate_left
              · (intro w hSw; (try dsimp only at hSw); go_simp; (try with_reducible rfl))
              (try simp only [Act.put, List.getElem_toArray, List.getElem_cons_zero, List.getElem_cons_succ, List.setIfInBounds_toArray, List.set_cons_zero, List.set_cons_succ])
              refine wpAnyH_take (i := 7) (oi := _) (v := ?_) rfl (by kernel_rfl) (by kernel_rfl) (by kernel_rfl) (fun _ _ _ h => h) (Or.inl ⟨by rfl, ?_⟩) (by assumption) ?_
              rotate_left
              · (intro w hSw; (try dsimp only at hSw); go_simp; (try with_reducible rfl))
              (try simp only [Act.put, List.getElem_toArray, List.getElem_cons_zero, List.getElem_cons_succ, List.setIfInBounds_toArray, List.set_cons_zero, List.set_cons_succ])
              refine wpAnyH_take (i := 8) (oi := _) (v := ?_) rfl (by kernel_rfl) (by kernel_rfl) (by kernel_rfl) (fun _ _ _ h => h) (Or.inl ⟨by rfl, ?_⟩) (by assumption) ?_
              rotate_left
              · (intro w hSw; (try dsimp only at hSw); go_simp; (try with_reducible rfl))
              (try simp only [Act.put, List.getElem_toArray, List.getElem_cons_zero, List.getElem_cons_succ, List.setIfInBounds_toArray, List.set_cons_zero, List.set_cons_succ])
              refine wpAnyH_ready (rs := [9]) (by kernel_rfl) (by decide) (AllReadyH.cons rfl (fun K' hK => ?_) AllReadyH.nil)
              rw [if_pos (by rfl)]
              go_simp
              refine hK.out _ _ (by exact hbW.alloc hbW.size _) (fun hHeld => ?_)
              clear hK
              (try simp only [Act.put, List.getElem_toArray, List.getElem_cons_zero, List.getElem_cons_succ, List.setIfInBounds_toArray, List.set_cons_zero, List.set_cons_succ])
              refine wpAnyH_ready (rs := [10]) (by kernel_rfl) (by decide) (AllReadyH.cons rfl (fun K' hK => ?_) AllReadyH.nil)
              rw [if_pos (by rfl)]
              have zw := blk_new w' (.cells #[.int .i64 0, .int .i64 0, .int .i64 0, .int .i64 0, .slice none 0 0, .slice none 0 0, .string ⟨#[]⟩, .slice none 0 0, .slice none 0 0] 30)
              refine wp_store_row 30 (.tmp 14) (.tmp 76) rfl w'.heap.size _ rfl rfl 30 _ zw (hi30 _ rfl) rfl (sound_cells_one s') ?_
              have hbX := below_setRow (hbW.alloc hbW.size (.cells #[.int .i64 0, .int .i64 0, .int .i64 0, .int .i64 0, .slice none 0 0, .slice none 0 0, .string ⟨#[]⟩, .slice none 0 0, .slice none 0 0] 30)) w'.heap.size hbW.size s'.cells
              refine hK.out _ _ (by exact hbX) (fun hHeld => ?_)
              clear hK
              (try simp only [Act.put, List.getElem_toArray, List.getElem_cons_zero, List.getElem_cons_succ, List.setIfInBounds_toArray, List.set_cons_zero, List.set_cons_succ])
              refine wpAnyH_take (i := 11) (oi := _) (v := ?_) rfl (by kernel_rfl) (by kernel_rfl) (by kernel_rfl) (fun _ _ _ h => h) (Or.inl ⟨by rfl, ?_⟩) (by assumption) ?_
              rotate_left
              · (intro w hSw; (try dsimp only at hSw); go_simp; (try with_reducible rfl))
              (try simp only [Act.put, List.getElem_toArray, List.getElem_cons_zero, List.getElem_cons_succ, List.setIfInBounds_toArray, List.set_cons_zero, List.set_cons_succ])
              refine wpAnyH_done (by kernel_rfl) ?_ _
              go_wp2_with fail
              go_meet
              refine ⟨w'.heap.size, s', code, rfl, rfl, hbX, Nat.lt_of_lt_of_le hg5 hbW.size, setRow_heap _ _ _ _ 30 (0, 0) zw, ?_⟩
              rcases hcd with ⟨h1, h2⟩ | h1
              · exact .inl ⟨h1, fun W' hm => h2 W' (fun k h3 h4 => (hm k h3 (by rw [size_setRow, World.size_alloc]; omega)).trans ((setRow_other _ _ k _ (by omega)).trans (Below.heap_alloc w' _ k h4)))⟩
              · exact .inr h1
            · rw [if_pos (by rfl)]
              go_simp
              have zw0 : (w5.alloc (.cells #[.int .i64 0, .int .i64 0, .int .i64 0, .int .i64 0, .slice none 0 0, .slice none 0 0, .string ⟨#[]⟩, .slice none 0 0, .slice none 0 0] 30)).drew.heap[w5.heap.size]? = _ := blk_new w5 (.cells #[.int .i64 0, .int .i64 0, .int .i64 0, .int .i64 0, .slice none 0 0, .slice none 0 0, .string ⟨#[]⟩, .slice none 0 0, .slice none 0 0] 30)
              have hbA : Below w5.heap.size w5 (w5.alloc (.cells #[.int .i64 0, .int .i64 0, .int .i64 0, .int .i64 0, .slice none 0 0, .slice none 0 0, .string ⟨#[]⟩, .slice none 0 0, .slice none 0 0] 30)).drew := ((Below.refl _ w5).alloc (Nat.le_refl _) _).drew
              have hsA : (w5.alloc (.cells #[.int .i64 0, .int .i64 0, .int .i64 0, .int .i64 0, .slice none 0 0, .slice none 0 0, .string ⟨#[]⟩, .slice none 0 0, .slice none 0 0] 30)).drew.heap.size = w5.heap.size + 1 := World.size_alloc w5 _
              generalize (w5.alloc (.cells #[.int .i64 0, .int .i64 0, .int .i64 0, .int .i64 0, .slice none 0 0, .slice none 0 0, .string ⟨#[]⟩, .slice none 0 0, .slice none 0 0] 30)).drew = WA at zw0 hbA hsA ⊢
              refine hK.out _ _ (by exact hbA) (fun hHeld => ?_)
              clear hK
              (try simp only [Act.put, List.getElem_toArray, List.getElem_cons_zero, List.getElem_cons_succ, List.setIfInBounds_toArray, List.set_cons_zero, List.set_cons_succ])
              refine wpAnyH_ready (rs := [5]) (by kernel_rfl) (by decide) (AllReadyH.cons rfl (fun K' hK => ?_) AllReadyH.nil)
              rw [if_pos (by rfl)]
              go_simp
              refine (CF.out _ (by assumption)).mono ?_
              rintro e w' ⟨s', code, rfl, hcd, hb'⟩
              (try dsimp only)
              have hbW : Below w5.heap.size w5 w' := hbA.trans (hb'.mono hbA.size)
              have zw := (hb'.block w5.heap.size (by omega)).trans zw0
              have hsW := hb'.size
              refine hK.out _ _ (by exact hbW) (fun hHeld => ?_)
              clear hK
              (try simp only [Act.put, List.getElem_toArray, List.getElem_cons_zero, List.getElem_cons_succ, List.setIfInBounds_toArray, List.set_cons_zero, List.set_cons_succ])
              refine wpAnyH_take (i := 6) (oi := _) (v := ?_) rfl (by kernel_rfl) (by kernel_rfl) (by kernel_rfl) (fun _ _ _ h => h) (Or.inl ⟨by rfl, ?_⟩) (by assumption) ?_
              rotate_left
              · (intro w hSw; (try dsimp only at hSw); go_simp; (try with_reducible rfl))
              (try simp only [Act.put, List.getElem_toArray, List.getElem_cons_zero, List.getElem_cons_succ, List.setIfInBounds_toArray, List.set_cons_zero, List.set_cons_succ])
              refine wpAnyH_take (i := 7) (oi := _) (v := ?_) rfl (by kernel_rfl) (by kernel_rfl) (by kernel_rfl) (fun _ _ _ h => h) (Or.inl ⟨by rfl, ?_⟩) (by assumption) ?_
              rotate_left
              · (intro w hSw; (try dsimp only at hSw); go_simp; (try with_reducible rfl))
              (try simp only [Act.put, List.getElem_toArray, List.getElem_cons_zero, List.getElem_cons_succ, List.setIfInBounds_toArray, List.set_cons_zero, List.set_cons_succ])
              refine wpAnyH_take (i := 8) (oi := _) (v := ?_) rfl (by kernel_rfl) (by kernel_rfl) (by kernel_rfl) (fun _ _ _ h => h) (Or.inl ⟨by rfl, ?_⟩) (by assumption) ?_
              rotate_left
              · (intro w hSw; (try dsimp only at hSw); go_simp; (try with_reducible rfl))
              (try simp only [Act.put, List.getElem_toArray, List.getElem_cons_zero, List.getElem_cons_succ, List.setIfInBounds_toArray, List.set_cons_zero, List.set_cons_succ])
              refine wpAnyH_ready (rs := [10]) (by kernel_rfl) (by decide) (AllReadyH.cons rfl (fun K' hK => ?_) AllReadyH.nil)
              rw [if_pos (by rfl)]
              refine wp_store_row 30 (.tmp 14) (.tmp 76) rfl w5.heap.size _ rfl rfl 30 _ zw (hi30 _ rfl) rfl (sound_cells_one s') ?_
              have hbX := below_setRow hbW w5.heap.size (Nat.le_refl _) s'.cells
              refine hK.out _ _ (by exact hbX) (fun hHeld => ?_)
              clear hK
              (try simp only [Act.put, List.getElem_toArray, List.getElem_cons_zero, List.getElem_cons_succ, List.setIfInBounds_toArray, List.set_cons_zero, List.set_cons_succ])
              refine wpAnyH_take (i := 11) (oi := _) (v := ?_) rfl (by kernel_rfl) (by kernel_rfl) (by kernel_rfl) (fun _ _ _ h => h) (Or.inl ⟨by rfl, ?_⟩) (by assumption) ?_
              rotate_left
              · (intro w hSw; (try dsimp only at hSw); go_simp; (try with_reducible rfl))
              (try simp only [Act.put, List.getElem_toArray, List.getElem_cons_zero, List.getElem_cons_succ, List.setIfInBounds_toArray, List.set_cons_zero, List.set_cons_succ])
              refine wpAnyH_done (by kernel_rfl) ?_ _
              go_wp2_with fail
              go_meet
              refine ⟨w5.heap.size, s', code, rfl, rfl, hbX, hg5, setRow_heap _ _ _ _ 30 (0, 0) zw, ?_⟩
              rcases hcd with ⟨h1, h2⟩ | h1
              · exact .inl ⟨h1, fun W' hm => h2 W' (fun k h3 h4 => (hm k (by omega) (by rw [size_setRow]; exact h4)).trans (setRow_other _ _ k _ (by omega)))⟩
              · exact .inr h1
          case rest =>
            obtain ⟨g2, s', code, rfl, rfl, P, hg2, K5, hcd⟩ := hcut
            clear rgR rgS CF
            have hcs := P.out.size
            have B5 : Below g w3 wc := B2.trans (P.out.mono (by omega))
            obtain ⟨rs2, hK2, hrg2⟩ := RW9.out wc (by rw [HGW.out]; exact B5) i hlt
            have c3 : wc.cell? ⟨b9, o9 + i * 149 + 3, none⟩ = some (.int .i64 rl[i]!.2.2.2.1.1) := by
              obtain ⟨ecs, Va', vc', La', lc', hrs, hE, _⟩ := rec_K2 hK2
              obtain ⟨f1, f2, _⟩ := ent_cells hE
              have h0 := f1.i0
              rw [f2] at h0
              have h3 : rs2[3]? = some (.int .i64 rl[i]!.2.2.2.1.1) := by
                rw [hrs]
                unfold recCells
                simp only [List.append_assoc, List.cons_append, List.nil_append, List.getElem?_cons_succ]
                rw [List.getElem?_append_left (by rw [kEnt.K_len hE]; decide)]
                exact h0
              exact hrg2 3 _ h3
            clear hK2 hrg2
            generalize rl[i]!.2.2.2.1.1 = y1 at *
            rcases hcd.out with ⟨rfl, hk⟩ | ⟨rfl, hf⟩
            · have k5 := K5.out
              have K3 : wc.heap[g]? = some (.cells si.cells 30 (0, 0)) := (P.out.block g hg5).trans G3.out.1
              have hr9 := setRow_heap wc g _ s'.cells 30 (0, 0) K3
              have hb9 : Below g w3 (wc.setRow g s'.cells) := below_setRow B5 g (Nat.le_refl _) s'.cells
              have hx9 := Aside0.mk ((hk.kx hg5).setRow s'.cells)
              clear hk hcd K5 c3 G3
              go_wp2_with (first | (refine wpList_load_row rfl 30 (.tmp 14) rfl g2 rfl 30 _ (0, 0) _ k5 Try.underlying30 rfl (hi30 _ rfl) ?_) | (refine wpList_store_row rfl 30 (.tmp 12) (.tmp 99) rfl g _ rfl rfl 30 _ K3 (hi30 _ rfl) rfl (sound_cells_one s') ?_))
              go_roundg (rl.length - (i + 1))
              case measure => omega
              case rel => exact ⟨i + 1, s', by omega, by omega, by go_num, hb9, hr9, hx9.out⟩
            · have GF := decide_eq_true hf
              clear hcd K5 G3
              go_wp2_with fail
              refine (joins_c wc).mono ?_
              rintro e w6 ⟨rfl, hb⟩
              have B3 : Below g w3 w6 := B5.trans (hb.mono (by omega))
              have hg6 : g < w6.heap.size := by have := hb.size; omega
              clear hb
              go_wp2_with fail
              refine (asks_c w6).mono ?_
              rintro e w7 ⟨rfl, hb⟩
              have B4 : Below g w3 w7 := B3.trans (hb.mono (by omega))
              clear hb
              go_wp2_with fail
              go_ret
              exact ⟨rfl, q3.trans (B4.mono (by omega))⟩
      · have hltz : ¬ (i : Int) < (rl.length : Int) := by omega
        obtain rfl : i = rl.length := by omega
        clear hlt hgg hi RW9
        have hsw : g < wr.heap.size := (Array.getElem?_eq_some_iff.1 K.out).1
        have hSK := X.out.sk
        have hEm : ∀ y ∈ E rl.length, y.2.2.2.2.1.length ≤ 5000 ∧ y.2.2.2.2.2.length ≤ 5000 := fun y hy => by
          rcases PL.out.mem _ y hy with h | h
          · exact C5.out y h
          · exact CY5.out y h
        have hEw : ∀ y ∈ E rl.length, -9223372036854775808 ≤ y.1 ∧ y.1 ≤ 9223372036854775807 := fun y hy => by
          rcases PL.out.mem _ y hy with h | h
          · exact bounds _ (HW.out.2.2.2.1.2 y h).1
          · exact HWY.out y h
        have hEl := PL.out.len rl.length
        obtain ⟨bz, oz, cz, hLZ⟩ := lx_of_C hSK.C rfl (show (E rl.length).length ≤ 1000000 by omega) (fun y hy => by have := hEm y hy; omega) hEw
        have hsi : si.si = s.si := by rw [hSK.si, HS.out.si]
        have hst : si.st = s.st := by rw [hSK.st, HS.out.st]
        have hzn : si.n = (E rl.length).length := hSK.n
        have hczl : cz.length = (E rl.length).length := hLZ.len
        have C33 := Aside0.mk (join_c si bz oz cz (E rl.length) wr hLZ (hzn.trans hczl.symm) index term ri AL ys.length cl bl ol cssl ys (LYw.out.below (q3.trans (B.out.mono (by omega)))) LYw.out.len.symm hcl)
        have hje : jErr s.si s.st (itX (E rl.length)) index term ys = 0 := jErr_ok PL.out.ok (by omega) HOK.out
        have hfv : findV (lacks s.si (termV s.si s.st (itX (E rl.length)))) ys = -1 := findV_none _ _ PL.out.no
        have HJF := Aside0.mk (And.intro hje hfv)
        have HNO := Aside0.mk PL.out.no
        have HSTAY := Aside0.mk PL.out.stays
        have hitz := hLZ.its_eq
        have HITZ := Aside0.mk hitz
        have hke := K.out
        have LZ := Aside0.mk hLZ
        have hcapz : si.n ≤ si.cap := by rw [hzn]; exact hSK.cap
        have BX := Aside0.mk (q3.trans (B.out.mono (by omega)))
        have K3R : Aside0 (wr.heap[w.heap.size]? = some (.cells s.cells 30 (0, 0))) := ⟨(B.out.block _ hgx).trans k3⟩
        have HEL := Aside0.mk (show (E rl.length).length ≤ 2000 by omega)
        have hOKg := Aside0.mk PL.out.ok
        clear hltz X hSK hEm hEw hEl hLZ hje hfv hitz K PL HOK k3
        rw [hsi, hst] at C33
        rw [HITZ.out] at C33
        generalize hZ : E rl.length = zs at *
        go_wp2_with (refine wpList_load_row rfl 30 (.tmp 12) rfl g rfl 30 _ (0, 0) _ hke Try.underlying30 rfl (hi30 _ rfl) ?_)
        refine C33.out.mono ?_
        intro e w8 hP
        obtain ⟨hb8, hP⟩ := hP
        rcases hP with ⟨h1, _⟩ | ⟨_, v8, n8, rfl, _, h2⟩
        · exact absurd HJF.out.1 h1
        · have hv8 : v8 = .slice none 0 0 := by
            rcases h2 with ⟨_, h⟩ | ⟨k, h, _⟩
            · exact h
            · have := HJF.out.2.symm.trans h
              omega
          subst hv8
          have K8 := (hb8.block g hsw).trans hke
          have hgw : w.heap.size < wr.heap.size := by omega
          have KS8 := (hb8.block w.heap.size hgw).trans K3R.out
          have B8 := BX.out.trans (hb8.mono (by omega))
          have LZ8 := Aside0.mk (LZ.out.below hb8)
          have hg8 : g < w8.heap.size := by have := hb8.size; omega
          have HT13 : Aside0 (∀ W, Below w8.heap.size w8 W → ∀ i, -9223372036854775808 ≤ i ∧ i ≤ 9223372036854775807 → Calls Try.prog 13 #[.agg si.cells, .int .i64 i] W fun e w' => e = .returned (.tuple #[.int .i64 (termV s.si s.st (itX zs) i).1, .bool (termV s.si s.st (itX zs) i).2]) ∧ Below W.heap.size W w') := ⟨fun W hW i hri => by
            have hck : checkB si.si (its cz) = true := by
              rw [hsi, HITZ.out]
              simp only [checkB, Bool.and_eq_true, decide_eq_true_eq]
              refine ⟨⟨⟨hOKg.out.hsi.1, hOKg.out.hsi.2⟩, by rw [itX_length]; have := HEL.out; omega⟩, ?_⟩
              rw [goesB_iff]
              intro j hj
              rw [itX_length] at hj
              rw [itX_get zs j hj]
              exact hOKg.out.goes j hj
            have hs1 : si.sound cz = si := by unfold Sv.sound; rw [if_pos hck]
            have hs2 : soundE si cz = cz := by unfold soundE; rw [if_pos hck]
            have := term_c si bz oz cz W ((LZ8.out.below hW).lg (hzn.trans hczl.symm)) i hri
            rw [hs1, hs2, hsi, hst, HITZ.out] at this
            exact this⟩
          clear hb8 C33 LZ BX hke hsw hgw K3R B
          go_wp2_with fail
          go_loopg [19] ys.length (fun gg s19 wr => ∃ (i : Nat), i ≤ ys.length ∧ ys.length - i ≤ gg ∧ s19 = .int .i64 i ∧ Aside (Below w8.heap.size w8 wr))
          case atStart => exact ⟨0, by omega, by omega, rfl, Below.refl _ _⟩
          case round =>
            obtain ⟨i, hi, hgg, rfl, B⟩ := hrel
            have fs2 : ∀ W, Below w8.heap.size w8 W → W.heap[w.heap.size]? = some (.cells s.cells 30 (0, 0)) := fun W hW => (hW.block _ (by omega)).trans KS8
            by_cases hlt : i < ys.length
            · have hltz : (i : Int) < (ys.length : Int) := by omega
              have hLY := LYw.out.below (B8.trans (B.out.mono B8.size))
              have hil : i < cssl.length := by rw [hLY.len]; exact hlt
              obtain rfl := hLY.A (by omega)
              obtain ⟨hE, hit, _⟩ := hLY.isE i hil
              have hrow := hLY.row i hil
              have fy : ∀ W, Below wr.heap.size wr W → W.cell? ⟨bl, ol + i * 43, none⟩ = some (.int .i64 ys[i]!.1) := fun W hW => by
                have h0 := hrow 0 _ hE.i0
                rw [hit] at h0
                exact (hW.cell (p := ⟨bl, ol + i * 43, none⟩) (cell_lt (p := ⟨bl, ol + i * 43 + 0, none⟩) h0)).trans h0
              have ft : ∀ W, Below wr.heap.size wr W → W.cell? ⟨bl, ol + i * 43 + 1, none⟩ = some (.int .i64 ys[i]!.2.1) := fun W hW => by
                have h0 := hrow 1 _ hE.i1
                rw [hit] at h0
                exact (hW.cell (p := ⟨bl, ol + i * 43 + 1, none⟩) (cell_lt h0)).trans h0
              have rgS : ∀ W, Below wr.heap.size wr W → W.rangeAt g 0 si.cells.toList := fun W hW => by
                have hh : W.heap[g]? = some (.cells si.cells 30 (0, 0)) := (hW.block _ (Nat.lt_of_lt_of_le hg8 B.out.size)).trans ((B.out.block _ hg8).trans K8)
                intro j u hj
                simp only [Nat.zero_add]
                simp only [World.cell?, hh]
                simpa using hj
              have hiS : (Try.prog.info? 30).map (·.size) = some si.cells.toList.length := hi30 _ rfl
              have hym : ys[i]! ∈ ys := by rw [getElem!_pos ys i hlt]; exact List.getElem_mem _
              have C13 : Aside0 (∀ W, Below wr.heap.size wr W → Calls Try.prog 13 #[.agg si.cells, .int .i64 ys[i]!.1] W fun e w' => e = .returned (.tuple #[.int .i64 (termV s.si s.st (itX zs) ys[i]!.1).1, .bool (termV s.si s.st (itX zs) ys[i]!.1).2]) ∧ Below W.heap.size W w') :=
                ⟨fun W hW => HT13.out W (B.out.trans (hW.mono B.out.size)) _ (HWY.out _ hym)⟩
              have hno := lacks_no s.si (termV s.si s.st (itX zs)) ys[i]! (HNO.out i hlt)
              have FS := Aside0.mk fs2
              have FT := Aside0.mk ft
              have FY := Aside0.mk fy
              clear hrow hE hit hLY hil hym ft fs2
              generalize termV s.si s.st (itX zs) ys[i]!.1 = T at *
              generalize ys[i]!.1 = y1 at *
              generalize ys[i]!.2.1 = y2 at *
              obtain ⟨T1, T2⟩ := T
              dsimp only at *
              have HNOI := Aside0.mk hno
              clear hno
              go_upto_region 24 with (fail)
              refine wp_region_held_drew (S := (fun W => Below wr.heap.size wr W)) (by kernel_rfl) (by exact (Below.refl _ wr).drew) (fun hHeld => ?_)
              refine wpAnyH_take (i := 0) (oi := _) (v := _) rfl (by kernel_rfl) (by kernel_rfl) (by kernel_rfl) (fun _ _ _ h => h) (yieldsIf_load_mid (by rfl) 30 (.tmp 12) rfl g 0 rfl si.cells.toList _ rgS Try.underlying30 rfl hiS) (by assumption) ?_
              (try simp only [Act.put, List.getElem_toArray, List.getElem_cons_zero, List.getElem_cons_succ, List.setIfInBounds_toArray, List.set_cons_zero, List.set_cons_succ])
              refine wpAnyH_take (i := 1) (oi := _) (v := ?_) rfl (by kernel_rfl) (by kernel_rfl) (by kernel_rfl) (fun _ _ _ h => h) (Or.inl ⟨by rfl, ?_⟩) (by assumption) ?_
              rotate_left
              · (intro w hSw; (try dsimp only at hSw); go_simp; (try with_reducible rfl))
              (try simp only [Act.put, List.getElem_toArray, List.getElem_cons_zero, List.getElem_cons_succ, List.setIfInBounds_toArray, List.set_cons_zero, List.set_cons_succ])
              refine wpAnyH_take (i := 2) (oi := _) (v := ?_) rfl (by kernel_rfl) (by kernel_rfl) (by kernel_rfl) (fun _ _ _ h => h) (Or.inl ⟨by rfl, ?_⟩) (by assumption) ?_
              rotate_left
              · (intro w hSw; (try dsimp only at hSw); go_simp; (try with_reducible rfl))
              (try simp only [Act.put, List.getElem_toArray, List.getElem_cons_zero, List.getElem_cons_succ, List.setIfInBounds_toArray, List.set_cons_zero, List.set_cons_succ])
              refine wpAnyH_take (i := 3) (oi := _) (v := ?_) rfl (by kernel_rfl) (by kernel_rfl) (by kernel_rfl) (fun _ _ _ h => h) (Or.inl ⟨by rfl, ?_⟩) (by assumption) ?_
              rotate_left
              · (intro w hSw; (try dsimp only at hSw); go_simp; (try with_reducible rfl))
              (try simp only [Act.put, List.getElem_toArray, List.getElem_cons_zero, List.getElem_cons_succ, List.setIfInBounds_toArray, List.set_cons_zero, List.set_cons_succ])
              refine wpAnyH_take (i := 4) (oi := _) (v := ?_) rfl (by kernel_rfl) (by kernel_rfl) (by kernel_rfl) (fun _ _ _ h => h) (Or.inl ⟨by rfl, ?_⟩) (by assumption) ?_
              rotate_left
              · (intro w hSw; (try dsimp only at hSw); go_simp; (try with_reducible rfl))
              (try simp only [Act.put, List.getElem_toArray, List.getElem_cons_zero, List.getElem_cons_succ, List.setIfInBounds_toArray, List.set_cons_zero, List.set_cons_succ])
              refine wpAnyH_take (i := 5) (oi := _) (v := ?_) rfl (by kernel_rfl) (by kernel_rfl) (by kernel_rfl) (fun _ _ _ h => h) (Or.inl ⟨by rfl, ?_⟩) (by assumption) ?_
              rotate_left
              · (intro w hSw; (try dsimp only at hSw); have c0 := fy w hSw; go_simp; (try with_reducible rfl))
              (try simp only [Act.put, List.getElem_toArray, List.getElem_cons_zero, List.getElem_cons_succ, List.setIfInBounds_toArray, List.set_cons_zero, List.set_cons_succ])
              refine wpAnyH_ready (rs := [6]) (by kernel_rfl) (by decide) (AllReadyH.cons rfl (fun K' hK => ?_) AllReadyH.nil)
              rw [if_pos (by rfl)]
              go_simp
              refine (C13.out _ (by assumption)).mono ?_
              rintro e w' ⟨rfl, hb'⟩
              (try dsimp only)
              refine hK.out _ _ (by exact Below.trans (by assumption) (hb'.mono (Below.size (by assumption)))) (fun hHeld => ?_)
              clear hK
              (try simp only [Act.put, List.getElem_toArray, List.getElem_cons_zero, List.getElem_cons_succ, List.setIfInBounds_toArray, List.set_cons_zero, List.set_cons_succ])
              refine wpAnyH_take (i := 7) (oi := _) (v := ?_) rfl (by kernel_rfl) (by kernel_rfl) (by kernel_rfl) (fun _ _ _ h => h) (Or.inl ⟨by rfl, ?_⟩) (by assumption) ?_
              rotate_left
              · (intro w hSw; (try dsimp only at hSw); go_simp; (try with_reducible rfl))
              (try simp only [Act.put, List.getElem_toArray, List.getElem_cons_zero, List.getElem_cons_succ, List.setIfInBounds_toArray, List.set_cons_zero, List.set_cons_succ])
              refine wpAnyH_take (i := 8) (oi := _) (v := ?_) rfl (by kernel_rfl) (by kernel_rfl) (by kernel_rfl) (fun _ _ _ h => h) (Or.inl ⟨by rfl, ?_⟩) (by assumption) ?_
              rotate_left
              · (intro w hSw; (try dsimp only at hSw); go_simp; (try with_reducible rfl))
              (try simp only [Act.put, List.getElem_toArray, List.getElem_cons_zero, List.getElem_cons_succ, List.setIfInBounds_toArray, List.set_cons_zero, List.set_cons_succ])
              refine wpAnyH_take (i := 9) (oi := _) (v := ?_) rfl (by kernel_rfl) (by kernel_rfl) (by kernel_rfl) (fun _ _ _ h => h) (Or.inl ⟨by rfl, ?_⟩) (by assumption) ?_
              rotate_left
              · (intro w hSw; (try dsimp only at hSw); go_simp; (try with_reducible rfl))
              (try simp only [Act.put, List.getElem_toArray, List.getElem_cons_zero, List.getElem_cons_succ, List.setIfInBounds_toArray, List.set_cons_zero, List.set_cons_succ])
              refine wpAnyH_take (i := 10) (oi := _) (v := ?_) rfl (by kernel_rfl) (by kernel_rfl) (by kernel_rfl) (fun _ _ _ h => h) (Or.inl ⟨by rfl, ?_⟩) (by assumption) ?_
              rotate_left
              · (intro w hSw; (try dsimp only at hSw); go_simp; (try with_reducible rfl))
              (try simp only [Act.put, List.getElem_toArray, List.getElem_cons_zero, List.getElem_cons_succ, List.setIfInBounds_toArray, List.set_cons_zero, List.set_cons_succ])
              refine wpAnyH_take (i := 11) (oi := _) (v := ?_) rfl (by kernel_rfl) (by kernel_rfl) (by kernel_rfl) (fun _ _ _ h => h) (Or.inl ⟨by rfl, ?_⟩) (by assumption) ?_
              rotate_left
              · (intro w hSw; (try dsimp only at hSw); go_simp; (try with_reducible rfl))
              (try simp only [Act.put, List.getElem_toArray, List.getElem_cons_zero, List.getElem_cons_succ, List.setIfInBounds_toArray, List.set_cons_zero, List.set_cons_succ])
              refine wpAnyH_done (by kernel_rfl) ?_ _
              have B9 : Below wr.heap.size wr w' := Below.trans (by assumption) (hb'.mono (Below.size (by assumption)))
              have BB := B.out.trans (B9.mono B.out.size)
              have c0 := FY.out w' B9
              have c1 := FT.out w' B9
              have c2 : w'.cell? ⟨w.heap.size, 2, none⟩ = some (.int .i64 s.si) := by
                have := FS.out w' BB
                simp [World.cell?, this, Sv.cells]
              clear hb' fy rgS C13 hHeld
              go_upto_region 25 with (fail)
              by_cases gy : y1 > s.si
              · obtain ⟨h2, h1⟩ := HNOI.out gy
                subst h2 h1
                have GY := decide_eq_true gy
                go_region
                go_wp2_with fail
                go_roundg (ys.length - (i + 1))
                case measure => omega
                case rel => exact ⟨i + 1, by omega, by omega, by go_num, BB.drew⟩
              · have GY := decide_eq_false gy
                go_region
                go_wp2_with fail
                go_roundg (ys.length - (i + 1))
                case measure => omega
                case rel => exact ⟨i + 1, by omega, by omega, by go_num, BB.drew⟩
            · have hltz : ¬ (i : Int) < (ys.length : Int) := by omega
              have B9 := B.out
              have hb9 := Aside0.mk B9
              clear B
              go_wp2_with fail
              go_loopg [22] x.2.2.2.1.length (fun gg s22 wr => ∃ (i : Nat), i ≤ x.2.2.2.1.length ∧ x.2.2.2.1.length - i ≤ gg ∧ s22 = .int .i64 i ∧ Aside (Below w8.heap.size w8 wr))
              case atStart => exact ⟨0, by omega, by omega, rfl, hb9.out⟩
              clear fs2 B9 hb9 hltz hlt hi hgg
              case round =>
                obtain ⟨i, hi, hgg, rfl, B⟩ := hrel
                have hg9 : g < wr.heap.size := Nat.lt_of_lt_of_le hg8 B.out.size
                have hw9 : w.heap.size < wr.heap.size := by omega
                have ks := (B.out.block _ (show w.heap.size < w8.heap.size by omega)).trans KS8
                have kz := (B.out.block _ hg8).trans K8
                have fs : ∀ W, Below wr.heap.size wr W → W.cell? ⟨w.heap.size, 7, none⟩ = some (.slice s.A s.n s.cap) := fun W hW => cell_hp ((hW.block _ hw9).trans ks) rfl
                have fz : ∀ W, Below wr.heap.size wr W → W.cell? ⟨g, 7, none⟩ = some (.slice si.A si.n si.cap) := fun W hW => cell_hp ((hW.block _ hg9).trans kz) rfl
                have cs7 := fs wr (Below.refl _ _)
                have hsn : s.n = x.2.2.2.1.length := hN.out
                by_cases hlt : i < x.2.2.2.1.length
                · have hltz : (i : Int) < (s.n : Int) := by omega
                  have hLX := LXw.out.below (B8.trans (B.out.mono B8.size))
                  have hic : i < css.length := by rw [hLX.len]; exact hlt
                  have hAs := hLX.A (by omega)
                  obtain ⟨hE, hit, _⟩ := hLX.isE i hic
                  have ce : wr.cell? ⟨b, off + i * 43, none⟩ = some (.int .i64 x.2.2.2.1[i]!.1) := by
                    have h0 := hLX.row i hic 0 _ hE.i0
                    rw [hit] at h0
                    exact h0
                  rw [hAs] at cs7 fs
                  obtain ⟨xi, hxi⟩ : ∃ xi, x.2.2.2.1[i]!.1 = xi := ⟨_, rfl⟩
                  rw [hxi] at ce
                  have HXI := Aside0.mk hxi
                  clear hxi
                  by_cases gi : xi ≤ index
                  · obtain ⟨z1, z2⟩ := HSTAY.out i hlt (by rw [HXI.out]; exact gi)
                    have hLZ := LZ8.out.below B.out
                    have hiz : i < cz.length := by rw [hczl]; exact z1
                    have hAz := hLZ.A (by omega)
                    have hgez : ¬ (i : Int) ≥ (si.n : Int) := by omega
                    have hltz2 : (i : Int) < (si.n : Int) := by omega
                    have GE := decide_eq_false hgez
                    obtain ⟨hEz, _, _⟩ := hLZ.isE i hiz
                    rw [hAz] at fz
                    have rgZ : ∀ W, Below wr.heap.size wr W → W.rangeAt bz (oz + i * 43) cz[i]! := fun W hW => (hLZ.below hW).row i hiz
                    have rgX : ∀ W, Below wr.heap.size wr W → W.rangeAt b (off + i * 43) css[i]! := fun W hW => (hLX.below hW).row i hic
                    have hi59z : (Try.prog.info? 59).map (·.size) = some cz[i]!.length := by rw [hEz.len]; exact size59
                    have hi59x : (Try.prog.info? 59).map (·.size) = some css[i]!.length := by rw [hE.len]; exact size59
                    have hxm : x.2.2.2.1[i]! ∈ x.2.2.2.1 := by rw [getElem!_pos x.2.2.2.1 i hlt]; exact List.getElem_mem _
                    have C37 : Aside0 (∀ W, Below wr.heap.size wr W → Calls Try.prog 37 #[.agg cz[i]!.toArray, .agg css[i]!.toArray] W fun e w' => e = .returned (.bool true) ∧ Below W.heap.size W w') :=
                      ⟨fun W hW => sameEntry_c x.2.2.2.1[i]! cz[i]! css[i]! W (by rw [← z2]; exact (hLZ.below hW).K i hiz) ((hLX.below hW).K i hic) (by have := C5.out _ hxm; omega) (by have := C5.out _ hxm; omega)⟩
                    clear hLX hLZ hE hit hEz hAz hAs z2 hxm ks kz
                    generalize cz[i]! = czi at *
                    generalize css[i]! = csi at *
                    go_upto_region 30 with (fail)
                    refine wp_region_held_drew (S := (fun W => Below wr.heap.size wr W)) (by kernel_rfl) (by exact (Below.refl _ wr).drew) (fun hHeld => ?_)
                    refine wpAnyH_take (i := 0) (oi := _) (v := ?_) rfl (by kernel_rfl) (by kernel_rfl) (by kernel_rfl) (fun _ _ _ h => h) (Or.inl ⟨by rfl, ?_⟩) (by assumption) ?_
                    rotate_left
                    · (intro w hSw; (try dsimp only at hSw); go_simp; (try with_reducible rfl))
                    (try simp only [Act.put, List.getElem_toArray, List.getElem_cons_zero, List.getElem_cons_succ, List.setIfInBounds_toArray, List.set_cons_zero, List.set_cons_succ])
                    refine wpAnyH_take (i := 1) (oi := _) (v := ?_) rfl (by kernel_rfl) (by kernel_rfl) (by kernel_rfl) (fun _ _ _ h => h) (Or.inl ⟨by rfl, ?_⟩) (by assumption) ?_
                    rotate_left
                    · (intro w hSw; (try dsimp only at hSw); go_simp; (try with_reducible rfl))
                    (try simp only [Act.put, List.getElem_toArray, List.getElem_cons_zero, List.getElem_cons_succ, List.setIfInBounds_toArray, List.set_cons_zero, List.set_cons_succ])
                    refine wpAnyH_take (i := 2) (oi := _) (v := ?_) rfl (by kernel_rfl) (by kernel_rfl) (by kernel_rfl) (fun _ _ _ h => h) (Or.inl ⟨by rfl, ?_⟩) (by assumption) ?_
                    rotate_left
                    · (intro w hSw; (try dsimp only at hSw); have c0 := fz w hSw; go_simp; (try with_reducible rfl))
                    (try simp only [Act.put, List.getElem_toArray, List.getElem_cons_zero, List.getElem_cons_succ, List.setIfInBounds_toArray, List.set_cons_zero, List.set_cons_succ])
                    refine wpAnyH_take (i := 3) (oi := _) (v := ?_) rfl (by kernel_rfl) (by kernel_rfl) (by kernel_rfl) (fun _ _ _ h => h) (Or.inl ⟨by rfl, ?_⟩) (by assumption) ?_
                    rotate_left
                    · (intro w hSw; (try dsimp only at hSw); go_simp; (try with_reducible rfl))
                    (try simp only [Act.put, List.getElem_toArray, List.getElem_cons_zero, List.getElem_cons_succ, List.setIfInBounds_toArray, List.set_cons_zero, List.set_cons_succ])
                    refine wpAnyH_take (i := 4) (oi := _) (v := .bool false) rfl (by kernel_rfl) (by kernel_rfl) (by kernel_rfl) (fun _ _ _ h => h) (Or.inl ⟨by rfl, ?_⟩) (by assumption) ?_
                    rotate_left 0
                    · (intro w hSw; (try dsimp only at hSw); go_simp; (try with_reducible rfl))
                    (try simp only [Act.put, List.getElem_toArray, List.getElem_cons_zero, List.getElem_cons_succ, List.setIfInBounds_toArray, List.set_cons_zero, List.set_cons_succ])
                    refine wpAnyH_take (i := 5) (oi := _) (v := ?_) rfl (by kernel_rfl) (by kernel_rfl) (by kernel_rfl) (fun _ _ _ h => h) (Or.inl ⟨by rfl, ?_⟩) (by assumption) ?_
                    rotate_left
                    · (intro w hSw; (try dsimp only at hSw); go_simp; (try with_reducible rfl))
                    (try simp only [Act.put, List.getElem_toArray, List.getElem_cons_zero, List.getElem_cons_succ, List.setIfInBounds_toArray, List.set_cons_zero, List.set_cons_succ])
                    refine wpAnyH_take (i := 6) (oi := _) (v := ?_) rfl (by kernel_rfl) (by kernel_rfl) (by kernel_rfl) (fun _ _ _ h => h) (Or.inl ⟨by rfl, ?_⟩) (by assumption) ?_
                    rotate_left
                    · (intro w hSw; (try dsimp only at hSw); go_simp; (try with_reducible rfl))
                    (try simp only [Act.put, List.getElem_toArray, List.getElem_cons_zero, List.getElem_cons_succ, List.setIfInBounds_toArray, List.set_cons_zero, List.set_cons_succ])
                    refine wpAnyH_take (i := 7) (oi := _) (v := ?_) rfl (by kernel_rfl) (by kernel_rfl) (by kernel_rfl) (fun _ _ _ h => h) (Or.inl ⟨by rfl, ?_⟩) (by assumption) ?_
                    rotate_left
                    · (intro w hSw; (try dsimp only at hSw); have c0 := fz w hSw; go_simp; (try with_reducible rfl))
                    (try simp only [Act.put, List.getElem_toArray, List.getElem_cons_zero, List.getElem_cons_succ, List.setIfInBounds_toArray, List.set_cons_zero, List.set_cons_succ])
                    refine wpAnyH_take (i := 8) (oi := _) (v := ?_) rfl (by kernel_rfl) (by kernel_rfl) (by kernel_rfl) (fun _ _ _ h => h) (Or.inl ⟨by rfl, ?_⟩) (by assumption) ?_
                    rotate_left
                    · (intro w hSw; (try dsimp only at hSw); go_simp; (try with_reducible rfl))
                    (try simp only [Act.put, List.getElem_toArray, List.getElem_cons_zero, List.getElem_cons_succ, List.setIfInBounds_toArray, List.set_cons_zero, List.set_cons_succ])
                    refine wpAnyH_take (i := 9) (oi := _) (v := ?_) rfl (by kernel_rfl) (by kernel_rfl) (by kernel_rfl) (fun _ _ _ h => h) (Or.inl ⟨by rfl, ?_⟩) (by assumption) ?_
                    rotate_left
                    · (intro w hSw; (try dsimp only at hSw); go_simp; (try with_reducible rfl))
                    (try simp only [Act.put, List.getElem_toArray, List.getElem_cons_zero, List.getElem_cons_succ, List.setIfInBounds_toArray, List.set_cons_zero, List.set_cons_succ])
                    refine wpAnyH_take (i := 10) (oi := _) (v := _) rfl (by kernel_rfl) (by kernel_rfl) (by kernel_rfl) (fun _ _ _ h => h) (yieldsIf_load_mid (by rfl) 59 (.tmp 180) rfl bz (oz + i * 43) rfl czi _ rgZ Try.underlying59 rfl hi59z) (by assumption) ?_
                    (try simp only [Act.put, List.getElem_toArray, List.getElem_cons_zero, List.getElem_cons_succ, List.setIfInBounds_toArray, List.set_cons_zero, List.set_cons_succ])
                    refine wpAnyH_take (i := 11) (oi := _) (v := ?_) rfl (by kernel_rfl) (by kernel_rfl) (by kernel_rfl) (fun _ _ _ h => h) (Or.inl ⟨by rfl, ?_⟩) (by assumption) ?_
                    rotate_left
                    · (intro w hSw; (try dsimp only at hSw); go_simp; (try with_reducible rfl))
                    (try simp only [Act.put, List.getElem_toArray, List.getElem_cons_zero, List.getElem_cons_succ, List.setIfInBounds_toArray, List.set_cons_zero, List.set_cons_succ])
                    refine wpAnyH_take (i := 12) (oi := _) (v := ?_) rfl (by kernel_rfl) (by kernel_rfl) (by kernel_rfl) (fun _ _ _ h => h) (Or.inl ⟨by rfl, ?_⟩) (by assumption) ?_
                    rotate_left
                    · (intro w hSw; (try dsimp only at hSw); have c0 := fs w hSw; go_simp; (try with_reducible rfl))
                    (try simp only [Act.put, List.getElem_toArray, List.getElem_cons_zero, List.getElem_cons_succ, List.setIfInBounds_toArray, List.set_cons_zero, List.set_cons_succ])
                    refine wpAnyH_take (i := 13) (oi := _) (v := ?_) rfl (by kernel_rfl) (by kernel_rfl) (by kernel_rfl) (fun _ _ _ h => h) (Or.inl ⟨by rfl, ?_⟩) (by assumption) ?_
                    rotate_left
                    · (intro w hSw; (try dsimp only at hSw); go_simp; (try with_reducible rfl))
                    (try simp only [Act.put, List.getElem_toArray, List.getElem_cons_zero, List.getElem_cons_succ, List.setIfInBounds_toArray, List.set_cons_zero, List.set_cons_succ])
                    refine wpAnyH_take (i := 14) (oi := _) (v := ?_) rfl (by kernel_rfl) (by kernel_rfl) (by kernel_rfl) (fun _ _ _ h => h) (Or.inl ⟨by rfl, ?_⟩) (by assumption) ?_
                    rotate_left
                    · (intro w hSw; (try dsimp only at hSw); go_simp; (try with_reducible rfl))
                    (try simp only [Act.put, List.getElem_toArray, List.getElem_cons_zero, List.getElem_cons_succ, List.setIfInBounds_toArray, List.set_cons_zero, List.set_cons_succ])
                    refine wpAnyH_take (i := 15) (oi := _) (v := _) rfl (by kernel_rfl) (by kernel_rfl) (by kernel_rfl) (fun _ _ _ h => h) (yieldsIf_load_mid (by rfl) 59 (.tmp 185) rfl b (off + i * 43) rfl csi _ rgX Try.underlying59 rfl hi59x) (by assumption) ?_
                    (try simp only [Act.put, List.getElem_toArray, List.getElem_cons_zero, List.getElem_cons_succ, List.setIfInBounds_toArray, List.set_cons_zero, List.set_cons_succ])
                    refine wpAnyH_ready (rs := [16]) (by kernel_rfl) (by decide) (AllReadyH.cons rfl (fun K' hK => ?_) AllReadyH.nil)
                    rw [if_pos (by rfl)]
                    go_simp
                    refine (C37.out _ (by assumption)).mono ?_
                    rintro e w' ⟨rfl, hb'⟩
                    (try dsimp only)
                    refine hK.out _ _ (by exact Below.trans (by assumption) (hb'.mono (Below.size (by assumption)))) (fun hHeld => ?_)
                    clear hK
                    (try simp only [Act.put, List.getElem_toArray, List.getElem_cons_zero, List.getElem_cons_succ, List.setIfInBounds_toArray, List.set_cons_zero, List.set_cons_succ])
                    refine wpAnyH_take (i := 17) (oi := _) (v := ?_) rfl (by kernel_rfl) (by kernel_rfl) (by kernel_rfl) (fun _ _ _ h => h) (Or.inl ⟨by rfl, ?_⟩) (by assumption) ?_
                    rotate_left
                    · (intro w hSw; (try dsimp only at hSw); go_simp; (try with_reducible rfl))
                    (try simp only [Act.put, List.getElem_toArray, List.getElem_cons_zero, List.getElem_cons_succ, List.setIfInBounds_toArray, List.set_cons_zero, List.set_cons_succ])
                    refine wpAnyH_take (i := 18) (oi := _) (v := ?_) rfl (by kernel_rfl) (by kernel_rfl) (by kernel_rfl) (fun _ _ _ h => h) (Or.inl ⟨by rfl, ?_⟩) (by assumption) ?_
                    rotate_left
                    · (intro w hSw; (try dsimp only at hSw); go_simp; (try with_reducible rfl))
                    (try simp only [Act.put, List.getElem_toArray, List.getElem_cons_zero, List.getElem_cons_succ, List.setIfInBounds_toArray, List.set_cons_zero, List.set_cons_succ])
                    refine wpAnyH_done (by kernel_rfl) ?_ _
                    have B9 : Below wr.heap.size wr w' := Below.trans (by assumption) (hb'.mono (Below.size (by assumption)))
                    have BB := B.out.trans (B9.mono B.out.size)
                    clear hb' hHeld C37 rgZ rgX fs fz
                    go_wp2_with fail
                    go_roundg (x.2.2.2.1.length - (i + 1))
                    case measure => omega
                    case rel => exact ⟨i + 1, by omega, by omega, by go_num, BB⟩
                  · have BF := B.out
                    clear fs fz ks kz
                    go_wp2_with fail
                    refine (joins_c wr).mono ?_
                    rintro e w9 ⟨rfl, hb⟩
                    have B3 : Below w8.heap.size w8 w9 := BF.trans (hb.mono BF.size)
                    clear hb
                    go_wp2_with fail
                    refine (asks_c w9).mono ?_
                    rintro e w10 ⟨rfl, hb⟩
                    have B4 : Below w8.heap.size w8 w10 := B3.trans (hb.mono B3.size)
                    clear hb
                    go_wp2_with fail
                    go_ret
                    exact ⟨rfl, B8.trans (B4.mono B8.size)⟩
                · have hltz : ¬ (i : Int) < (s.n : Int) := by omega
                  have BF := B.out
                  clear fs fz ks kz
                  go_wp2_with fail
                  refine (joins_c wr).mono ?_
                  rintro e w9 ⟨rfl, hb⟩
                  have B3 : Below w8.heap.size w8 w9 := BF.trans (hb.mono BF.size)
                  clear hb
                  go_wp2_with fail
                  refine (asks_c w9).mono ?_
                  rintro e w10 ⟨rfl, hb⟩
                  have B4 : Below w8.heap.size w8 w10 := B3.trans (hb.mono B3.size)
                  clear hb
                  go_wp2_with fail
                  go_ret
                  exact ⟨rfl, B8.trans (B4.mono B8.size)⟩
end Go.Proofs.Ytpjachbmllklgaa.Rng
