/- LedgerRoom, walked. -/
import Derived.Test.YtpjachbmllklgaaRoomP
namespace Go.Proofs.Ytpjachbmllklgaa.Rng
open Go.RowKit Go.Proofs.YtpjachbmllklgaaW.PrintWords Go.Proofs.Ytpjachbmllklgaa.Kinds Go.Proofs.Ytpjachbmllklgaa.PCou
set_option linter.unusedVariables false
set_option linter.unusedSimpArgs false
attribute [local go_sem] Oper.semAt_some

set_option maxHeartbeats 1000000 in
set_option maxRecDepth 100000 in
theorem room_law (n : Int) (w : World) : Calls Try.prog 6 #[.int .i64 n] w fun e w' => e = .returned (.bool true) ∧ Below w.heap.size w w' := by
  have e10 : ∀ args w, (callFunc 10 args).run Try.prog w = .ok (.enter 10 args) w := enters_of Try.func10 (by kernel_rfl) rfl
  have e11 : ∀ args w, (callFunc 11 args).run Try.prog w = .ok (.enter 11 args) w := enters_of Try.func11 (by kernel_rfl) rfl
  have e25 : ∀ args w, (callFunc 25 args).run Try.prog w = .ok (.enter 25 args) w := enters_of Try.func25 (by kernel_rfl) rfl
  have e15 : ∀ args w, (callFunc 15 args).run Try.prog w = .ok (.enter 15 args) w := enters_of Try.func15 (by kernel_rfl) rfl
  by_cases g1 : n < 0
  · go_enter Try.func6, Try.ntmps6
    go_wp2
    go_ret
    exact ⟨rfl, Below.refl _ _⟩
  by_cases g2 : n > 9100
  · go_enter Try.func6, Try.ntmps6
    go_wp2
    go_ret
    exact ⟨rfl, Below.refl _ _⟩
  obtain ⟨m, rfl⟩ : ∃ m : Nat, n = m := ⟨n.toNat, by omega⟩
  have hm : m ≤ 9100 := by omega
  clear g1 g2
  go_enter Try.func6, Try.ntmps6
  go_wp2_with fail
  have q0 : Below w.heap.size w (w.alloc (.cells (roomSv none 0 0).cells 30)) := (Below.refl _ w).alloc (Nat.le_refl _) _
  have hs0 : (w.alloc (.cells (roomSv none 0 0).cells 30)).heap.size = w.heap.size + 1 := by simp
  have k0 := blk_new w (.cells (roomSv none 0 0).cells 30)
  obtain ⟨W0, hW0⟩ : ∃ W0, w.alloc (.cells (roomSv none 0 0).cells 30) = W0 := ⟨_, rfl⟩
  have hW1 : (w.alloc (.cells #[.int .i64 0, .int .i64 0, .int .i64 0, .int .i64 0, .slice none 0 0, .slice none 0 0, .string ⟨#[]⟩, .slice none 0 0, .slice none 0 0] 30)) = W0 := hW0
  rw [hW1]
  rw [hW0] at q0 hs0 k0
  clear hW0 hW1
  go_loopg [4] m (fun gg s4 wr => ∃ kk : Nat, kk ≤ m ∧ m - kk ≤ gg ∧ s4 = .int .i64 kk ∧ Aside (Below w.heap.size w wr) ∧ ∃ v, Aside (wr.heap[w.heap.size]? = some (.cells #[.int .i64 0, .int .i64 0, .int .i64 0, .int .i64 0, .slice none 0 0, .slice none 0 0, .string ⟨#[]⟩, v, .slice none 0 0] 30 (0, 0))) ∧ Aside (kEnt.R 59 wr w.heap.size (fun k => k ≠ w.heap.size) v (roomX kk)))
  case atStart => exact ⟨0, by omega, by omega, rfl, q0, _, k0, Kd.R_nil _ _ _ _ _⟩
  case round =>
    obtain ⟨kk, hk, hgg, rfl, B, v, K, R⟩ := hrel
    by_cases hlt : kk < m
    · have hltz : (kk : Int) < (m : Int) := by omega
      have c7 : wr.cell? ⟨w.heap.size, 7, none⟩ = some v := by have := K.out; simp [World.cell?, this]
      obtain ⟨A, c, hv⟩ := Kd.R_slice R.out
      subst hv
      rw [roomX_length] at c7 R K
      have HM := Aside0.mk (ent_M wr w.heap.size (fun _ => False) ((kk : Int) + 1) 3)
      have hgl : w.heap.size < wr.heap.size := block_lt_of_cell c7
      go_wp2_with (at_builtin; refine Kd.R_append kEnt (w0 := w) w.heap.size rfl (.tmp 21) (.tmp 25) 27 59 z59 168 rfl Try.underlying27 info59 z59_size (by decide) (by omega) (.slice A kk c) (roomX kk) (entX ((kk : Int) + 1) 3) (ent ((kk : Int) + 1) 3) (fun k => k ≠ w.heap.size) (fun _ => False) rfl rfl HM.out (fun _ h => h.elim) ?fresh R.out B.out B.out.size ?aL ?_)
      case fresh => exact fun k hk => by omega
      case aL => rw [roomX_length]; omega
      intro v1 w1 ho hb hg hat
      rw [← roomX_succ] at ho
      have hk1 : w1.heap[w.heap.size]? = wr.heap[w.heap.size]? := hg.block _ hgl (fun e => R.out.1 _ e.symm rfl)
      have K1 := hk1.trans K.out
      have c71 : w1.cell? ⟨w.heap.size, 7, none⟩ = some (.slice A kk c) := by simp [World.cell?, K1]
      have f71 : w1.frozen? ⟨w.heap.size, 7, none⟩ = false := by simp [World.frozen?, K1]
      obtain ⟨A1, c1, hv1⟩ := Kd.R_slice ho
      subst hv1
      rw [roomX_length] at ho
      have HO := Aside0.mk ho
      have KK := Aside0.mk K1
      clear ho hg hat hk1 K1 c7
      have hb1 : Below w.heap.size w w1 := hb
      clear hb
      go_wp2
      go_roundg (m - (kk + 1))
      case measure => omega
      case rel =>
        refine ⟨kk + 1, by omega, by omega, by go_num, hb1.setCell (p := ⟨w.heap.size, 7, none⟩) (Nat.le_refl _) _, .slice A1 (kk + 1) c1, (show Aside _ from ?_), (show Aside _ from ?_)⟩
        · simp [World.setCell, Array.getElem?_modify, KK.out]
          exact (roomX_length (kk + 1) : (roomX (kk + 1)).length = kk + 1)
        · exact Kd.R_far (p := ⟨w.heap.size, 7, none⟩) HO.out (fun k hk => hk) _
    · have hltz : ¬ (kk : Int) < (m : Int) := by omega
      have hkm : kk = m := by omega
      subst hkm
      clear hlt hgg hk
      obtain ⟨A, c, hv, hcap, hC⟩ := Kd.R_reads R.out
      subst hv
      rw [roomX_length] at hC hcap K
      obtain ⟨b, off, css, hLX⟩ := lx_of_C hC (roomX_length _) (by rw [roomX_length]; omega) (room_cou _) (room_wi _ hm)
      have hnl : kk = css.length := by have := hLX.len; rw [roomX_length] at this; exact this.symm
      have k1 : wr.heap[w.heap.size]? = some (.cells (roomSv A kk c).cells 30 (0, 0)) := K.out
      have q1 := B.out
      have hi30 : ∀ cells : Array Value, cells.size = 9 → (Try.prog.info? 30).map (·.size) = some cells.size := fun c hc => by rw [hc]; exact size30
      have L1 := Aside0.mk hLX
      have NL := Aside0.mk hnl
      clear hC R K B hLX hnl
      have hs1 : w.heap.size < wr.heap.size := (Array.getElem?_eq_some_iff.1 k1).1
      obtain ⟨ev, hev⟩ : ∃ x : Int, (if kk ≤ 9000 then (0 : Int) else 1) = x := ⟨_, rfl⟩
      obtain ⟨⟨n1, t1⟩, hlv⟩ : ∃ x : Int × Int, (if kk ≤ 9000 then ((kk : Int), if kk = 0 then (0 : Int) else 3) else (0, 0)) = x := ⟨_, rfl⟩
      have C10 : Aside0 (∀ W, LX W A b off css (roomX kk) → Calls Try.prog 10 #[.agg (roomSv A kk c).cells] W fun e w' => e = .returned (.int .i64 ev) ∧ Below W.heap.size W w') := ⟨fun W hW => by
        have := check_c (roomSv A kk c) b off css W (LX.lg (s := roomSv A kk c) hW NL.out)
        rw [room_check_eq hW] at this
        simp only [decide_eq_true_eq] at this
        rw [hev] at this
        exact this⟩
      have C11 : Aside0 (∀ W, LX W A b off css (roomX kk) → Calls Try.prog 11 #[.agg (roomSv A kk c).cells] W fun e w' => e = .returned (.tuple #[.int .i64 n1, .int .i64 t1]) ∧ Below W.heap.size W w') := ⟨fun W hW => by
        have := last_c (roomSv A kk c) b off css W (LX.lg (s := roomSv A kk c) hW NL.out)
        rw [room_last hW, hlv] at this
        exact this⟩
      have C25 : Aside0 (∀ W, LX W A b off css (roomX kk) → Calls Try.prog 25 #[.agg (roomSv A kk c).cells, .int .i64 0, .int .i64 kk] W fun e w' => ∃ v, e = .returned v ∧ kEnt.R 59 w' W.heap.size (fun _ => True) v (aboveX (sndX (roomSv A kk c) (roomX kk)) 0 kk) ∧ Below W.heap.size W w') := ⟨fun W hW => above_c (roomSv A kk c) b off css (roomX kk) W hW NL.out hcap 0 kk (by omega)⟩
      have EV := Aside0.mk hev
      have LV := Aside0.mk hlv
      clear hev hlv
      go_wp2_with (refine wpList_load_row rfl 30 (.tmp 3) rfl w.heap.size rfl 30 _ (0, 0) _ k1 Try.underlying30 rfl (hi30 _ rfl) ?_)
      refine (C10.out wr L1.out).mono ?_
      rintro e w2 ⟨rfl, hb⟩
      have hs2 : w.heap.size < w2.heap.size := Nat.lt_of_lt_of_le hs1 hb.size
      have k2 := (hb.block w.heap.size hs1).trans k1
      have q2 : Below w.heap.size w w2 := q1.trans (hb.mono q1.size)
      have L2 := Aside0.mk (L1.out.below hb)
      clear L1 hb q1 k1 hs1
      go_wp2_with (refine wpList_load_row rfl 30 (.tmp 3) rfl w.heap.size rfl 30 _ (0, 0) _ k2 Try.underlying30 rfl (hi30 _ rfl) ?_)
      refine (C11.out w2 L2.out).mono ?_
      rintro e w3 ⟨rfl, hb⟩
      have hs3 : w.heap.size < w3.heap.size := Nat.lt_of_lt_of_le hs2 hb.size
      have k3 := (hb.block w.heap.size hs2).trans k2
      have q3 : Below w.heap.size w w3 := q2.trans (hb.mono q2.size)
      have L3 := Aside0.mk (L2.out.below hb)
      clear L2 hb q2 k2 hs2
      go_wp2_with (refine wpList_load_row rfl 30 (.tmp 3) rfl w.heap.size rfl 30 _ (0, 0) _ k3 Try.underlying30 rfl (hi30 _ rfl) ?_)
      refine (C25.out w3 L3.out).mono ?_
      rintro e w4 ⟨v, rfl, hR, hb⟩
      obtain ⟨A4, c4, hv4⟩ := Kd.R_slice hR
      subst hv4
      have q4 : Below w.heap.size w w4 := q3.trans (hb.mono q3.size)
      clear hb q3 k3 hs3 hR L3 C10 C11 C25 NL hcap
      by_cases h9 : kk ≤ 9000
      · have hal := room_above kk h9 (roomSv A kk c) rfl
        rw [hal]
        have hev := EV.out
        have hlv := LV.out
        rw [if_pos h9] at hev hlv
        subst hev
        simp only [Prod.mk.injEq] at hlv
        obtain ⟨rfl, rfl⟩ := hlv
        have h9' : ¬ (kk : Int) > 9000 := by omega
        clear hal EV LV
        by_cases hz : kk = 0
        · subst hz
          simp only [if_pos]
          go_wp2_with fail
          refine (asks_c w4).mono ?_
          rintro e w5 ⟨rfl, hb⟩
          go_wp2
          go_ret
          exact ⟨rfl, q4.trans (hb.mono q4.size)⟩
        · rw [if_neg hz]
          have hz' : ¬ (kk : Int) = 0 := by omega
          go_wp2_with fail
          refine (asks_c w4).mono ?_
          rintro e w5 ⟨rfl, hb⟩
          go_wp2
          go_ret
          exact ⟨rfl, q4.trans (hb.mono q4.size)⟩
      · have hal := room_above_not kk h9 (roomSv A kk c) rfl
        rw [hal]
        have hev := EV.out
        have hlv := LV.out
        rw [if_neg h9] at hev hlv
        subst hev
        simp only [Prod.mk.injEq] at hlv
        obtain ⟨rfl, rfl⟩ := hlv
        have h9' : (kk : Int) > 9000 := by omega
        clear hal EV LV
        go_wp2_with fail
        refine (asks_c w4).mono ?_
        rintro e w5 ⟨rfl, hb⟩
        go_wp2
        go_ret
        exact ⟨rfl, q4.trans (hb.mono q4.size)⟩
end Go.Proofs.Ytpjachbmllklgaa.Rng
