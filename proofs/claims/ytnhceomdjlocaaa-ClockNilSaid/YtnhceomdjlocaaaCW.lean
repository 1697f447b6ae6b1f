/- ClockWatches, walked. -/
import Derived.Test.YtnhceomdjlocaaaSt
import Derived.Test.YtnhceomdjlocaaaGivenA
namespace Go.Proofs.Ytnhceomdjlocaaa.Clock
open Go.RowKit Go.Lib Go.Proofs.Ytnhceomdjlocaaa.PAll Go.Proofs.YtnhceomdjlocaaaW.PrintWords Go.Proofs.YtnhceomdjlocaaaW.PrintLast Go.Proofs.YtnhceomdjlocaaaW.PrintMore
set_option linter.unusedVariables false
set_option linter.unusedSimpArgs false

set_option maxHeartbeats 8000000 in
set_option maxRecDepth 100000 in
/-- Rows that are too long, or no nodes. -/
theorem watches_short (A0 : Option Addr) (c0 : Nat) (ns : List Int) (A1 : Option Addr) (c1 : Nat) (l1 : List Int) (w : World) (hr0 : Kd.C (Kd.int .i64) w A0 ns.length ns) (hc0 : ns.length ≤ c0)
    (h : ns.length > 300 ∨ l1.length > 300 ∨ nodesB ns = false) :
    Calls Try.prog 5 #[.slice A0 ns.length c0, .slice A1 l1.length c1] w fun e w' => e = .returned (.bool true) ∧ Below w.heap.size w w' := by
  have e10 : ∀ args w, (callFunc 10 args).run Try.prog w = .ok (.enter 10 args) w := enters_of Try.func10 (by kernel_rfl) rfl
  have e11 : ∀ args w, (callFunc 11 args).run Try.prog w = .ok (.enter 11 args) w := enters_of Try.func11 (by kernel_rfl) rfl
  have e12 : ∀ args w, (callFunc 12 args).run Try.prog w = .ok (.enter 12 args) w := enters_of Try.func12 (by kernel_rfl) rfl
  by_cases g0 : ns.length > 300
  · have hg0 : (300 : Int) < (ns.length : Int) := by omega
    clear h hr0
    go_enter Try.func5, Try.ntmps5
    go_wp2
    go_ret
    exact ⟨rfl, Below.refl _ _⟩
  by_cases g1 : l1.length > 300
  · have hg0 : ¬ (300 : Int) < (ns.length : Int) := by omega
    have hg1 : (300 : Int) < (l1.length : Int) := by omega
    clear h hr0
    go_enter Try.func5, Try.ntmps5
    go_wp2
    go_ret
    exact ⟨rfl, Below.refl _ _⟩
  have hn : nodesB ns = false := by rcases h with h | h | h <;> first | exact h | omega
  have hg0 : ¬ (300 : Int) < (ns.length : Int) := by omega
  have hg1 : ¬ (300 : Int) < (l1.length : Int) := by omega
  have hcall := new_bad A0 c0 ns w hr0 hc0 (by omega) hn
  obtain ⟨k, hk⟩ := (nodes_ref ns (by omega)).rounds
  rw [hn] at hk
  have HR := Aside0.mk hr0
  have HK := Aside0.mk hk
  clear h hr0 hk hn
  go_enter Try.func5, Try.ntmps5
  go_wp2_with fail
  refine hcall.mono ?_
  rintro e w1 ⟨rfl, hb⟩
  have B1 := Aside0.mk hb
  clear hb
  go_wp2_with fail
  refine (watched_c w1).mono ?_
  rintro e w2 ⟨rfl, hb⟩
  have B2 := Aside0.mk (B1.out.trans (hb.mono B1.out.size))
  clear hb
  have hcn := r18_Nodes.calls k A0 c0 ns false w2 (Kd.C_below HR.out B2.out) hc0 HK.out
  go_wp2_with fail
  refine hcn.mono ?_
  rintro e w3 ⟨rfl, q, rfl⟩
  go_wp2
  go_ret
  exact ⟨rfl, pw_below_drewN B2.out q⟩

set_option maxHeartbeats 16000000 in
set_option maxRecDepth 100000 in
theorem watches_long (A0 : Option Addr) (c0 : Nat) (ns : List Int) (A1 : Option Addr) (c1 : Nat) (l1 : List Int) (w : World) (hr0 : Kd.C (Kd.int .i64) w A0 ns.length ns) (hc0 : ns.length ≤ c0) (hr1 : Kd.C (Kd.int .i64) w A1 l1.length l1) (hc1 : l1.length ≤ c1)
    (hl0 : ns.length ≤ 300) (hl1 : l1.length ≤ 300) (hn : nodesB ns = true) (hwf : ∀ j, j < l1.length → -9223372036854775808 ≤ l1[j]! ∧ l1[j]! ≤ 9223372036854775807) :
    Calls Try.prog 5 #[.slice A0 ns.length c0, .slice A1 l1.length c1] w fun e w' => e = .returned (.bool true) ∧ Below w.heap.size w w' := by
  have e9 : ∀ args w, (callFunc 9 args).run Try.prog w = .ok (.enter 9 args) w := enters_of Try.func9 (by kernel_rfl) rfl
  have e11 : ∀ args w, (callFunc 11 args).run Try.prog w = .ok (.enter 11 args) w := enters_of Try.func11 (by kernel_rfl) rfl
  have e12 : ∀ args w, (callFunc 12 args).run Try.prog w = .ok (.enter 12 args) w := enters_of Try.func12 (by kernel_rfl) rfl
  have e13 : ∀ args w, (callFunc 13 args).run Try.prog w = .ok (.enter 13 args) w := enters_of Try.func13 (by kernel_rfl) rfl
  have e14 : ∀ args w, (callFunc 14 args).run Try.prog w = .ok (.enter 14 args) w := enters_of Try.func14 (by kernel_rfl) rfl
  have e15 : ∀ args w, (callFunc 15 args).run Try.prog w = .ok (.enter 15 args) w := enters_of Try.func15 (by kernel_rfl) rfl
  have e16 : ∀ args w, (callFunc 16 args).run Try.prog w = .ok (.enter 16 args) w := enters_of Try.func16 (by kernel_rfl) rfl
  have e17 : ∀ args w, (callFunc 17 args).run Try.prog w = .ok (.enter 17 args) w := enters_of Try.func17 (by kernel_rfl) rfl
  have hg0 : ¬ (300 : Int) < (ns.length : Int) := by omega
  have hg1 : ¬ (300 : Int) < (l1.length : Int) := by omega
  obtain ⟨hgo, hns⟩ := nodesB_iff.1 hn
  have hcall := new_c A0 c0 ns w hr0 hc0 hn
  have HR0 := Aside0.mk (readsInt_of_C hr0)
  have HR1 := Aside0.mk (readsInt_of_C hr1)
  have HN := Aside0.mk hn
  have HGO := Aside0.mk hgo
  have HWF := Aside0.mk hwf
  clear hr0 hr1 hn hgo hwf
  go_enter Try.func5, Try.ntmps5
  go_wp2_with fail
  refine hcall.mono ?_
  rintro e w1 ⟨a, rfl, hb, hab, hwt⟩
  have B1 := Aside0.mk hb
  have HA := Aside0.mk hab
  have W1 := Aside0.mk hwt
  clear hb hab hwt hcall
  go_wp2_with (at_builtin; refine print_append_row (w0 := w) w.heap.size rfl (.tmp 46) (.tmp 47) 22 3 .i64 8 rfl Try.underlying22 info3 (by decide) (.slice none 0 0) ([] : List Int) ns _ _ _ rfl rfl ?aO ?aR ?aB ?aS ?aL ?_)
  case aO => exact own_nil _ _ _ _
  case aR => exact HR0.out.below B1.out
  case aB => exact B1.out
  case aS => exact B1.out.size
  case aL => simp; omega
  intro v1 w2 ho hb hg hat
  obtain ⟨g7, c7, rfl, hge, hlt⟩ := ho.form (by simpa using hns)
  have S2 : Aside0 (St w w2 a ns [] [] g7 c7 (.slice none 0 0)) := Aside0.mk ⟨hb, W1.out.below ⟨hg.os, hg.tape, hg.output, hg.size, fun k hk => hg.block k hk (by simp [Value.ownBlock])⟩, by simpa using ho, own_nil _ _ _ _, by simp [Value.ownBlock], by simp [Value.ownBlock]⟩
  clear ho hb hg hat hge hlt
  go_wp2_with fail
  go_loopg [8, 9] l1.length (fun gg s8 s9 wr => ∃ i : Nat, i ≤ l1.length ∧ l1.length - i ≤ gg ∧ s9 = .int .i64 i ∧ Aside (St w wr a ns ((l1.take i).filter (inN ns)) ((l1.take i).filter (inN ns)) g7 c7 s8))
  case atStart => exact ⟨0, by omega, by omega, rfl, S2.out⟩
  case round =>
    obtain ⟨i, hi, hgg, rfl, S⟩ := hrel
    by_cases hlt : i < l1.length
    · have hltz : (i : Int) < (l1.length : Int) := by omega
      obtain ⟨A8, c8, rfl, hc8, _⟩ := own_form8 S.out.tld
      obtain ⟨ad, rfl, hcells⟩ := HR1.out.2.2 (by omega)
      have hci0 : w.cell? (ad.add i) = some (.int .i64 l1[i]!) := by rw [hcells i hlt]; simp [List.getElem?_eq_getElem hlt, getElem!_pos l1 i hlt]
      have hx := HWF.out i hlt
      have htl : ((l1.take i).filter (inN ns)).length ≤ 100000 := by have := List.length_filter_le (inN ns) (l1.take i); rw [List.length_take] at this; omega
      clear hcells
      generalize hxl : l1[i]! = x at hci0 hx
      have HXL := Aside0.mk hxl
      clear hxl
      have hci : wr.cell? (ad.add i) = some (.int .i64 x) := pw_cell_below S.out.bel hci0
      have HCI := Aside0.mk hci0
      clear hci0
      generalize hn8 : ((l1.take i).filter (inN ns)).length = n8 at S hc8
      have HN8 := Aside0.mk hn8
      clear hn8
      cases hin : inN ns x with
        | true =>
          have hT := tell_c a ns ((l1.take i).filter (inN ns)) wr x HN.out S.out.wt htl
          have hm : more ns ((l1.take i).filter (inN ns)) x = ((l1.take i).filter (inN ns) ++ [x]) := by unfold more; rw [hin]; rfl
          rw [hm, hin] at hT
          simp only [if_true] at hT
          have hor := inN_in ns x HGO.out hx
          rw [hin] at hor
          have HOR := Aside0.mk hor
          have TM := Aside0.mk (by rw [← hm, ← HXL.out]; exact told_more ns l1 i hlt : ((l1.take i).filter (inN ns) ++ [x]) = (l1.take (i + 1)).filter (inN ns))
          clear hor hm hin htl
          go_wp2_with fail
          refine hT.mono ?_
          rintro e w3 ⟨rfl, W3, hb3, hf3⟩
          have S3 := Aside0.mk (S.out.tell HA.out W3 hb3 hf3)
          have hci3 : w3.cell? (ad.add i) = some (.int .i64 x) := pw_cell_below S3.out.bel HCI.out
          clear W3 hb3 hf3 hT
          go_upto_region 13 with fail
          go_cut [11] (fun s11 wc => s11 = .bool true ∧ Aside (St w wc a ns ((l1.take i).filter (inN ns) ++ [x]) ((l1.take i).filter (inN ns)) g7 c7 (.slice A8 n8 c8)))
          case first =>
            obtain ⟨A7, c7', e7, hc7, hk7⟩ := own_form8 S3.out.own
            simp only [Value.slice.injEq, true_and] at e7
            obtain ⟨rfl, rfl⟩ := e7
            obtain ⟨k1, hk1⟩ := (in_ref ns x (by omega)).rounds
            obtain ⟨k2, hk2⟩ := (in_ref ns (wrap64 (-x)) (by omega)).rounds
            generalize ns.any (fun z => decide (z = x)) = r1 at hk1 HOR
            generalize ns.any (fun z => decide (z = wrap64 (-x))) = r2 at hk2 HOR
            have hcall1 := r18_In.calls k1 _ c7 ns x r1 w3 hk7 hc7 hk1
            have hcall2 := fun q => r18_In.calls k2 _ c7 ns (wrap64 (-x)) r2 (w3.drewN q) (Kd.C_below hk7 (pw_below_drewN (Below.refl _ w3) q)) hc7 hk2
            have HK7 := Aside0.mk hk7
            clear hk7 hk1 hk2
            cases r1 with
            | true =>
              go_wp2_with fail
              refine hcall1.mono ?_
              rintro e w4 ⟨rfl, q, rfl⟩
              go_wp2_with fail
              go_meet
              exact ⟨rfl, S3.out.below (pw_below_drewN (Below.refl _ _) q)⟩
            | false =>
              obtain ⟨hneg, rfl⟩ : x < 0 ∧ r2 = true := by
                have ho := HOR.out.symm
                simpa using ho
              go_wp2_with fail
              refine hcall1.mono ?_
              rintro e w4 ⟨rfl, q, rfl⟩
              go_wp2_with fail
              refine (hcall2 q).mono ?_
              rintro e w5 ⟨rfl, q2, rfl⟩
              go_wp2_with fail
              go_meet
              exact ⟨rfl, S3.out.below (pw_below_drewN (Below.refl _ _) (q + q2))⟩
          case rest =>
            obtain ⟨rfl, S4⟩ := hcut
            have hci4 : wc.cell? (ad.add i) = some (.int .i64 x) := pw_cell_below S4.out.bel HCI.out
            have hn8' : n8 = ((l1.take i).filter (inN ns)).length := HN8.out.symm
            have tld4 := Aside0.mk S4.out.tld
            have hsz4 := S4.out.bel.size
            have hN : n8 ≤ 300 := by have := List.length_filter_le (inN ns) (l1.take i); rw [List.length_take] at this; omega
            clear hn8'
            generalize hT0 : (l1.take i).filter (inN ns) = T0 at *
            have HT0 := Aside0.mk hT0
            clear hT0
            go_wp2_with (at_builtin; refine print_append_num (w0 := w) w.heap.size rfl (.tmp 96) (.tmp 101) 22 3 .i64 8 rfl Try.underlying22 info3 (by decide) (.slice A8 n8 c8) T0 x rfl rfl tld4.out S4.out.bel hsz4 ?aL ?_)
            case aL => rw [HN8.out]; omega
            intro v1 w5 ho5 hb5 hg5 hat5
            have S5 := Aside0.mk (S4.out.push (x := x) hb5 hg5 (by simpa using ho5) hat5)
            obtain ⟨A9, c9, rfl, hc9, _⟩ := own_form8 S5.out.tld
            generalize hn9 : (T0 ++ [x]).length = n9 at S5 hc9
            have HN9 := Aside0.mk hn9
            clear hn9 ho5 hb5 hg5 hat5
            have hci5 : w5.cell? (ad.add i) = some (.int .i64 x) := pw_cell_below S5.out.bel HCI.out
            have TM2 : Aside0 (T0 ++ [x] = (l1.take (i + 1)).filter (inN ns)) := Aside0.mk TM.out
            have hN9 : n9 ≤ 1000 := by have h1 := HN9.out; have h2 := HN8.out; rw [List.length_append] at h1; simp at h1; omega
            generalize T0 ++ [x] = T at S5 HN9 TM2
            clear HT0 tld4 S4
            go_upto_region 18 with fail
            go_cut [124] (fun s124 wd => s124 = .bool false ∧ Aside (St w wd a ns T T g7 c7 (.slice A9 n9 c9)))
            case first =>
              have hal := alike_c a ns T w5 HN.out S5.out.wt
              obtain ⟨k3, hk3⟩ := (alike_ref ns T (by omega) (by have := HN9.out; omega)).rounds
              have hbn : alikeR ns T = allTwo ns T ns.length := by unfold alikeR; rw [HN.out, Bool.true_and]
              rw [hbn] at hk3
              generalize allTwo ns T ns.length = bb at hal hk3
              have href : ∀ w6, Below w5.heap.size w5 w6 → Calls Try.prog 9 #[.slice (some ⟨g7, 0, none⟩) ns.length c7, .slice A9 n9 c9] w6 fun e w' => e = .returned (.bool bb) ∧ Below w6.heap.size w6 w' := fun w6 hb6 => by
                obtain ⟨A7, c7', e7, hc7, hk7⟩ := own_form8 (S5.out.below hb6).own
                simp only [Value.slice.injEq, true_and] at e7
                obtain ⟨rfl, rfl⟩ := e7
                have htl := (S5.out.below hb6).tld
                obtain ⟨A9', c9', e9_, hc9', hk9⟩ := own_form8 htl
                rw [HN9.out] at e9_
                simp only [Value.slice.injEq, true_and] at e9_
                obtain ⟨rfl, rfl⟩ := e9_
                have hr := r18_Alike.calls k3 _ c7 ns _ c9 T bb w6 hk7 hc7 hk9 hc9' hk3
                rw [HN9.out] at hr
                refine hr.mono ?_
                rintro e w' ⟨rfl, hd⟩
                refine ⟨rfl, ?_⟩
                first | exact hd | (obtain ⟨q, rfl⟩ := hd; exact pw_below_drewN (Below.refl _ _) q)
              have HREF := Aside0.mk href
              clear href hk3 hbn
              by_cases ga : (i : Int) < 60
              · go_wp2_with fail
                refine hal.mono ?_
                rintro e w6 ⟨rfl, _, hb6⟩
                have HB6 := Aside0.mk hb6
                clear hb6
                go_wp2_with fail
                refine (HREF.out w6 HB6.out).mono ?_
                rintro e w7 ⟨rfl, hb7⟩
                have S7 := Aside0.mk ((S5.out.below HB6.out).below hb7)
                clear hb7
                cases bb <;> (go_wp2_with fail; go_meet; exact ⟨rfl, S7.out⟩)
              by_cases gb : Int.tmod (i : Int) 20 = 0
              · go_wp2_with fail
                refine hal.mono ?_
                rintro e w6 ⟨rfl, _, hb6⟩
                have HB6 := Aside0.mk hb6
                clear hb6
                go_wp2_with fail
                refine (HREF.out w6 HB6.out).mono ?_
                rintro e w7 ⟨rfl, hb7⟩
                have S7 := Aside0.mk ((S5.out.below HB6.out).below hb7)
                clear hb7
                cases bb <;> (go_wp2_with fail; go_meet; exact ⟨rfl, S7.out⟩)
              by_cases gc : (i : Int) + 1 = (l1.length : Int)
              · go_wp2_with fail
                refine hal.mono ?_
                rintro e w6 ⟨rfl, _, hb6⟩
                have HB6 := Aside0.mk hb6
                clear hb6
                go_wp2_with fail
                refine (HREF.out w6 HB6.out).mono ?_
                rintro e w7 ⟨rfl, hb7⟩
                have S7 := Aside0.mk ((S5.out.below HB6.out).below hb7)
                clear hb7
                cases bb <;> (go_wp2_with fail; go_meet; exact ⟨rfl, S7.out⟩)
              · go_wp2_with fail
                go_meet
                exact ⟨rfl, S5.out⟩
            case rest =>
              obtain ⟨rfl, S6⟩ := hcut
              go_wp2_with fail
              go_loopg [12] ns.length (fun gg s12 wq => ∃ kk : Nat, kk ≤ ns.length ∧ ns.length - kk ≤ gg ∧ s12 = .int .i64 kk ∧ Aside (St w wq a ns T T g7 c7 (.slice A9 n9 c9)))
              case atStart => exact ⟨0, by omega, by omega, rfl, S6.out⟩
              case round =>
                obtain ⟨kk, hk, hgk, rfl, S7⟩ := hrel
                by_cases hlt2 : kk < ns.length
                · have hltz2 : (kk : Int) < (ns.length : Int) := by omega
                  obtain ⟨ad7, e7, hc7⟩ := (own_reads' S7.out.own).2.2 hns
                  obtain rfl := Option.some.inj e7
                  have hcg : wr.cell? ⟨g7, kk, none⟩ = some (.int .i64 ns[kk]!) := by have h1 := hc7 kk hlt2; rw [add_plain] at h1; rw [h1]; simp [List.getElem?_eq_getElem hlt2, getElem!_pos ns kk hlt2]
                  have hy := goN_get ns 0 HGO.out kk hlt2
                  have htk := tickOf_own ns T kk hlt2
                  clear hc7 e7
                  generalize ns[kk]! = y at hcg hy htk
                  obtain ⟨k4, hk4⟩ := (ticks_ref T y (by omega) (by omega) (by have := HN9.out; omega)).rounds
                  have hq1 : ∀ m, Calls Try.prog 16 #[.pointer (some ⟨a.bw, 0, none⟩), .int .i64 y] (wr.drewN m) fun e w' => e = .returned (.int .i64 (tickOf ns T y)) ∧ ∃ q, w' = (wr.drewN m).drewN q := fun m => ticks_q a ns T (wr.drewN m) y HN.out (S7.out.wt.below (pw_below_drewN (Below.refl _ _) m))
                  rw [htk] at hq1
                  have hq2 : ∀ m, Calls Try.prog 17 #[.slice A9 n9 c9, .int .i64 y] (wr.drewN m) fun e w' => e = .returned (.int .i64 (ticksS y 0 T)) ∧ ∃ q, w' = (wr.drewN m).drewN q := fun m => by
                    obtain ⟨A9', c9', e9_, hc9', hk9⟩ := own_form8 (S7.out.below (pw_below_drewN (Below.refl _ _) m)).tld
                    rw [HN9.out] at e9_
                    simp only [Value.slice.injEq, true_and] at e9_
                    obtain ⟨rfl, rfl⟩ := e9_
                    have hr := r18_Ticks.calls k4 _ c9 T y _ (wr.drewN m) hk9 hc9' hk4
                    rw [HN9.out] at hr
                    refine hr.mono ?_; rintro e w' ⟨rfl, q, rfl⟩; exact ⟨rfl, q, rfl⟩
                  clear htk hk4
                  generalize ticksS y 0 T = tv at hq1 hq2
                  go_wp2_with fail
                  go_quiet (first | (go_at_call 16; refine Calls.quiet_of (hq1 _)) | (go_at_call 17; refine Calls.quiet_of (hq2 _)))
                  go_wp2
                  go_roundg (ns.length - (kk + 1))
                  case measure => omega
                  case rel => exact ⟨kk + 1, by omega, by omega, by go_num, S7.out.below (pw_below_drewN (Below.refl _ _) _)⟩
                · have hltz2 : ¬ (kk : Int) < (ns.length : Int) := by omega
                  go_wp2
                  go_roundg (l1.length - (i + 1))
                  case measure => omega
                  case rel => exact ⟨i + 1, by omega, by omega, by go_num, by have := S7.out; rw [TM2.out] at this; exact this⟩
        | false =>
          have hT := tell_c a ns ((l1.take i).filter (inN ns)) wr x HN.out S.out.wt htl
          have hm : more ns ((l1.take i).filter (inN ns)) x = ((l1.take i).filter (inN ns)) := by unfold more; rw [hin]; rfl
          rw [hm, hin] at hT
          simp only [Bool.false_eq_true, if_false] at hT
          have hor := inN_in ns x HGO.out hx
          rw [hin] at hor
          have HOR := Aside0.mk hor
          have TM := Aside0.mk (by rw [← hm, ← HXL.out]; exact told_more ns l1 i hlt : ((l1.take i).filter (inN ns)) = (l1.take (i + 1)).filter (inN ns))
          clear hor hm hin htl
          go_wp2_with fail
          refine hT.mono ?_
          rintro e w3 ⟨rfl, W3, hb3, hf3⟩
          have S3 := Aside0.mk (S.out.tell HA.out W3 hb3 hf3)
          have hci3 : w3.cell? (ad.add i) = some (.int .i64 x) := pw_cell_below S3.out.bel HCI.out
          clear W3 hb3 hf3 hT
          go_upto_region 13 with fail
          go_cut [11] (fun s11 wc => s11 = .bool false ∧ Aside (St w wc a ns ((l1.take i).filter (inN ns)) ((l1.take i).filter (inN ns)) g7 c7 (.slice A8 n8 c8)))
          case first =>
            obtain ⟨A7, c7', e7, hc7, hk7⟩ := own_form8 S3.out.own
            simp only [Value.slice.injEq, true_and] at e7
            obtain ⟨rfl, rfl⟩ := e7
            obtain ⟨k1, hk1⟩ := (in_ref ns x (by omega)).rounds
            obtain ⟨k2, hk2⟩ := (in_ref ns (wrap64 (-x)) (by omega)).rounds
            generalize ns.any (fun z => decide (z = x)) = r1 at hk1 HOR
            generalize ns.any (fun z => decide (z = wrap64 (-x))) = r2 at hk2 HOR
            have hcall1 := r18_In.calls k1 _ c7 ns x r1 w3 hk7 hc7 hk1
            have hcall2 := fun q => r18_In.calls k2 _ c7 ns (wrap64 (-x)) r2 (w3.drewN q) (Kd.C_below hk7 (pw_below_drewN (Below.refl _ w3) q)) hc7 hk2
            have HK7 := Aside0.mk hk7
            clear hk7 hk1 hk2
            obtain ⟨rfl, hoo⟩ : r1 = false ∧ (x < 0 → r2 = false) := by
              have ho := HOR.out.symm
              simpa using ho
            have HOO := Aside0.mk hoo
            clear hoo
            by_cases hneg : x < 0
            · obtain rfl : r2 = false := HOO.out hneg
              go_wp2_with fail
              refine hcall1.mono ?_
              rintro e w4 ⟨rfl, q, rfl⟩
              go_wp2_with fail
              refine (hcall2 q).mono ?_
              rintro e w5 ⟨rfl, q2, rfl⟩
              go_wp2_with fail
              go_meet
              exact ⟨rfl, S3.out.below (pw_below_drewN (Below.refl _ _) (q + q2))⟩
            · go_wp2_with fail
              refine hcall1.mono ?_
              rintro e w4 ⟨rfl, q, rfl⟩
              go_wp2_with fail
              go_meet
              exact ⟨rfl, S3.out.below (pw_below_drewN (Below.refl _ _) q)⟩
          case rest =>
            obtain ⟨rfl, S4⟩ := hcut
            have hci4 : wc.cell? (ad.add i) = some (.int .i64 x) := pw_cell_below S4.out.bel HCI.out
            have S5 := Aside0.mk S4.out
            obtain ⟨A9, c9, e9_, hc9, _⟩ := own_form8 S5.out.tld
            rw [HN8.out] at e9_ hc9
            simp only [Value.slice.injEq, true_and] at e9_
            obtain ⟨rfl, rfl⟩ := e9_
            have HN9 := HN8
            have TM2 := TM
            have hN : n8 ≤ 300 := by have := HN8.out; have := List.length_filter_le (inN ns) (l1.take i); rw [List.length_take] at this; omega
            generalize (l1.take i).filter (inN ns) = T at S5 HN9 TM2
            clear S4 TM
            go_upto_region 18 with fail
            go_cut [124] (fun s124 wd => s124 = .bool false ∧ Aside (St w wd a ns T T g7 c7 (.slice A8 n8 c8)))
            case first =>
              have hal := alike_c a ns T wc HN.out S5.out.wt
              obtain ⟨k3, hk3⟩ := (alike_ref ns T (by omega) (by have := HN9.out; omega)).rounds
              have hbn : alikeR ns T = allTwo ns T ns.length := by unfold alikeR; rw [HN.out, Bool.true_and]
              rw [hbn] at hk3
              generalize allTwo ns T ns.length = bb at hal hk3
              have href : ∀ w6, Below wc.heap.size wc w6 → Calls Try.prog 9 #[.slice (some ⟨g7, 0, none⟩) ns.length c7, .slice A8 n8 c8] w6 fun e w' => e = .returned (.bool bb) ∧ Below w6.heap.size w6 w' := fun w6 hb6 => by
                obtain ⟨A7, c7', e7, hc7, hk7⟩ := own_form8 (S5.out.below hb6).own
                simp only [Value.slice.injEq, true_and] at e7
                obtain ⟨rfl, rfl⟩ := e7
                have htl := (S5.out.below hb6).tld
                obtain ⟨A8', c8', e9_, hc8', hk9⟩ := own_form8 htl
                rw [HN9.out] at e9_
                simp only [Value.slice.injEq, true_and] at e9_
                obtain ⟨rfl, rfl⟩ := e9_
                have hr := r18_Alike.calls k3 _ c7 ns _ c8 T bb w6 hk7 hc7 hk9 hc8' hk3
                rw [HN9.out] at hr
                refine hr.mono ?_
                rintro e w' ⟨rfl, hd⟩
                refine ⟨rfl, ?_⟩
                first | exact hd | (obtain ⟨q, rfl⟩ := hd; exact pw_below_drewN (Below.refl _ _) q)
              have HREF := Aside0.mk href
              clear href hk3 hbn
              by_cases ga : (i : Int) < 60
              · go_wp2_with fail
                refine hal.mono ?_
                rintro e w6 ⟨rfl, _, hb6⟩
                have HB6 := Aside0.mk hb6
                clear hb6
                go_wp2_with fail
                refine (HREF.out w6 HB6.out).mono ?_
                rintro e w7 ⟨rfl, hb7⟩
                have S7 := Aside0.mk ((S5.out.below HB6.out).below hb7)
                clear hb7
                cases bb <;> (go_wp2_with fail; go_meet; exact ⟨rfl, S7.out⟩)
              by_cases gb : Int.tmod (i : Int) 20 = 0
              · go_wp2_with fail
                refine hal.mono ?_
                rintro e w6 ⟨rfl, _, hb6⟩
                have HB6 := Aside0.mk hb6
                clear hb6
                go_wp2_with fail
                refine (HREF.out w6 HB6.out).mono ?_
                rintro e w7 ⟨rfl, hb7⟩
                have S7 := Aside0.mk ((S5.out.below HB6.out).below hb7)
                clear hb7
                cases bb <;> (go_wp2_with fail; go_meet; exact ⟨rfl, S7.out⟩)
              by_cases gc : (i : Int) + 1 = (l1.length : Int)
              · go_wp2_with fail
                refine hal.mono ?_
                rintro e w6 ⟨rfl, _, hb6⟩
                have HB6 := Aside0.mk hb6
                clear hb6
                go_wp2_with fail
                refine (HREF.out w6 HB6.out).mono ?_
                rintro e w7 ⟨rfl, hb7⟩
                have S7 := Aside0.mk ((S5.out.below HB6.out).below hb7)
                clear hb7
                cases bb <;> (go_wp2_with fail; go_meet; exact ⟨rfl, S7.out⟩)
              · go_wp2_with fail
                go_meet
                exact ⟨rfl, S5.out⟩
            case rest =>
              obtain ⟨rfl, S6⟩ := hcut
              go_wp2_with fail
              go_loopg [12] ns.length (fun gg s12 wq => ∃ kk : Nat, kk ≤ ns.length ∧ ns.length - kk ≤ gg ∧ s12 = .int .i64 kk ∧ Aside (St w wq a ns T T g7 c7 (.slice A8 n8 c8)))
              case atStart => exact ⟨0, by omega, by omega, rfl, S6.out⟩
              case round =>
                obtain ⟨kk, hk, hgk, rfl, S7⟩ := hrel
                by_cases hlt2 : kk < ns.length
                · have hltz2 : (kk : Int) < (ns.length : Int) := by omega
                  obtain ⟨ad7, e7, hc7⟩ := (own_reads' S7.out.own).2.2 hns
                  obtain rfl := Option.some.inj e7
                  have hcg : wr.cell? ⟨g7, kk, none⟩ = some (.int .i64 ns[kk]!) := by have h1 := hc7 kk hlt2; rw [add_plain] at h1; rw [h1]; simp [List.getElem?_eq_getElem hlt2, getElem!_pos ns kk hlt2]
                  have hy := goN_get ns 0 HGO.out kk hlt2
                  have htk := tickOf_own ns T kk hlt2
                  clear hc7 e7
                  generalize ns[kk]! = y at hcg hy htk
                  obtain ⟨k4, hk4⟩ := (ticks_ref T y (by omega) (by omega) (by have := HN9.out; omega)).rounds
                  have hq1 : ∀ m, Calls Try.prog 16 #[.pointer (some ⟨a.bw, 0, none⟩), .int .i64 y] (wr.drewN m) fun e w' => e = .returned (.int .i64 (tickOf ns T y)) ∧ ∃ q, w' = (wr.drewN m).drewN q := fun m => ticks_q a ns T (wr.drewN m) y HN.out (S7.out.wt.below (pw_below_drewN (Below.refl _ _) m))
                  rw [htk] at hq1
                  have hq2 : ∀ m, Calls Try.prog 17 #[.slice A8 n8 c8, .int .i64 y] (wr.drewN m) fun e w' => e = .returned (.int .i64 (ticksS y 0 T)) ∧ ∃ q, w' = (wr.drewN m).drewN q := fun m => by
                    obtain ⟨A8', c8', e9_, hc8', hk9⟩ := own_form8 (S7.out.below (pw_below_drewN (Below.refl _ _) m)).tld
                    rw [HN9.out] at e9_
                    simp only [Value.slice.injEq, true_and] at e9_
                    obtain ⟨rfl, rfl⟩ := e9_
                    have hr := r18_Ticks.calls k4 _ c8 T y _ (wr.drewN m) hk9 hc8' hk4
                    rw [HN9.out] at hr
                    refine hr.mono ?_; rintro e w' ⟨rfl, q, rfl⟩; exact ⟨rfl, q, rfl⟩
                  clear htk hk4
                  generalize ticksS y 0 T = tv at hq1 hq2
                  go_wp2_with fail
                  go_quiet (first | (go_at_call 16; refine Calls.quiet_of (hq1 _)) | (go_at_call 17; refine Calls.quiet_of (hq2 _)))
                  go_wp2
                  go_roundg (ns.length - (kk + 1))
                  case measure => omega
                  case rel => exact ⟨kk + 1, by omega, by omega, by go_num, S7.out.below (pw_below_drewN (Below.refl _ _) _)⟩
                · have hltz2 : ¬ (kk : Int) < (ns.length : Int) := by omega
                  go_wp2
                  go_roundg (l1.length - (i + 1))
                  case measure => omega
                  case rel => exact ⟨i + 1, by omega, by omega, by go_num, by have := S7.out; rw [TM2.out] at this; exact this⟩
    · have hltz : ¬ (i : Int) < (l1.length : Int) := by omega
      have : i = l1.length := by omega
      subst this
      go_wp2_with fail
      refine (watched_c wr).mono ?_
      rintro e w3 ⟨rfl, hb⟩
      have S3 := Aside0.mk (S.out.below hb)
      clear hb
      go_wp2_with fail
      refine (ticks_q a ns _ w3 0 HN.out S3.out.wt).mono ?_
      rintro e w4 ⟨rfl, q, rfl⟩
      rw [tickOf_none ns _ HGO.out 0 (.inl rfl)]
      go_wp2_with fail
      refine (ticks_q a ns _ (w3.drewN q) 8 HN.out (S3.out.below (pw_below_drewN (Below.refl _ _) q)).wt).mono ?_
      rintro e w5 ⟨rfl, q2, rfl⟩
      rw [tickOf_none ns _ HGO.out 8 (.inr rfl)]
      go_wp2
      go_ret
      exact ⟨rfl, pw_below_drewN S3.out.bel (q + q2)⟩
end Go.Proofs.Ytnhceomdjlocaaa.Clock
