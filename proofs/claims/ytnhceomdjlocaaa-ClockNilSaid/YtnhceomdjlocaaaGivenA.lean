/- The given contract of clock.Alike, in the printed form. -/
import Derived.Test.YtnhceomdjlocaaaWt
namespace Go.Proofs.Ytnhceomdjlocaaa.PAll
open Go.RowKit Go.Proofs.YtnhceomdjlocaaaW.PrintWords Go.Proofs.YtnhceomdjlocaaaW.PrintLast Go.Proofs.YtnhceomdjlocaaaW.PrintMore
open Go.Proofs.Ytnhceomdjlocaaa.Clock
set_option linter.unusedVariables false
set_option linter.unusedSimpArgs false

/-! ### clock_Alike: function 8 -/
def clock_Alike.f (l0 l1 : List Int) : Option Bool := if l0.length ≤ 1000000 ∧ l1.length ≤ 100000 then some (alikeR l0 l1) else none
theorem told_more (ns l : List Int) (i : Nat) (hi : i < l.length) : more ns ((l.take i).filter (inN ns)) l[i]! = (l.take (i + 1)).filter (inN ns) := by
  have e : l.take (i + 1) = l.take i ++ [l[i]!] := by rw [List.take_add_one, getElem!_pos l i hi, List.getElem?_eq_getElem hi]; rfl
  rw [e, List.filter_append]
  unfold more
  cases h : inN ns l[i]! with
  | true => rw [if_pos rfl, List.filter_cons_of_pos h]; rfl
  | false => rw [if_neg (by simp), List.filter_cons_of_neg (by rw [h]; simp)]; simp
set_option maxHeartbeats 8000000 in
set_option maxRecDepth 100000 in
theorem clock_Alike.calls (A0 : Option Addr) (c0 : Nat) (l0 : List Int) (A1 : Option Addr) (c1 : Nat) (l1 : List Int) (r : Bool) (w : World) (hr0 : Kd.C (Kd.int .i64) w A0 l0.length l0) (hc0 : l0.length ≤ c0) (hr1 : Kd.C (Kd.int .i64) w A1 l1.length l1) (hc1 : l1.length ≤ c1) (h : clock_Alike.f l0 l1 = some r) :
    Calls Try.prog 8 #[.slice A0 l0.length c0, .slice A1 l1.length c1] w fun e w' => e = .returned (.bool r) ∧ Below w.heap.size w w' := by
  unfold clock_Alike.f at h
  by_cases hl : l0.length ≤ 1000000 ∧ l1.length ≤ 100000
  · rw [if_pos hl] at h
    obtain rfl := Option.some.inj h
    clear h
    have e11 : ∀ args w, (callFunc 11 args).run Try.prog w = .ok (.enter 11 args) w := enters_of Try.func11 (by kernel_rfl) rfl
    have e13 : ∀ args w, (callFunc 13 args).run Try.prog w = .ok (.enter 13 args) w := enters_of Try.func13 (by kernel_rfl) rfl
    have e15 : ∀ args w, (callFunc 15 args).run Try.prog w = .ok (.enter 15 args) w := enters_of Try.func15 (by kernel_rfl) rfl
    cases hn : nodesB l0 with
    | false =>
      have hcall := new_bad A0 c0 l0 w hr0 hc0 hl.1 hn
      have hr : alikeR l0 l1 = false := by unfold alikeR; rw [hn]; rfl
      rw [hr]
      clear hr0 hr1 hr hn
      go_enter Try.func8, Try.ntmps8
      go_wp2_with fail
      refine hcall.mono ?_
      rintro e w1 ⟨rfl, hb⟩
      go_wp2
      go_ret
      exact ⟨rfl, hb⟩
    | true =>
      have hcall := new_c A0 c0 l0 w hr0 hc0 hn
      have hr : alikeR l0 l1 = allTwo l0 (l1.filter (inN l0)) l0.length := by unfold alikeR; rw [hn, Bool.true_and, allTwo_filter l0 l1 _ (Nat.le_refl _)]
      rw [hr]
      have HR1 := Aside0.mk (readsInt_of_C hr1)
      have HN := Aside0.mk hn
      clear hr0 hr1 hr hn
      generalize hR : allTwo l0 (l1.filter (inN l0)) l0.length = r
      have HRR := Aside0.mk hR
      clear hR
      go_enter Try.func8, Try.ntmps8
      go_wp2_with fail
      refine hcall.mono ?_
      rintro e w1 ⟨a, rfl, hb, hab, hwt⟩
      have HW := Aside0.mk hwt
      have HB := Aside0.mk hb
      have HA := Aside0.mk hab
      clear hwt hb hab
      go_wp2_with fail
      go_loopg [18] l1.length (fun gg s18 wr => ∃ i : Nat, i ≤ l1.length ∧ l1.length - i ≤ gg ∧ s18 = .int .i64 i ∧ Aside (Below w.heap.size w wr) ∧ Aside (Wt wr a l0 ((l1.take i).filter (inN l0))))
      case atStart => exact ⟨0, by omega, by omega, rfl, HB.out, HW.out⟩
      case round =>
        obtain ⟨i, hi, hgg, rfl, B, W⟩ := hrel
        by_cases hlt : i < l1.length
        · have hltz : (i : Int) < (l1.length : Int) := by omega
          obtain ⟨ad, rfl, hcells⟩ := HR1.out.2.2 (by omega)
          have hci : wr.cell? (ad.add i) = some (.int .i64 l1[i]!) := by have := pw_cell_below B.out (hcells i hlt); rw [this]; simp [List.getElem?_eq_getElem hlt, getElem!_pos l1 i hlt]
          have hT := tell_c a l0 ((l1.take i).filter (inN l0)) wr l1[i]! HN.out W.out (by have := List.length_filter_le (inN l0) (l1.take i); rw [List.length_take] at this; omega)
          rw [told_more l0 l1 i hlt] at hT
          clear hcells
          generalize l1[i]! = x at hci hT
          generalize (if inN l0 x = true then (0 : Int) else 1) = er at hT
          go_wp2_with fail
          refine hT.mono ?_
          rintro e w2 ⟨rfl, hw2, hb2, _⟩
          have W2 := Aside0.mk hw2
          have B2 := Aside0.mk (B.out.trans (hb2 w.heap.size B.out.size HA.out))
          clear hw2 hb2
          go_wp2
          go_roundg (l1.length - (i + 1))
          case measure => omega
          case rel => exact ⟨i + 1, by omega, by omega, by go_num, B2.out, W2.out⟩
        · have hltz : ¬ (i : Int) < (l1.length : Int) := by omega
          have : i = l1.length := by omega
          subst this
          have hal := alike_c a l0 ((l1.take l1.length).filter (inN l0)) wr HN.out W.out
          rw [List.take_length, HRR.out] at hal
          go_wp2_with fail
          refine hal.mono ?_
          rintro e w2 ⟨rfl, _, hb2⟩
          have B2 := Aside0.mk (B.out.trans (hb2.mono B.out.size))
          clear hb2
          go_wp2
          go_ret
          exact ⟨rfl, B2.out⟩
  · rw [if_neg hl] at h
    exact absurd h (by simp)
end Go.Proofs.Ytnhceomdjlocaaa.PAll
