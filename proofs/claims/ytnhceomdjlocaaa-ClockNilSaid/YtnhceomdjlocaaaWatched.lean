/- The chapter's example: watched answers true. And no watch. -/
import Derived.Test.YtnhceomdjlocaaaWt
namespace Go.Proofs.Ytnhceomdjlocaaa.Clock
open Go.RowKit Go.Lib Go.Proofs.Ytnhceomdjlocaaa.PAll Go.Proofs.YtnhceomdjlocaaaW.PrintWords Go.Proofs.YtnhceomdjlocaaaW.PrintLast Go.Proofs.YtnhceomdjlocaaaW.PrintMore
set_option linter.unusedVariables false
set_option linter.unusedSimpArgs false

theorem Wt.below {w w' : World} {a : Wa} {ns told : List Int} (h : Wt w a ns told) (hb : Below w.heap.size w w') : Wt w' a ns told := IsW.below h hb
theorem Wa.above.lower {a : Wa} {n m : Nat} (h : a.above n) (hm : m ≤ n) : a.above m := ⟨Nat.le_trans hm h.1, Nat.le_trans hm h.2.1, Nat.le_trans hm h.2.2.1, Nat.le_trans hm h.2.2.2⟩
theorem lit2 (W : World) (b : Nat) (x y : Int) (h : W.heap[b]? = some (.cells #[.int .i64 x, .int .i64 y] 3 (0, 0))) : Kd.C (Kd.int .i64) W (some ⟨b, 0, none⟩) [x, y].length [x, y] := by
  refine Kd.C_of_reads (d := (0 : Int)) (h1 := fun _ => rfl) ⟨rfl, by simp, fun _ => ⟨_, rfl, fun j hj => ?_⟩⟩
  rw [add_plain]
  simp only [List.length_cons, List.length_nil] at hj
  match j, hj with
  | 0, _ => simp [World.cell?, h]
  | 1, _ => simp [World.cell?, h]
  | j + 2, hj => omega
set_option maxHeartbeats 8000000 in
set_option maxRecDepth 100000 in
theorem watched_c (w : World) : Calls Try.prog 12 #[] w fun e w' => e = .returned (.bool true) ∧ Below w.heap.size w w' := by
  have e11 : ∀ args w, (callFunc 11 args).run Try.prog w = .ok (.enter 11 args) w := enters_of Try.func11 (by kernel_rfl) rfl
  have e13 : ∀ args w, (callFunc 13 args).run Try.prog w = .ok (.enter 13 args) w := enters_of Try.func13 (by kernel_rfl) rfl
  have e15 : ∀ args w, (callFunc 15 args).run Try.prog w = .ok (.enter 15 args) w := enters_of Try.func15 (by kernel_rfl) rfl
  have e16 : ∀ args w, (callFunc 16 args).run Try.prog w = .ok (.enter 16 args) w := enters_of Try.func16 (by kernel_rfl) rfl
  have hn : nodesB [1, 2] = true := by decide
  go_enter Try.func12, Try.ntmps12
  go_wp2_with fail
  refine (new_c (some ⟨w.heap.size, 0, none⟩) 2 [1, 2] _ (lit2 _ _ 1 2 (heap_alloc_new w _)) (by simp) hn).mono ?_
  rintro e w1 ⟨a, rfl, hb1, ha1, W1⟩
  have B1 : Below w.heap.size w w1 := (below_alloc (Below.refl _ w) _).trans (hb1.mono (by simp))
  have A1 : a.above w.heap.size := ha1.lower (by simp)
  have W1 := Aside0.mk W1
  have B1 := Aside0.mk B1
  clear hb1 ha1
  go_wp2_with fail
  refine (new_bad (some ⟨w1.heap.size, 0, none⟩) 2 [2, 1] _ (lit2 _ _ 2 1 (heap_alloc_new w1 _)) (by simp) (by simp) (by decide)).mono ?_
  rintro e w2 ⟨rfl, hb2⟩
  have C2 : Below w1.heap.size w1 w2 := (below_alloc (Below.refl _ w1) _).trans (hb2.mono (by simp))
  have W2 := Aside0.mk (W1.out.below C2)
  have B2 := Aside0.mk (B1.out.trans (C2.mono B1.out.size))
  clear hb2 C2
  go_wp2_with fail
  refine (tell_c a [1, 2] [] w2 1 hn W2.out (by simp)).mono ?_
  rintro e w3 ⟨rfl, W3, hb3, _⟩
  have W3 := Aside0.mk W3
  have B3 := Aside0.mk (B2.out.trans (hb3 _ B2.out.size A1))
  clear hb3
  rw [show (if inN [1, 2] 1 = true then (0 : Int) else 1) = 0 by decide]
  go_wp2_with fail
  refine (tell_c a [1, 2] _ w3 1 hn W3.out (by decide)).mono ?_
  rintro e w4 ⟨rfl, W4, hb4, _⟩
  have W4 := Aside0.mk W4
  have B4 := Aside0.mk (B3.out.trans (hb4 _ B3.out.size A1))
  clear hb4
  rw [show (if inN [1, 2] 1 = true then (0 : Int) else 1) = 0 by decide]
  go_wp2_with fail
  refine (alike_c a [1, 2] _ w4 hn W4.out).mono ?_
  rintro e w5 ⟨rfl, W5, hb5⟩
  have W5 := Aside0.mk W5
  have B5 := Aside0.mk (B4.out.trans (hb5.mono B4.out.size))
  clear hb5
  rw [show allTwo [1, 2] (more [1, 2] (more [1, 2] [] 1) 1) [(1 : Int), 2].length = true by decide +kernel]
  go_wp2_with fail
  refine (tell_c a [1, 2] _ w5 1 hn W5.out (by decide)).mono ?_
  rintro e w6 ⟨rfl, W6, hb6, _⟩
  have W6 := Aside0.mk W6
  have B6 := Aside0.mk (B5.out.trans (hb6 _ B5.out.size A1))
  clear hb6
  rw [show (if inN [1, 2] 1 = true then (0 : Int) else 1) = 0 by decide]
  go_wp2_with fail
  refine (tell_c a [1, 2] _ w6 3 hn W6.out (by decide)).mono ?_
  rintro e w7 ⟨rfl, W7, hb7, _⟩
  have W7 := Aside0.mk W7
  have B7 := Aside0.mk (B6.out.trans (hb7 _ B6.out.size A1))
  clear hb7
  rw [show (if inN [1, 2] 3 = true then (0 : Int) else 1) = 1 by decide]
  go_wp2_with fail
  refine (ticks_c a [1, 2] _ w7 1 hn W7.out).mono ?_
  rintro e w8 ⟨rfl, W8, hb8⟩
  have W8 := Aside0.mk W8
  have B8 := Aside0.mk (B7.out.trans (hb8.mono B7.out.size))
  clear hb8
  rw [show tickOf [1, 2] (more [1, 2] (more [1, 2] (more [1, 2] (more [1, 2] [] 1) 1) 1) 3) 1 = 3 by decide +kernel]
  go_wp2_with fail
  refine (alike_c a [1, 2] _ w8 hn W8.out).mono ?_
  rintro e w9 ⟨rfl, W9, hb9⟩
  have B9 := Aside0.mk (B8.out.trans (hb9.mono B8.out.size))
  clear hb9 W9
  rw [show allTwo [1, 2] (more [1, 2] (more [1, 2] (more [1, 2] (more [1, 2] [] 1) 1) 1) 3) [(1 : Int), 2].length = false by decide +kernel]
  go_wp2
  go_ret
  exact ⟨rfl, B9.out⟩

set_option maxHeartbeats 8000000 in
set_option maxRecDepth 100000 in
theorem nil_c (x : Int) (w : World) : Calls Try.prog 6 #[.int .i64 x] w fun e w' => e = .returned (.bool true) ∧ Below w.heap.size w w' := by
  have e12 : ∀ args w, (callFunc 12 args).run Try.prog w = .ok (.enter 12 args) w := enters_of Try.func12 (by kernel_rfl) rfl
  have e13 : ∀ args w, (callFunc 13 args).run Try.prog w = .ok (.enter 13 args) w := enters_of Try.func13 (by kernel_rfl) rfl
  have e15 : ∀ args w, (callFunc 15 args).run Try.prog w = .ok (.enter 15 args) w := enters_of Try.func15 (by kernel_rfl) rfl
  have e16 : ∀ args w, (callFunc 16 args).run Try.prog w = .ok (.enter 16 args) w := enters_of Try.func16 (by kernel_rfl) rfl
  go_enter Try.func6, Try.ntmps6
  go_wp2_with fail
  refine (watched_c w).mono ?_
  rintro e w1 ⟨rfl, B1⟩
  have B1 := Aside0.mk B1
  go_wp2_with fail
  refine (tell_nil x w1).mono ?_
  rintro e w2 ⟨rfl, hb2⟩
  have B2 := Aside0.mk (B1.out.trans (hb2.mono B1.out.size))
  clear hb2
  go_wp2_with fail
  refine (ticks_nil x w2).mono ?_
  rintro e w3 ⟨rfl, rfl⟩
  go_wp2_with fail
  refine (alike_nil w3).mono ?_
  rintro e w4 ⟨rfl, rfl⟩
  go_wp2
  go_ret
  exact ⟨rfl, B2.out⟩
end Go.Proofs.Ytnhceomdjlocaaa.Clock
