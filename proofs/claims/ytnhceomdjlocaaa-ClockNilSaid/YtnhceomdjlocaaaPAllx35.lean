-- Written by a program of the session.
import Derived.Test.YtnhceomdjlocaaaPAllx0
namespace Go.Proofs.Ytnhceomdjlocaaa.PAll
open Go.RowKit Go.Proofs.YtnhceomdjlocaaaW.PrintWords Go.Proofs.YtnhceomdjlocaaaW.PrintLast Go.Proofs.YtnhceomdjlocaaaW.PrintMore
attribute [local go_sem] max2_int min2_int max_two min_two max_three min_three max_four min_four   -- for this text's walks alone
set_option linter.unusedVariables false
set_option linter.unusedSimpArgs false

/-! ### r18_two: function 18 -/
mutual
def r18_two.l0 : Nat → List Int → Int → Int → Bool → Bool → Int → Option (Bool)
  | 0, _, _, _, _, _, _ => none
  | k + 1, x0, x1, x2, x7, x8, x9 => if x9 < (x0.length : Int) then (if 0 ≤ x9 then (if (rd x0 x9) = (wrap64 (-x1)) then (r18_two.l0 k x0 x1 x2 (!x7) x8 (wrap64 (x9 + 1))) else (if (rd x0 x9) = (wrap64 (-x2)) then (r18_two.l0 k x0 x1 x2 x7 (!x8) (wrap64 (x9 + 1))) else (r18_two.l1 k x0 x1 x2 x7 x8 x9 0 0 x9))) else (none)) else (some true)
def r18_two.l1 : Nat → List Int → Int → Int → Bool → Bool → Int → Int → Int → Int → Option (Bool)
  | 0, _, _, _, _, _, _, _, _, _ => none
  | k + 1, x0, x1, x2, x7, x8, x9, x10, x11, x12 => if x7 = true then (if x8 = true then (if x12 < (x0.length : Int) then (if 0 ≤ x12 then (if (rd x0 x12) = (wrap64 (-x1)) then (r18_two.j2 k x0 x1 x2 x7 x8 x9 x10 x11 x12 false) else (r18_two.j2 k x0 x1 x2 x7 x8 x9 x10 x11 x12 ((rd x0 x12) != (wrap64 (-x2))))) else (none)) else (r18_two.j2 k x0 x1 x2 x7 x8 x9 x10 x11 x12 false)) else (r18_two.j2 k x0 x1 x2 x7 x8 x9 x10 x11 x12 false)) else (r18_two.j2 k x0 x1 x2 x7 x8 x9 x10 x11 x12 false)
def r18_two.j2 : Nat → List Int → Int → Int → Bool → Bool → Int → Int → Int → Int → Bool → Option (Bool)
  | 0, _, _, _, _, _, _, _, _, _, _ => none
  | k + 1, x0, x1, x2, x7, x8, x9, x10, x11, x12, x65 => if x65 = true then (if 0 ≤ x12 then (if x12 < (x0.length : Int) then (if (rd x0 x12) = x1 then (r18_two.j3 k x0 x1 x2 x7 x8 x9 (wrap64 (x10 + 1)) x11 x12) else (r18_two.j3 k x0 x1 x2 x7 x8 x9 x10 x11 x12)) else (none)) else (none)) else (r18_two.l0 k x0 x1 x2 x7 x8 (wrap64 (x9 + 1)))
def r18_two.j3 : Nat → List Int → Int → Int → Bool → Bool → Int → Int → Int → Int → Option (Bool)
  | 0, _, _, _, _, _, _, _, _, _ => none
  | k + 1, x0, x1, x2, x7, x8, x9, x10, x11, x12 => if 0 ≤ x12 then (if x12 < (x0.length : Int) then (if (rd x0 x12) = x2 then (if x10 > (wrap64 ((wrap64 (2 * (wrap64 (x11 + 1)))) + 2)) then (some false) else (if (wrap64 (x11 + 1)) > (wrap64 ((wrap64 (2 * x10)) + 2)) then (some false) else (r18_two.l1 k x0 x1 x2 x7 x8 x9 x10 (wrap64 (x11 + 1)) (wrap64 (x12 + 1))))) else (if x10 > (wrap64 ((wrap64 (2 * x11)) + 2)) then (some false) else (if x11 > (wrap64 ((wrap64 (2 * x10)) + 2)) then (some false) else (r18_two.l1 k x0 x1 x2 x7 x8 x9 x10 x11 (wrap64 (x12 + 1)))))) else (none)) else (none)
end
def r18_two.f (k : Nat) (l0 : List Int) (a1 : Int) (a2 : Int) : Option (Bool) := r18_two.l0 k l0 a1 a2 true true 0
theorem r18_two.mono_l : ∀ k, (∀ y0 y1 y2 y3 y4 y5, LeO (r18_two.l0 k y0 y1 y2 y3 y4 y5) (r18_two.l0 (k + 1) y0 y1 y2 y3 y4 y5)) ∧ (∀ y0 y1 y2 y3 y4 y5 y6 y7 y8, LeO (r18_two.l1 k y0 y1 y2 y3 y4 y5 y6 y7 y8) (r18_two.l1 (k + 1) y0 y1 y2 y3 y4 y5 y6 y7 y8)) ∧ (∀ y0 y1 y2 y3 y4 y5 y6 y7 y8 y9, LeO (r18_two.j2 k y0 y1 y2 y3 y4 y5 y6 y7 y8 y9) (r18_two.j2 (k + 1) y0 y1 y2 y3 y4 y5 y6 y7 y8 y9)) ∧ (∀ y0 y1 y2 y3 y4 y5 y6 y7 y8, LeO (r18_two.j3 k y0 y1 y2 y3 y4 y5 y6 y7 y8) (r18_two.j3 (k + 1) y0 y1 y2 y3 y4 y5 y6 y7 y8))
  | 0 => ⟨fun _ _ _ _ _ _ r h => by simp [r18_two.l0] at h, fun _ _ _ _ _ _ _ _ _ r h => by simp [r18_two.l1] at h, fun _ _ _ _ _ _ _ _ _ _ r h => by simp [r18_two.j2] at h, fun _ _ _ _ _ _ _ _ _ r h => by simp [r18_two.j3] at h⟩
  | k + 1 => by
    obtain ⟨ih0, ih1, ih2, ih3⟩ := r18_two.mono_l k
    refine ⟨?_, ?_, ?_, ?_⟩
    · intro y0 y1 y2 y3 y4 y5
      unfold r18_two.l0
      repeat' first
      | (with_reducible exact ih0 _ _ _ _ _ _)
      | (with_reducible exact ih1 _ _ _ _ _ _ _ _ _)
      | (with_reducible exact ih2 _ _ _ _ _ _ _ _ _ _)
      | (with_reducible exact ih3 _ _ _ _ _ _ _ _ _)
      | (with_reducible exact LeO.refl _)
      | (with_reducible exact LeO.none _)
      | (with_reducible refine LeO.ite ?_ ?_)
      | (with_reducible refine LeO.bind ?_ (fun _ => ?_))
      | exact ih0 _ _ _ _ _ _
      | exact ih1 _ _ _ _ _ _ _ _ _
      | exact ih2 _ _ _ _ _ _ _ _ _ _
      | exact ih3 _ _ _ _ _ _ _ _ _
      | exact LeO.none _
      | refine LeO.ite ?_ ?_
      | refine LeO.bind ?_ (fun _ => ?_)
    · intro y0 y1 y2 y3 y4 y5 y6 y7 y8
      unfold r18_two.l1
      repeat' first
      | (with_reducible exact ih0 _ _ _ _ _ _)
      | (with_reducible exact ih1 _ _ _ _ _ _ _ _ _)
      | (with_reducible exact ih2 _ _ _ _ _ _ _ _ _ _)
      | (with_reducible exact ih3 _ _ _ _ _ _ _ _ _)
      | (with_reducible exact LeO.refl _)
      | (with_reducible exact LeO.none _)
      | (with_reducible refine LeO.ite ?_ ?_)
      | (with_reducible refine LeO.bind ?_ (fun _ => ?_))
      | exact ih0 _ _ _ _ _ _
      | exact ih1 _ _ _ _ _ _ _ _ _
      | exact ih2 _ _ _ _ _ _ _ _ _ _
      | exact ih3 _ _ _ _ _ _ _ _ _
      | exact LeO.none _
      | refine LeO.ite ?_ ?_
      | refine LeO.bind ?_ (fun _ => ?_)
    · intro y0 y1 y2 y3 y4 y5 y6 y7 y8 y9
      unfold r18_two.j2
      repeat' first
      | (with_reducible exact ih0 _ _ _ _ _ _)
      | (with_reducible exact ih1 _ _ _ _ _ _ _ _ _)
      | (with_reducible exact ih2 _ _ _ _ _ _ _ _ _ _)
      | (with_reducible exact ih3 _ _ _ _ _ _ _ _ _)
      | (with_reducible exact LeO.refl _)
      | (with_reducible exact LeO.none _)
      | (with_reducible refine LeO.ite ?_ ?_)
      | (with_reducible refine LeO.bind ?_ (fun _ => ?_))
      | exact ih0 _ _ _ _ _ _
      | exact ih1 _ _ _ _ _ _ _ _ _
      | exact ih2 _ _ _ _ _ _ _ _ _ _
      | exact ih3 _ _ _ _ _ _ _ _ _
      | exact LeO.none _
      | refine LeO.ite ?_ ?_
      | refine LeO.bind ?_ (fun _ => ?_)
    · intro y0 y1 y2 y3 y4 y5 y6 y7 y8
      unfold r18_two.j3
      repeat' first
      | (with_reducible exact ih0 _ _ _ _ _ _)
      | (with_reducible exact ih1 _ _ _ _ _ _ _ _ _)
      | (with_reducible exact ih2 _ _ _ _ _ _ _ _ _ _)
      | (with_reducible exact ih3 _ _ _ _ _ _ _ _ _)
      | (with_reducible exact LeO.refl _)
      | (with_reducible exact LeO.none _)
      | (with_reducible refine LeO.ite ?_ ?_)
      | (with_reducible refine LeO.bind ?_ (fun _ => ?_))
      | exact ih0 _ _ _ _ _ _
      | exact ih1 _ _ _ _ _ _ _ _ _
      | exact ih2 _ _ _ _ _ _ _ _ _ _
      | exact ih3 _ _ _ _ _ _ _ _ _
      | exact LeO.none _
      | refine LeO.ite ?_ ?_
      | refine LeO.bind ?_ (fun _ => ?_)
theorem r18_two.mono : ∀ a0 a1 a2 k, LeO (r18_two.f k a0 a1 a2) (r18_two.f (k + 1) a0 a1 a2) := by
  intro a0 a1 a2 k
  obtain ⟨ih0, ih1, ih2, ih3⟩ := r18_two.mono_l k
  unfold r18_two.f
  repeat' first
      | (with_reducible exact ih0 _ _ _ _ _ _)
      | (with_reducible exact ih1 _ _ _ _ _ _ _ _ _)
      | (with_reducible exact ih2 _ _ _ _ _ _ _ _ _ _)
      | (with_reducible exact ih3 _ _ _ _ _ _ _ _ _)
      | (with_reducible exact LeO.refl _)
      | (with_reducible exact LeO.none _)
      | (with_reducible refine LeO.ite ?_ ?_)
      | (with_reducible refine LeO.bind ?_ (fun _ => ?_))
      | exact ih0 _ _ _ _ _ _
      | exact ih1 _ _ _ _ _ _ _ _ _
      | exact ih2 _ _ _ _ _ _ _ _ _ _
      | exact ih3 _ _ _ _ _ _ _ _ _
      | exact LeO.none _
      | refine LeO.ite ?_ ?_
      | refine LeO.bind ?_ (fun _ => ?_)
set_option maxHeartbeats 8000000 in
set_option maxRecDepth 100000 in
theorem r18_two.calls (k : Nat) (A0 : Option Addr) (c0 : Nat) (l0 : List Int) (a1 : Int) (a2 : Int) (r : Bool) (w : World) (hr0 : Kd.C (Kd.int .i64) w A0 l0.length l0) (hc0 : l0.length ≤ c0) (h : r18_two.f k l0 a1 a2 = some r) :
    Calls Try.prog 18 #[.slice A0 l0.length c0, .int .i64 a1, .int .i64 a2] w fun e w' => e = .returned (.bool r) ∧ Drawn0 w w' := by
  have HR0 := Aside0.mk hr0
  have HC0 := Aside0.mk hc0
  clear hr0 hc0
  have H : (r18_two.l0 k l0 a1 a2 true true 0) = some r := h
  clear h
  have H' := Aside0.mk H
  clear H
  go_enter Try.func18, Try.ntmps18
  go_wp2
  go_loopg [7, 8, 9] k (fun kq v7 v8 v9 w' => ∃ (x7_1 : Bool) (x8_1 : Bool) (x9_1 : Int), v7 = .bool x7_1 ∧ v8 = .bool x8_1 ∧ v9 = .int .i64 x9_1 ∧ Aside0 (r18_two.l0 kq l0 a1 a2 x7_1 x8_1 x9_1 = some r) ∧ Aside0 (kq ≤ k) ∧ Drawn0 w w')
  case atStart => exact ⟨(true), (true), (0), (by first | rfl | (simp; done) | (simp [*]; done)), (by first | rfl | (simp; done) | (simp [*]; done)), (by first | rfl | (simp; done) | (simp [*]; done)), H', ⟨Nat.le_refl _⟩, by repeat (first | exact Drawn0.refl _ | apply Drawn0.step)⟩
  case round =>
    clear H'
    try clear c1
    try clear p2
    obtain ⟨x7_1, x8_1, x9_1, rfl, rfl, rfl, HA, HK1, ⟨m1, rfl⟩⟩ := hrel
    cases gk with
    | zero => exact absurd HA.out (by simp [r18_two.l0])
    | succ k1 =>
      have H := HA.out
      clear HA
      simp only [r18_two.l0] at H
      by_cases c4 : x9_1 < (l0.length : Int)
      · rw [if_pos c4] at H
        have c4b0 : decide (x9_1 < (l0.length : Int)) = true := decide_eq_true c4
        clear c4
        by_cases c5 : 0 ≤ x9_1
        · rw [if_pos c5] at H
          have c5b0 : decide (0 ≤ x9_1) = true := decide_eq_true c5
          clear c5
          by_cases c6 : (rd l0 x9_1) = (wrap64 (-a1))
          · rw [if_pos c6] at H
            have c6b0 : ((rd l0 x9_1) == (wrap64 (-a1))) = true := beq_iff_eq.mpr c6
            have c6b1 : ((rd l0 x9_1) != (wrap64 (-a1))) = false := bne_eq_false_iff_eq.mpr c6
            clear c6
            have H' := Aside0.mk H
            clear H
            have p134 : 0 ≤ (x9_1 : Int) := of_decide_eq_true (by first | (with_reducible assumption) | assumption)
            have q134 : x9_1 < (l0.length : Int) := of_decide_eq_true (by first | (with_reducible assumption) | assumption)
            obtain ⟨ad134, e134, hx134_0⟩ := Kd.at_int HR0.out x9_1 p134 q134
            cases e134
            replace p134 := eq_true p134
            replace q134 := eq_true q134
            go_wp2
            go_roundg k1
            case measure => have := HK1.out; omega
            case rel => exact ⟨(!x7_1), (x8_1), (wrap64 (x9_1 + 1)), (by first | rfl | (simp; done) | (simp [*]; done)), (by first | rfl | (simp; done) | (simp [*]; done)), (by first | rfl | (simp; done) | (simp [*]; done)), H', ⟨by have := HK1.out; omega⟩, by repeat (first | exact Drawn0.refl _ | apply Drawn0.step)⟩
          · rw [if_neg c6] at H
            have c6b0 : ((rd l0 x9_1) == (wrap64 (-a1))) = false := beq_eq_false_iff_ne.mpr c6
            have c6b1 : ((rd l0 x9_1) != (wrap64 (-a1))) = true := bne_iff_ne.mpr c6
            by_cases c7 : (rd l0 x9_1) = (wrap64 (-a2))
            · rw [if_pos c7] at H
              have c7b0 : ((rd l0 x9_1) == (wrap64 (-a2))) = true := beq_iff_eq.mpr c7
              have c7b1 : ((rd l0 x9_1) != (wrap64 (-a2))) = false := bne_eq_false_iff_eq.mpr c7
              clear c7
              have H' := Aside0.mk H
              clear H
              have p134 : 0 ≤ (x9_1 : Int) := of_decide_eq_true (by first | (with_reducible assumption) | assumption)
              have q134 : x9_1 < (l0.length : Int) := of_decide_eq_true (by first | (with_reducible assumption) | assumption)
              obtain ⟨ad134, e134, hx134_0⟩ := Kd.at_int HR0.out x9_1 p134 q134
              cases e134
              replace p134 := eq_true p134
              replace q134 := eq_true q134
              have p135 : 0 ≤ (x9_1 : Int) := of_decide_eq_true (by first | (with_reducible assumption) | assumption)
              have q135 : x9_1 < (l0.length : Int) := of_decide_eq_true (by first | (with_reducible assumption) | assumption)
              obtain ⟨ad135, e135, hx135_0⟩ := Kd.at_int HR0.out x9_1 p135 q135
              obtain rfl : ad134 = ad135 := (by injection e135)
              replace p135 := eq_true p135
              replace q135 := eq_true q135
              go_wp2
              go_roundg k1
              case measure => have := HK1.out; omega
              case rel => exact ⟨(x7_1), (!x8_1), (wrap64 (x9_1 + 1)), (by first | rfl | (simp; done) | (simp [*]; done)), (by first | rfl | (simp; done) | (simp [*]; done)), (by first | rfl | (simp; done) | (simp [*]; done)), H', ⟨by have := HK1.out; omega⟩, by repeat (first | exact Drawn0.refl _ | apply Drawn0.step)⟩
            · rw [if_neg c7] at H
              have c7b0 : ((rd l0 x9_1) == (wrap64 (-a2))) = false := beq_eq_false_iff_ne.mpr c7
              have c7b1 : ((rd l0 x9_1) != (wrap64 (-a2))) = true := bne_iff_ne.mpr c7
              have H' := Aside0.mk H
              clear H
              have p134 : 0 ≤ (x9_1 : Int) := of_decide_eq_true (by first | (with_reducible assumption) | assumption)
              have q134 : x9_1 < (l0.length : Int) := of_decide_eq_true (by first | (with_reducible assumption) | assumption)
              obtain ⟨ad134, e134, hx134_0⟩ := Kd.at_int HR0.out x9_1 p134 q134
              cases e134
              replace p134 := eq_true p134
              replace q134 := eq_true q134
              have p135 : 0 ≤ (x9_1 : Int) := of_decide_eq_true (by first | (with_reducible assumption) | assumption)
              have q135 : x9_1 < (l0.length : Int) := of_decide_eq_true (by first | (with_reducible assumption) | assumption)
              obtain ⟨ad135, e135, hx135_0⟩ := Kd.at_int HR0.out x9_1 p135 q135
              obtain rfl : ad134 = ad135 := (by injection e135)
              replace p135 := eq_true p135
              replace q135 := eq_true q135
              go_wp2
              go_loopg [10, 11, 12] k1 (fun kq v10 v11 v12 w' => ∃ (x10_2 : Int) (x11_2 : Int) (x12_2 : Int), v10 = .int .i64 x10_2 ∧ v11 = .int .i64 x11_2 ∧ v12 = .int .i64 x12_2 ∧ Aside0 (r18_two.l1 kq l0 a1 a2 x7_1 x8_1 x9_1 x10_2 x11_2 x12_2 = some r) ∧ Aside0 (kq ≤ k1) ∧ Drawn0 w w')
              case atStart => exact ⟨(0), (0), (x9_1), (by first | rfl | (simp; done) | (simp [*]; done)), (by first | rfl | (simp; done) | (simp [*]; done)), (by first | rfl | (simp; done) | (simp [*]; done)), H', ⟨Nat.le_refl _⟩, by repeat (first | exact Drawn0.refl _ | apply Drawn0.step)⟩
              case round =>
                clear H'
                try clear c1
                try clear p1
                try clear q1
                try clear hx1
                try clear p2
                try clear c4
                try clear c4b0
                try clear c5
                try clear c5b0
                try clear c6
                try clear c6b0
                try clear c6b1
                try clear p6
                try clear c7
                try clear c7b0
                try clear c7b1
                try clear hx134_0
                try clear hx135_0
                try clear p134
                try clear p135
                try clear p2
                try clear q134
                try clear q135
                obtain ⟨x10_2, x11_2, x12_2, rfl, rfl, rfl, HA, HK2, ⟨m2, rfl⟩⟩ := hrel
                cases gk with
                | zero => exact absurd HA.out (by simp [r18_two.l1])
                | succ k2 =>
                  have H := HA.out
                  clear HA
                  simp only [r18_two.l1] at H
                  have HC8 := Aside0.mk H
                  clear H
                  go_upto_region 13 with (fail)
                  go_cut [65] (fun v65 wc => ∃ (kq : Nat) (x65_7 : Bool), v65 = .bool x65_7 ∧ Aside0 (r18_two.j2 kq l0 a1 a2 x7_1 x8_1 x9_1 x10_2 x11_2 x12_2 x65_7 = some r) ∧ Aside0 (kq ≤ k2) ∧ Drawn0 w wc)
                  case first =>
                    have H := HC8.out
                    clear HC8
                    by_cases c9 : x7_1 = true
                    · subst c9
                      have H1 : (if x8_1 = true then (if x12_2 < (l0.length : Int) then (if 0 ≤ x12_2 then (if (rd l0 x12_2) = (wrap64 (-a1)) then (r18_two.j2 k2 l0 a1 a2 true x8_1 x9_1 x10_2 x11_2 x12_2 false) else (r18_two.j2 k2 l0 a1 a2 true x8_1 x9_1 x10_2 x11_2 x12_2 ((rd l0 x12_2) != (wrap64 (-a2))))) else (none)) else (r18_two.j2 k2 l0 a1 a2 true x8_1 x9_1 x10_2 x11_2 x12_2 false)) else (r18_two.j2 k2 l0 a1 a2 true x8_1 x9_1 x10_2 x11_2 x12_2 false)) = some r := by rw [if_pos rfl] at H; exact H
                      clear H
                      have H := H1
                      clear H1
                      by_cases c10 : x8_1 = true
                      · subst c10
                        have H1 : (if x12_2 < (l0.length : Int) then (if 0 ≤ x12_2 then (if (rd l0 x12_2) = (wrap64 (-a1)) then (r18_two.j2 k2 l0 a1 a2 true true x9_1 x10_2 x11_2 x12_2 false) else (r18_two.j2 k2 l0 a1 a2 true true x9_1 x10_2 x11_2 x12_2 ((rd l0 x12_2) != (wrap64 (-a2))))) else (none)) else (r18_two.j2 k2 l0 a1 a2 true true x9_1 x10_2 x11_2 x12_2 false)) = some r := by rw [if_pos rfl] at H; exact H
                        clear H
                        have H := H1
                        clear H1
                        by_cases c11 : x12_2 < (l0.length : Int)
                        · rw [if_pos c11] at H
                          have c11b0 : decide (x12_2 < (l0.length : Int)) = true := decide_eq_true c11
                          clear c11
                          (first | rw [c11b0] | (simp only [i64_w, i32_w]; rw [c11b0]) | skip)
                          by_cases c12 : 0 ≤ x12_2
                          · rw [if_pos c12] at H
                            have c12b0 : decide (0 ≤ x12_2) = true := decide_eq_true c12
                            clear c12
                            by_cases c13 : (rd l0 x12_2) = (wrap64 (-a1))
                            · rw [if_pos c13] at H
                              have c13b0 : ((rd l0 x12_2) == (wrap64 (-a1))) = true := beq_iff_eq.mpr c13
                              have c13b1 : ((rd l0 x12_2) != (wrap64 (-a1))) = false := bne_eq_false_iff_eq.mpr c13
                              clear c13
                              have H' := Aside0.mk H
                              clear H
                              have p136 : 0 ≤ (x12_2 : Int) := of_decide_eq_true (by first | (with_reducible assumption) | assumption)
                              have q136 : x12_2 < (l0.length : Int) := of_decide_eq_true (by first | (with_reducible assumption) | assumption)
                              obtain ⟨ad136, e136, hx136_0⟩ := Kd.at_int HR0.out x12_2 p136 q136
                              obtain rfl : ad134 = ad136 := (by injection e136)
                              replace p136 := eq_true p136
                              replace q136 := eq_true q136
                              go_wp2
                              go_meet
                              case rel => exact ⟨_, (false), (by first | rfl | (simp; done) | (simp [*]; done)), H', ⟨by have := HK1.out; have := HK2.out; first | omega | exact Nat.le_refl _⟩, by repeat (first | exact Drawn0.refl _ | apply Drawn0.step)⟩
                            · rw [if_neg c13] at H
                              have c13b0 : ((rd l0 x12_2) == (wrap64 (-a1))) = false := beq_eq_false_iff_ne.mpr c13
                              have c13b1 : ((rd l0 x12_2) != (wrap64 (-a1))) = true := bne_iff_ne.mpr c13
                              have H' := Aside0.mk H
                              clear H
                              have p136 : 0 ≤ (x12_2 : Int) := of_decide_eq_true (by first | (with_reducible assumption) | assumption)
                              have q136 : x12_2 < (l0.length : Int) := of_decide_eq_true (by first | (with_reducible assumption) | assumption)
                              obtain ⟨ad136, e136, hx136_0⟩ := Kd.at_int HR0.out x12_2 p136 q136
                              obtain rfl : ad134 = ad136 := (by injection e136)
                              replace p136 := eq_true p136
                              replace q136 := eq_true q136
                              have p137 : 0 ≤ (x12_2 : Int) := of_decide_eq_true (by first | (with_reducible assumption) | assumption)
                              have q137 : x12_2 < (l0.length : Int) := of_decide_eq_true (by first | (with_reducible assumption) | assumption)
                              obtain ⟨ad137, e137, hx137_0⟩ := Kd.at_int HR0.out x12_2 p137 q137
                              obtain rfl : ad134 = ad137 := (by injection e137)
                              replace p137 := eq_true p137
                              replace q137 := eq_true q137
                              go_wp2
                              go_meet
                              case rel => exact ⟨_, (((rd l0 x12_2) != (wrap64 (-a2)))), (by first | rfl | (simp; done) | (simp [*]; done)), H', ⟨by have := HK1.out; have := HK2.out; first | omega | exact Nat.le_refl _⟩, by repeat (first | exact Drawn0.refl _ | apply Drawn0.step)⟩
                          · rw [if_neg c12] at H
                            exact absurd H (by simp)
                        · rw [if_neg c11] at H
                          have c11b0 : decide (x12_2 < (l0.length : Int)) = false := decide_eq_false c11
                          clear c11
                          (first | rw [c11b0] | (simp only [i64_w, i32_w]; rw [c11b0]) | skip)
                          have H' := Aside0.mk H
                          clear H
                          go_wp2
                          go_meet
                          case rel => exact ⟨_, (false), (by first | rfl | (simp; done) | (simp [*]; done)), H', ⟨by have := HK1.out; have := HK2.out; first | omega | exact Nat.le_refl _⟩, by repeat (first | exact Drawn0.refl _ | apply Drawn0.step)⟩
                      · replace c10 := Bool.eq_false_iff.mpr c10
                        subst c10
                        have H1 : (r18_two.j2 k2 l0 a1 a2 true false x9_1 x10_2 x11_2 x12_2 false) = some r := by rw [if_neg (show ¬ (false = true) by decide)] at H; exact H
                        clear H
                        have H := H1
                        clear H1
                        have H' := Aside0.mk H
                        clear H
                        go_wp2
                        go_meet
                        case rel => exact ⟨_, (false), (by first | rfl | (simp; done) | (simp [*]; done)), H', ⟨by have := HK1.out; have := HK2.out; first | omega | exact Nat.le_refl _⟩, by repeat (first | exact Drawn0.refl _ | apply Drawn0.step)⟩
                    · replace c9 := Bool.eq_false_iff.mpr c9
                      subst c9
                      have H1 : (r18_two.j2 k2 l0 a1 a2 false x8_1 x9_1 x10_2 x11_2 x12_2 false) = some r := by rw [if_neg (show ¬ (false = true) by decide)] at H; exact H
                      clear H
                      have H := H1
                      clear H1
                      have H' := Aside0.mk H
                      clear H
                      go_wp2
                      go_meet
                      case rel => exact ⟨_, (false), (by first | rfl | (simp; done) | (simp [*]; done)), H', ⟨by have := HK1.out; have := HK2.out; first | omega | exact Nat.le_refl _⟩, by repeat (first | exact Drawn0.refl _ | apply Drawn0.step)⟩
                  case rest =>
                    clear HC8
                    try clear c1
                    try clear p1
                    try clear q1
                    try clear hx1
                    try clear p2
                    try clear c4
                    try clear c4b0
                    try clear c5
                    try clear c5b0
                    try clear c6
                    try clear c6b0
                    try clear c6b1
                    try clear p6
                    try clear c7
                    try clear c7b0
                    try clear c7b1
                    try clear c9
                    try clear c10
                    try clear c11
                    try clear c11b0
                    try clear c12
                    try clear c12b0
                    try clear c13
                    try clear c13b0
                    try clear c13b1
                    try clear p13
                    try clear q13
                    try clear hx13
                    try clear hx134_0
                    try clear hx135_0
                    try clear hx136_0
                    try clear hx137_0
                    try clear p1
                    try clear p134
                    try clear p135
                    try clear p136
                    try clear p137
                    try clear p2
                    try clear p6
                    try clear q1
                    try clear q134
                    try clear q135
                    try clear q136
                    try clear q137
                    obtain ⟨kq, x65_7, rfl, HA, HJ7, ⟨mc7, rfl⟩⟩ := hcut
                    cases kq with
                    | zero => exact absurd HA.out (by simp [r18_two.j2])
                    | succ kj7 =>
                      have H := HA.out
                      clear HA
                      simp only [r18_two.j2] at H
                      by_cases c14 : x65_7 = true
                      · subst c14
                        have H1 : (if 0 ≤ x12_2 then (if x12_2 < (l0.length : Int) then (if (rd l0 x12_2) = a1 then (r18_two.j3 kj7 l0 a1 a2 x7_1 x8_1 x9_1 (wrap64 (x10_2 + 1)) x11_2 x12_2) else (r18_two.j3 kj7 l0 a1 a2 x7_1 x8_1 x9_1 x10_2 x11_2 x12_2)) else (none)) else (none)) = some r := by rw [if_pos rfl] at H; exact H
                        clear H
                        have H := H1
                        clear H1
                        by_cases c15 : 0 ≤ x12_2
                        · rw [if_pos c15] at H
                          have c15b0 : decide (0 ≤ x12_2) = true := decide_eq_true c15
                          clear c15
                          by_cases c16 : x12_2 < (l0.length : Int)
                          · rw [if_pos c16] at H
                            have c16b0 : decide (x12_2 < (l0.length : Int)) = true := decide_eq_true c16
                            clear c16
                            have HC17 := Aside0.mk H
                            clear H
                            have p138 : 0 ≤ (x12_2 : Int) := of_decide_eq_true (by first | (with_reducible assumption) | assumption)
                            have q138 : x12_2 < (l0.length : Int) := of_decide_eq_true (by first | (with_reducible assumption) | assumption)
                            obtain ⟨ad138, e138, hx138_0⟩ := Kd.at_int HR0.out x12_2 p138 q138
                            obtain rfl : ad134 = ad138 := (by injection e138)
                            replace p138 := eq_true p138
                            replace q138 := eq_true q138
                            go_upto_if 73 with (fail)
                            go_cut [10] (fun v10 wc => ∃ (kq : Nat) (x10_16 : Int), v10 = .int .i64 x10_16 ∧ Aside0 (r18_two.j3 kq l0 a1 a2 x7_1 x8_1 x9_1 x10_16 x11_2 x12_2 = some r) ∧ Aside0 (kq ≤ kj7) ∧ Drawn0 w wc)
                            case first =>
                              have H := HC17.out
                              clear HC17
                              by_cases c18 : (rd l0 x12_2) = a1
                              · rw [if_pos c18] at H
                                have c18b0 : ((rd l0 x12_2) == a1) = true := beq_iff_eq.mpr c18
                                have c18b1 : ((rd l0 x12_2) != a1) = false := bne_eq_false_iff_eq.mpr c18
                                clear c18
                                (first | rw [c18b0] | (simp only [i64_w, i32_w]; rw [c18b0]) | skip)
                                have H' := Aside0.mk H
                                clear H
                                go_wp2
                                go_meet
                                case rel => exact ⟨_, (wrap64 (x10_2 + 1)), (by first | rfl | (simp; done) | (simp [*]; done)), H', ⟨by have := HK1.out; have := HK2.out; have := HJ7.out; first | omega | exact Nat.le_refl _⟩, by repeat (first | exact Drawn0.refl _ | apply Drawn0.step)⟩
                              · rw [if_neg c18] at H
                                have c18b0 : ((rd l0 x12_2) == a1) = false := beq_eq_false_iff_ne.mpr c18
                                have c18b1 : ((rd l0 x12_2) != a1) = true := bne_iff_ne.mpr c18
                                (first | rw [c18b0] | (simp only [i64_w, i32_w]; rw [c18b0]) | skip)
                                have H' := Aside0.mk H
                                clear H
                                go_wp2
                                go_meet
                                case rel => exact ⟨_, (x10_2), (by first | rfl | (simp; done) | (simp [*]; done)), H', ⟨by have := HK1.out; have := HK2.out; have := HJ7.out; first | omega | exact Nat.le_refl _⟩, by repeat (first | exact Drawn0.refl _ | apply Drawn0.step)⟩
                            case rest =>
                              clear HC17
                              try clear c1
                              try clear p1
                              try clear q1
                              try clear hx1
                              try clear p2
                              try clear c4
                              try clear c4b0
                              try clear c5
                              try clear c5b0
                              try clear c6
                              try clear c6b0
                              try clear c6b1
                              try clear p6
                              try clear c7
                              try clear c7b0
                              try clear c7b1
                              try clear c9
                              try clear c10
                              try clear c11
                              try clear c11b0
                              try clear c12
                              try clear c12b0
                              try clear c13
                              try clear c13b0
                              try clear c13b1
                              try clear p13
                              try clear q13
                              try clear hx13
                              try clear c14
                              try clear c15
                              try clear c15b0
                              try clear c16
                              try clear c16b0
                              try clear c18
                              try clear c18b0
                              try clear c18b1
                              try clear hx134_0
                              try clear hx135_0
                              try clear hx136_0
                              try clear hx137_0
                              try clear hx138_0
                              try clear p1
                              try clear p13
                              try clear p134
                              try clear p135
                              try clear p136
                              try clear p137
                              try clear p138
                              try clear p2
                              try clear p6
                              try clear q1
                              try clear q13
                              try clear q134
                              try clear q135
                              try clear q136
                              try clear q137
                              try clear q138
                              obtain ⟨kq, x10_16, rfl, HA, HJ16, ⟨mc16, rfl⟩⟩ := hcut
                              cases kq with
                              | zero => exact absurd HA.out (by simp [r18_two.j3])
                              | succ kj16 =>
                                have H := HA.out
                                clear HA
                                simp only [r18_two.j3] at H
                                by_cases c19 : 0 ≤ x12_2
                                · rw [if_pos c19] at H
                                  have c19b0 : decide (0 ≤ x12_2) = true := decide_eq_true c19
                                  clear c19
                                  by_cases c20 : x12_2 < (l0.length : Int)
                                  · rw [if_pos c20] at H
                                    have c20b0 : decide (x12_2 < (l0.length : Int)) = true := decide_eq_true c20
                                    clear c20
                                    by_cases c21 : (rd l0 x12_2) = a2
                                    · rw [if_pos c21] at H
                                      have c21b0 : ((rd l0 x12_2) == a2) = true := beq_iff_eq.mpr c21
                                      have c21b1 : ((rd l0 x12_2) != a2) = false := bne_eq_false_iff_eq.mpr c21
                                      clear c21
                                      by_cases c22 : x10_16 > (wrap64 ((wrap64 (2 * (wrap64 (x11_2 + 1)))) + 2))
                                      · rw [if_pos c22] at H
                                        have c22b0 : decide ((wrap64 ((wrap64 (2 * (wrap64 (x11_2 + 1)))) + 2)) < x10_16) = true := decide_eq_true c22
                                        clear c22
                                        obtain rfl := Option.some.inj H
                                        have p139 : 0 ≤ (x12_2 : Int) := of_decide_eq_true (by first | (with_reducible assumption) | assumption)
                                        have q139 : x12_2 < (l0.length : Int) := of_decide_eq_true (by first | (with_reducible assumption) | assumption)
                                        obtain ⟨ad139, e139, hx139_0⟩ := Kd.at_int HR0.out x12_2 p139 q139
                                        obtain rfl : ad134 = ad139 := (by injection e139)
                                        replace p139 := eq_true p139
                                        replace q139 := eq_true q139
                                        go_wp2
                                        go_ret
                                        exact ⟨by first | rfl | (simp; done) | (simp [*]; done), by repeat (first | exact Drawn0.refl _ | apply Drawn0.step)⟩
                                      · rw [if_neg c22] at H
                                        have c22b0 : decide ((wrap64 ((wrap64 (2 * (wrap64 (x11_2 + 1)))) + 2)) < x10_16) = false := decide_eq_false c22
                                        clear c22
                                        by_cases c23 : (wrap64 (x11_2 + 1)) > (wrap64 ((wrap64 (2 * x10_16)) + 2))
                                        · rw [if_pos c23] at H
                                          have c23b0 : decide ((wrap64 ((wrap64 (2 * x10_16)) + 2)) < (wrap64 (x11_2 + 1))) = true := decide_eq_true c23
                                          clear c23
                                          obtain rfl := Option.some.inj H
                                          have p139 : 0 ≤ (x12_2 : Int) := of_decide_eq_true (by first | (with_reducible assumption) | assumption)
                                          have q139 : x12_2 < (l0.length : Int) := of_decide_eq_true (by first | (with_reducible assumption) | assumption)
                                          obtain ⟨ad139, e139, hx139_0⟩ := Kd.at_int HR0.out x12_2 p139 q139
                                          obtain rfl : ad134 = ad139 := (by injection e139)
                                          replace p139 := eq_true p139
                                          replace q139 := eq_true q139
                                          go_wp2
                                          go_ret
                                          exact ⟨by first | rfl | (simp; done) | (simp [*]; done), by repeat (first | exact Drawn0.refl _ | apply Drawn0.step)⟩
                                        · rw [if_neg c23] at H
                                          have c23b0 : decide ((wrap64 ((wrap64 (2 * x10_16)) + 2)) < (wrap64 (x11_2 + 1))) = false := decide_eq_false c23
                                          clear c23
                                          have H' := Aside0.mk H
                                          clear H
                                          have p139 : 0 ≤ (x12_2 : Int) := of_decide_eq_true (by first | (with_reducible assumption) | assumption)
                                          have q139 : x12_2 < (l0.length : Int) := of_decide_eq_true (by first | (with_reducible assumption) | assumption)
                                          obtain ⟨ad139, e139, hx139_0⟩ := Kd.at_int HR0.out x12_2 p139 q139
                                          obtain rfl : ad134 = ad139 := (by injection e139)
                                          replace p139 := eq_true p139
                                          replace q139 := eq_true q139
                                          go_wp2
                                          go_roundg kj16
                                          case measure => have := HK1.out; have := HK2.out; have := HJ7.out; have := HJ16.out; omega
                                          case rel => exact ⟨(x10_16), (wrap64 (x11_2 + 1)), (wrap64 (x12_2 + 1)), (by first | rfl | (simp; done) | (simp [*]; done)), (by first | rfl | (simp; done) | (simp [*]; done)), (by first | rfl | (simp; done) | (simp [*]; done)), H', ⟨by have := HK1.out; have := HK2.out; have := HJ7.out; have := HJ16.out; omega⟩, by repeat (first | exact Drawn0.refl _ | apply Drawn0.step)⟩
                                    · rw [if_neg c21] at H
                                      have c21b0 : ((rd l0 x12_2) == a2) = false := beq_eq_false_iff_ne.mpr c21
                                      have c21b1 : ((rd l0 x12_2) != a2) = true := bne_iff_ne.mpr c21
                                      by_cases c24 : x10_16 > (wrap64 ((wrap64 (2 * x11_2)) + 2))
                                      · rw [if_pos c24] at H
                                        have c24b0 : decide ((wrap64 ((wrap64 (2 * x11_2)) + 2)) < x10_16) = true := decide_eq_true c24
                                        clear c24
                                        obtain rfl := Option.some.inj H
                                        have p139 : 0 ≤ (x12_2 : Int) := of_decide_eq_true (by first | (with_reducible assumption) | assumption)
                                        have q139 : x12_2 < (l0.length : Int) := of_decide_eq_true (by first | (with_reducible assumption) | assumption)
                                        obtain ⟨ad139, e139, hx139_0⟩ := Kd.at_int HR0.out x12_2 p139 q139
                                        obtain rfl : ad134 = ad139 := (by injection e139)
                                        replace p139 := eq_true p139
                                        replace q139 := eq_true q139
                                        go_wp2
                                        go_ret
                                        exact ⟨by first | rfl | (simp; done) | (simp [*]; done), by repeat (first | exact Drawn0.refl _ | apply Drawn0.step)⟩
                                      · rw [if_neg c24] at H
                                        have c24b0 : decide ((wrap64 ((wrap64 (2 * x11_2)) + 2)) < x10_16) = false := decide_eq_false c24
                                        clear c24
                                        by_cases c25 : x11_2 > (wrap64 ((wrap64 (2 * x10_16)) + 2))
                                        · rw [if_pos c25] at H
                                          have c25b0 : decide ((wrap64 ((wrap64 (2 * x10_16)) + 2)) < x11_2) = true := decide_eq_true c25
                                          clear c25
                                          obtain rfl := Option.some.inj H
                                          have p139 : 0 ≤ (x12_2 : Int) := of_decide_eq_true (by first | (with_reducible assumption) | assumption)
                                          have q139 : x12_2 < (l0.length : Int) := of_decide_eq_true (by first | (with_reducible assumption) | assumption)
                                          obtain ⟨ad139, e139, hx139_0⟩ := Kd.at_int HR0.out x12_2 p139 q139
                                          obtain rfl : ad134 = ad139 := (by injection e139)
                                          replace p139 := eq_true p139
                                          replace q139 := eq_true q139
                                          go_wp2
                                          go_ret
                                          exact ⟨by first | rfl | (simp; done) | (simp [*]; done), by repeat (first | exact Drawn0.refl _ | apply Drawn0.step)⟩
                                        · rw [if_neg c25] at H
                                          have c25b0 : decide ((wrap64 ((wrap64 (2 * x10_16)) + 2)) < x11_2) = false := decide_eq_false c25
                                          clear c25
                                          have H' := Aside0.mk H
                                          clear H
                                          have p139 : 0 ≤ (x12_2 : Int) := of_decide_eq_true (by first | (with_reducible assumption) | assumption)
                                          have q139 : x12_2 < (l0.length : Int) := of_decide_eq_true (by first | (with_reducible assumption) | assumption)
                                          obtain ⟨ad139, e139, hx139_0⟩ := Kd.at_int HR0.out x12_2 p139 q139
                                          obtain rfl : ad134 = ad139 := (by injection e139)
                                          replace p139 := eq_true p139
                                          replace q139 := eq_true q139
                                          go_wp2
                                          go_roundg kj16
                                          case measure => have := HK1.out; have := HK2.out; have := HJ7.out; have := HJ16.out; omega
                                          case rel => exact ⟨(x10_16), (x11_2), (wrap64 (x12_2 + 1)), (by first | rfl | (simp; done) | (simp [*]; done)), (by first | rfl | (simp; done) | (simp [*]; done)), (by first | rfl | (simp; done) | (simp [*]; done)), H', ⟨by have := HK1.out; have := HK2.out; have := HJ7.out; have := HJ16.out; omega⟩, by repeat (first | exact Drawn0.refl _ | apply Drawn0.step)⟩
                                  · rw [if_neg c20] at H
                                    exact absurd H (by simp)
                                · rw [if_neg c19] at H
                                  exact absurd H (by simp)
                          · rw [if_neg c16] at H
                            exact absurd H (by simp)
                        · rw [if_neg c15] at H
                          exact absurd H (by simp)
                      · replace c14 := Bool.eq_false_iff.mpr c14
                        subst c14
                        have H1 : (r18_two.l0 kj7 l0 a1 a2 x7_1 x8_1 (wrap64 (x9_1 + 1))) = some r := by rw [if_neg (show ¬ (false = true) by decide)] at H; exact H
                        clear H
                        have H := H1
                        clear H1
                        have H' := Aside0.mk H
                        clear H
                        go_wp2
                        go_roundg kj7
                        case measure => have := HK1.out; have := HK2.out; have := HJ7.out; omega
                        case rel => exact ⟨(x7_1), (x8_1), (wrap64 (x9_1 + 1)), (by first | rfl | (simp; done) | (simp [*]; done)), (by first | rfl | (simp; done) | (simp [*]; done)), (by first | rfl | (simp; done) | (simp [*]; done)), H', ⟨by have := HK1.out; have := HK2.out; have := HJ7.out; omega⟩, by repeat (first | exact Drawn0.refl _ | apply Drawn0.step)⟩
        · rw [if_neg c5] at H
          exact absurd H (by simp)
      · rw [if_neg c4] at H
        have c4b0 : decide (x9_1 < (l0.length : Int)) = false := decide_eq_false c4
        clear c4
        obtain rfl := Option.some.inj H
        go_wp2
        go_ret
        exact ⟨by first | rfl | (simp; done) | (simp [*]; done), by repeat (first | exact Drawn0.refl _ | apply Drawn0.step)⟩

end Go.Proofs.Ytnhceomdjlocaaa.PAll
