/- The document's answers, told plainly. -/
import Derived.Test.YtnhceomdjlocaaaPureS
import Derived.Test.YtnhceomdjlocaaaPAllx1
import Derived.Test.YtnhceomdjlocaaaPAllx34
import Derived.Test.YtnhceomdjlocaaaPAllx35
import Derived.Test.YtnhceomdjlocaaaPAllx36
import Derived.Test.YtnhceomdjlocaaaPAllx44
import Derived.Test.YtnhceomdjlocaaaPAllx45
namespace Go.Proofs.Ytnhceomdjlocaaa.Clock
open Go.RowKit Go.Proofs.Ytnhceomdjlocaaa.PAll Go.Proofs.YtnhceomdjlocaaaW.PrintWords Go.Proofs.YtnhceomdjlocaaaW.PrintLast Go.Proofs.YtnhceomdjlocaaaW.PrintMore
set_option linter.unusedVariables false
set_option linter.unusedSimpArgs false

theorem wrap_id {x : Int} (h0 : -9223372036854775808 ≤ x) (h1 : x ≤ 9223372036854775807) : wrap64 x = x := by unfold wrap64; omega
theorem drop_cons {l : List Int} {i : Nat} {z : Int} {t : List Int} (h : l.drop i = z :: t) : i < l.length ∧ rd l i = z ∧ l.drop (i + 1) = t := by
  have h0 : i < l.length := by
    apply Decidable.byContradiction
    intro hn
    rw [List.drop_eq_nil_iff.2 (by omega)] at h
    cases h
  refine ⟨h0, ?_, ?_⟩
  · have : (l.drop i)[0]? = some z := by rw [h]; rfl
    rw [List.getElem?_drop, Nat.add_zero] at this
    simp [rd, List.getD_eq_getElem?_getD, this]
  · rw [← List.drop_drop, h]; rfl
theorem drop_nil {l : List Int} {i : Nat} (h : l.drop i = []) : l.length ≤ i := List.drop_eq_nil_iff.1 h

/-- Ascending from a number on, up to 7. -/
def goN : Int → List Int → Bool
  | _, [] => true
  | was, z :: l => decide (was < z) && decide (z ≤ 7) && goN z l
/-- Nodes. -/
def nodesB (l : List Int) : Bool := goN 0 l && decide (0 < (l.length : Int))

theorem cn_l0 (l : List Int) (hl : l.length ≤ 1000000) : ∀ (s : List Int) (i : Nat) (was : Int), l.drop i = s → Ev (fun k => clock_nodes.l0 k l was l l.length i) (goN was s && decide (0 < (l.length : Int)))
  | [], i, was, h => by
    have h := drop_nil h
    refine Ev.step (f := fun _ => some (goN was [] && decide (0 < (l.length : Int)))) (fun k => ?_) (Ev.now _)
    rw [clock_nodes.l0, if_neg (by omega)]
    simp [goN]
  | z :: t, i, was, h => by
    obtain ⟨h1, h2, h3⟩ := drop_cons h
    by_cases g1 : z ≤ was
    · refine Ev.step (f := fun _ => some (goN was (z :: t) && decide (0 < (l.length : Int)))) (fun k => ?_) (Ev.now _)
      rw [clock_nodes.l0, if_pos (by omega), if_pos (by omega), if_pos (by omega), h2, if_pos g1]
      have : ¬ was < z := by omega
      simp [goN, this]
    by_cases g2 : z > 7
    · refine Ev.step (f := fun _ => some (goN was (z :: t) && decide (0 < (l.length : Int)))) (fun k => ?_) (Ev.now _)
      rw [clock_nodes.l0, if_pos (by omega), if_pos (by omega), if_pos (by omega), h2, if_neg g1, if_pos g2]
      have : ¬ z ≤ 7 := by omega
      simp [goN, this]
    have e : goN was (z :: t) = goN z t := by
      have e1 : was < z := by omega
      have e2 : z ≤ 7 := by omega
      simp [goN, e1, e2]
    rw [e]
    refine Ev.step (f := fun k => clock_nodes.l0 k l z l l.length ((i + 1 : Nat) : Int)) (fun k => ?_) (cn_l0 l hl t (i + 1) z h3)
    rw [clock_nodes.l0, if_pos (by omega), if_pos (by omega), if_pos (by omega), h2, if_neg g1, if_neg g2, wrap_id (by omega) (by omega)]
    rfl
theorem nodes_code (l : List Int) (hl : l.length ≤ 1000000) : Ev (fun k => clock_nodes.f k l) (nodesB l) := cn_l0 l hl l 0 0 rfl

theorem rn_l0 (l : List Int) (hl : l.length ≤ 1000000) : ∀ (s : List Int) (i : Nat) (was : Int), l.drop i = s → ((i = 0 ∧ was = 0) ∨ (0 < i ∧ rd l ((i : Int) - 1) = was ∧ 1 ≤ was)) → Ev (fun k => r18_Nodes.l0 k l i) (goN was s && decide (0 < (l.length : Int)))
  | [], i, was, h, _ => by
    have h := drop_nil h
    refine Ev.step (f := fun _ => some (goN was [] && decide (0 < (l.length : Int)))) (fun k => ?_) (Ev.now _)
    rw [r18_Nodes.l0, if_neg (by omega)]
    simp [goN]
  | z :: t, i, was, h, hw => by
    obtain ⟨h1, h2, h3⟩ := drop_cons h
    by_cases g0 : z < 1
    · refine Ev.step (f := fun _ => some (goN was (z :: t) && decide (0 < (l.length : Int)))) (fun k => ?_) (Ev.now _)
      rw [r18_Nodes.l0, if_pos (by omega), if_pos (by omega), h2, if_pos g0]
      have : ¬ was < z := by omega
      simp [goN, this]
    by_cases g2 : z > 7
    · refine Ev.step (f := fun _ => some (goN was (z :: t) && decide (0 < (l.length : Int)))) (fun k => ?_) (Ev.now _)
      rw [r18_Nodes.l0, if_pos (by omega), if_pos (by omega), h2, if_neg g0, if_pos g2]
      have : ¬ z ≤ 7 := by omega
      simp [goN, this]
    by_cases g1 : was < z
    · have e : goN was (z :: t) = goN z t := by
        have e2 : z ≤ 7 := by omega
        simp [goN, g1, e2]
      rw [e]
      refine Ev.step (f := fun k => r18_Nodes.l0 k l ((i + 1 : Nat) : Int)) (fun k => ?_) (rn_l0 l hl t (i + 1) z h3 (.inr ⟨by omega, by rw [← h2]; congr 1; omega, by omega⟩))
      rw [r18_Nodes.l0, if_pos (by omega), if_pos (by omega), h2, if_neg g0, if_neg g2, wrap_id (x := (i : Int) + 1) (by omega) (by omega)]
      by_cases hi : (i : Int) > 0
      · rw [if_pos hi, wrap_id (by omega) (by omega), if_pos (by omega), if_pos (by omega)]
        rcases hw with ⟨hw, _⟩ | ⟨_, hw, _⟩
        · omega
        · rw [hw, if_neg (by omega)]; rfl
      · rw [if_neg hi]; rfl
    · refine Ev.step (f := fun _ => some (goN was (z :: t) && decide (0 < (l.length : Int)))) (fun k => ?_) (Ev.now _)
      rw [r18_Nodes.l0, if_pos (by omega), if_pos (by omega), h2, if_neg g0, if_neg g2]
      rcases hw with ⟨_, hw⟩ | ⟨hi, hw, _⟩
      · omega
      · rw [if_pos (by omega), wrap_id (x := (i : Int) - 1) (by omega) (by omega), if_pos (by omega), if_pos (by omega), hw, if_pos (by omega)]
        simp [goN, g1]
theorem nodes_ref (l : List Int) (hl : l.length ≤ 1000000) : Ev (fun k => r18_Nodes.f k l) (nodesB l) := rn_l0 l hl l 0 0 rfl (.inl ⟨rfl, rfl⟩)

theorem in_l0 (l : List Int) (a : Int) (hl : l.length ≤ 1000000) : ∀ (s : List Int) (i : Nat), l.drop i = s → Ev (fun k => r18_In.l0 k l a i) (s.any (fun z => decide (z = a)))
  | [], i, h => by
    have h := drop_nil h
    refine Ev.step (f := fun _ => some ([].any (fun z : Int => decide (z = a)))) (fun k => ?_) (Ev.now _)
    rw [r18_In.l0, if_neg (by omega)]
    rfl
  | z :: t, i, h => by
    obtain ⟨h1, h2, h3⟩ := drop_cons h
    by_cases g : z = a
    · refine Ev.step (f := fun _ => some ((z :: t).any (fun z : Int => decide (z = a)))) (fun k => ?_) (Ev.now _)
      rw [r18_In.l0, if_pos (by omega), if_pos (by omega), h2, if_pos g]
      simp [g]
    · have e : (z :: t).any (fun z : Int => decide (z = a)) = t.any (fun z : Int => decide (z = a)) := by simp [g]
      rw [e]
      refine Ev.step (f := fun k => r18_In.l0 k l a ((i + 1 : Nat) : Int)) (fun k => ?_) (in_l0 l a hl t (i + 1) h3)
      rw [r18_In.l0, if_pos (by omega), if_pos (by omega), h2, if_neg g, wrap_id (by omega) (by omega)]
      rfl
theorem in_ref (l : List Int) (a : Int) (hl : l.length ≤ 1000000) : Ev (fun k => r18_In.f k l a) (l.any (fun z => decide (z = a))) := in_l0 l a hl l 0 rfl

/-- Ticks of a node, from n on. -/
def ticksS (a : Int) : Int → List Int → Int
  | n, [] => n
  | n, z :: l => ticksS a (if z = -a then 0 else if z = a then n + 1 else n) l
theorem ti_l0 (l : List Int) (a : Int) (ha : 1 ≤ a) (ha2 : a ≤ 7) (hl : l.length ≤ 1000000) : ∀ (s : List Int) (i : Nat) (n : Int), l.drop i = s → 0 ≤ n → n ≤ i → Ev (fun k => r18_Ticks.l0 k l a n i) (ticksS a n s)
  | [], i, n, h, _, _ => by
    have h := drop_nil h
    refine Ev.step (f := fun _ => some (ticksS a n [])) (fun k => ?_) (Ev.now _)
    rw [r18_Ticks.l0, if_neg (by omega)]
    rfl
  | z :: t, i, n, h, hn0, hn => by
    obtain ⟨h1, h2, h3⟩ := drop_cons h
    show Ev _ (ticksS a (if z = -a then 0 else if z = a then n + 1 else n) t)
    refine Ev.step (f := fun k => r18_Ticks.l0 k l a (if z = -a then 0 else if z = a then n + 1 else n) ((i + 1 : Nat) : Int)) (fun k => ?_) (ti_l0 l a ha ha2 hl t (i + 1) _ h3 ?_ ?_)
    · rw [r18_Ticks.l0, if_pos (by omega), if_pos (by omega), h2, wrap_id (x := -a) (by omega) (by omega), wrap_id (x := (i : Int) + 1) (by omega) (by omega), wrap_id (x := n + 1) (by omega) (by omega)]
      by_cases g1 : z = a
      · have g2 : ¬ z = -a := by omega
        rw [if_pos g1, if_neg g2, if_neg g2, if_pos g1]; rfl
      · by_cases g2 : z = -a
        · rw [if_neg g1, if_pos g2, if_pos g2]; rfl
        · rw [if_neg g1, if_neg g2, if_neg g2, if_neg g1]; rfl
    · repeat' split
      all_goals omega
    · repeat' split
      all_goals omega
theorem ticks_ref (l : List Int) (a : Int) (ha : 1 ≤ a) (ha2 : a ≤ 7) (hl : l.length ≤ 1000000) : Ev (fun k => r18_Ticks.f k l a) (ticksS a 0 l) := ti_l0 l a ha ha2 hl l 0 0 rfl (by omega) (by omega)
end Go.Proofs.Ytnhceomdjlocaaa.Clock
