/- The plain law of ClockTurns. -/
import Derived.Test.YtnhceomdjlocaaaPureAlike
import Derived.Test.YtnhceomdjlocaaaPAllx38
namespace Go.Proofs.Ytnhceomdjlocaaa.Pure
open Go.RowKit Go.Proofs.Ytnhceomdjlocaaa.PAll Go.Proofs.Ytnhceomdjlocaaa.Clock Go.Proofs.YtnhceomdjlocaaaW.PrintWords Go.Proofs.YtnhceomdjlocaaaW.PrintLast
set_option linter.unusedVariables false
set_option linter.unusedSimpArgs false

/-- Whose turn is next. -/
def nextT (n r : Nat) : Nat := if r + 1 = n then 0 else r + 1
/-- m turns, from the r-th node on. -/
def turnsS (ns : List Int) : Nat → Nat → List Int
  | 0, _ => []
  | m + 1, r => ns[r]! :: turnsS ns m (nextT ns.length r)
/-- How far it is to the i-th. -/
def due (n r i : Nat) : Nat := if r ≤ i then i - r else i + n - r

theorem inner_turns (ns : List Int) (hn : goN 0 ns = true) (i k : Nat) (hi : i < ns.length) (hk : k < ns.length) (hik : k < i) : ∀ (m r : Nat) (a b : Int), r < ns.length → 0 ≤ a → 0 ≤ b →
    (due ns.length r i < due ns.length r k → a - b = 0 ∨ a - b = -1) → (due ns.length r k < due ns.length r i → a - b = 0 ∨ a - b = 1) → innerS ns[i]! ns[k]! a b (turnsS ns m r) = true
  | 0, _, _, _, _, _, _, _, _ => rfl
  | m + 1, r, a, b, hr, ha, hb, h1, h2 => by
    have bi := goN_get ns 0 hn i hi
    have bk := goN_get ns 0 hn k hk
    have br := goN_get ns 0 hn r hr
    have lt := goN_lt ns 0 hn k i hik hi
    rw [turnsS, innerS, if_neg (by omega)]
    have ei : ns[r]! = ns[i]! ↔ r = i := ⟨fun e => by
      rcases Nat.lt_trichotomy r i with g | g | g
      · have := goN_lt ns 0 hn r i g hi; omega
      · exact g
      · have := goN_lt ns 0 hn i r g hr; omega, fun e => by rw [e]⟩
    have ek : ns[r]! = ns[k]! ↔ r = k := ⟨fun e => by
      rcases Nat.lt_trichotomy r k with g | g | g
      · have := goN_lt ns 0 hn r k g hk; omega
      · exact g
      · have := goN_lt ns 0 hn k r g hr; omega, fun e => by rw [e]⟩
    have hnx : nextT ns.length r < ns.length := by unfold nextT; split <;> omega
    generalize hnl : ns.length = n at *
    by_cases g1 : r = i
    · rw [if_pos (ei.2 g1), if_neg (show ¬ ns[r]! = ns[k]! from fun e => by have := ek.1 e; omega)]
      have hd : due n r i < due n r k := by unfold due; (repeat' split) <;> omega
      have := h1 hd
      rw [if_neg (by omega)]
      refine inner_turns ns hn i k (by omega) (by omega) hik m _ _ _ (by omega) (by omega) hb ?_ ?_
      · rw [hnl]; intro h; exfalso; revert h; unfold due nextT; (repeat' split) <;> omega
      · intro _; omega
    · rw [if_neg (show ¬ ns[r]! = ns[i]! from fun e => g1 (ei.1 e))]
      by_cases g2 : r = k
      · rw [if_pos (ek.2 g2)]
        have hd : due n r k < due n r i := by unfold due; (repeat' split) <;> omega
        have := h2 hd
        rw [if_neg (by omega)]
        refine inner_turns ns hn i k (by omega) (by omega) hik m _ _ _ (by omega) ha (by omega) ?_ ?_
        · intro _; omega
        · rw [hnl]; intro h; exfalso; revert h; unfold due nextT; (repeat' split) <;> omega
      · rw [if_neg (show ¬ ns[r]! = ns[k]! from fun e => g2 (ek.1 e))]
        have hab : -1 ≤ a - b ∧ a - b ≤ 1 := by
          rcases Nat.lt_trichotomy (due n r i) (due n r k) with g | g | g
          · have := h1 g; omega
          · exfalso; revert g; unfold due; (repeat' split) <;> omega
          · have := h2 g; omega
        rw [if_neg (by omega)]
        refine inner_turns ns hn i k (by omega) (by omega) hik m _ _ _ (by omega) ha hb ?_ ?_
        · rw [hnl]; intro h; apply h1; revert h; unfold due nextT; (repeat' split) <;> omega
        · rw [hnl]; intro h; apply h2; revert h; unfold due nextT; (repeat' split) <;> omega
theorem two_turns (ns : List Int) (hn : goN 0 ns = true) (i k : Nat) (hi : i < ns.length) (hk : k < ns.length) (hik : k < i) : ∀ (m r : Nat), r < ns.length → twoS ns[i]! ns[k]! true true (turnsS ns m r) = true
  | 0, _, _ => rfl
  | m + 1, r, hr => by
    have bi := goN_get ns 0 hn i hi
    have bk := goN_get ns 0 hn k hk
    have br := goN_get ns 0 hn r hr
    have h := inner_turns ns hn i k hi hk hik (m + 1) r 0 0 hr (by omega) (by omega) (fun _ => .inl rfl) (fun _ => .inl rfl)
    have hnx : nextT ns.length r < ns.length := by unfold nextT; split <;> omega
    rw [turnsS] at h ⊢
    rw [twoS, if_neg (by omega), if_neg (by omega), h, two_turns ns hn i k hi hk hik m _ hnx]
    rfl
theorem all_turns (ns : List Int) (hn : goN 0 ns = true) (m r : Nat) (hr : r < ns.length) : ∀ i, i ≤ ns.length → allTwo ns (turnsS ns m r) i = true
  | 0, _ => rfl
  | i + 1, hi => by
    rw [allTwo, all_turns ns hn m r hr i (by omega), Bool.true_and, List.all_eq_true]
    intro y hy
    obtain ⟨j, h1, h2, rfl⟩ := mem_take_get hy
    exact two_turns ns hn i j (by omega) h2 h1 m r hr

theorem next_mod (n q : Nat) (hn : 0 < n) : (q + 1) % n = nextT n (q % n) := by
  have h := Nat.div_add_mod q n
  have hr := Nat.mod_lt q hn
  generalize q % n = r at *
  unfold nextT
  split
  · rename_i g
    have : q + 1 = n * (q / n + 1) := by rw [Nat.mul_add, Nat.mul_one]; omega
    rw [this, Nat.mul_mod_right]
  · have : q + 1 = n * (q / n) + (r + 1) := by omega
    rw [this, Nat.mul_add_mod, Nat.mod_eq_of_lt (by omega)]
section
variable (ns : List Int) (a1 a2 : Int) (hn : nodesB ns = true) (h1 : 0 ≤ a1) (h2 : a1 ≤ 100) (h3 : 0 ≤ a2)
include hn h1 h2 h3
theorem turns_loop : ∀ (m i : Nat) (acc : List Int), (i : Int) + m = a1 → acc.length = i → (∀ suffix, acc ++ suffix = turnsS ns a1.toNat (a2.toNat % ns.length) ↔ suffix = turnsS ns m ((a2.toNat % ns.length + i) % ns.length)) →
    Ev (fun k => L_ClockTurns.l0 k ns a1 a2 acc i) true
  | 0, i, acc, hm, hacc, hs => by
    obtain ⟨hg, hl0⟩ := nodesB_iff.1 hn
    have hl := goN_length ns 0 hg (by omega)
    have e : acc = turnsS ns a1.toNat (a2.toNat % ns.length) := by simpa using (hs []).2 rfl
    have hal : alikeR ns acc = true := by
      unfold alikeR
      rw [hn, e, Bool.true_and]
      exact all_turns ns hg _ _ (Nat.mod_lt _ hl0) _ (Nat.le_refl _)
    refine Ev.step (f := fun _ => some true) (fun k => ?_) (Ev.now _)
    rw [L_ClockTurns.l0, if_neg (by omega), alike_rows, Option.bind_some, if_pos rfl, clock_alike_f ns acc (by omega) (by omega), hal]
    rfl
  | m + 1, i, acc, hm, hacc, hs => by
    obtain ⟨hg, hl0⟩ := nodesB_iff.1 hn
    have hl := goN_length ns 0 hg (by omega)
    have hr := Nat.mod_lt (a2.toNat % ns.length + i) hl0
    have hidx : Int.tmod (wrap64 ((Int.tmod a2 (ns.length : Int)) + i)) (ns.length : Int) = (((a2.toNat % ns.length + i) % ns.length : Nat) : Int) := by
      have e1 : Int.tmod a2 (ns.length : Int) = ((a2.toNat % ns.length : Nat) : Int) := by
        rw [Int.tmod_eq_emod_of_nonneg h3]
        have : a2 = (a2.toNat : Int) := by omega
        rw [this]
        simp
      have hb := Nat.mod_lt a2.toNat hl0
      rw [e1, wrap_id (by omega) (by omega), Int.tmod_eq_emod_of_nonneg (by omega)]
      exact (Int.natCast_emod _ _).symm
    refine Ev.step (f := fun k => L_ClockTurns.l0 k ns a1 a2 (acc ++ [ns[(a2.toNat % ns.length + i) % ns.length]!]) ((i + 1 : Nat) : Int)) (fun k => ?_) (turns_loop m (i + 1) _ (by omega) (by simp [hacc]) (fun suffix => ?_))
    · rw [L_ClockTurns.l0, hidx, if_pos (by omega), if_neg (by omega), if_pos (by omega), if_pos (by omega), if_pos (by omega), rd_nat ns _ hr, wrap_id (x := (i : Int) + 1) (by omega) (by omega)]
      rfl
    · rw [List.append_assoc, hs, turnsS, List.singleton_append, List.cons.injEq]
      rw [show a2.toNat % ns.length + (i + 1) = (a2.toNat % ns.length + i) + 1 by omega, next_mod _ _ hl0]
      simp
end
theorem clockTurns (l0 : List Int) (a1 a2 : Int) : ∃ k, L_ClockTurns.f k l0 a1 a2 = some true := by
  by_cases g0 : (l0.length : Int) > 20
  · exact ⟨1, by rw [L_ClockTurns.f, if_pos g0, L_ClockTurns.j0, if_pos rfl, alike_rows, Option.bind_some, if_pos rfl, if_pos g0]⟩
  by_cases g1 : a1 < 0
  · exact ⟨1, by rw [L_ClockTurns.f, if_neg g0, if_pos g1, L_ClockTurns.j0, if_pos rfl, alike_rows, Option.bind_some, if_pos rfl, if_neg g0, if_pos g1]⟩
  by_cases g2 : a1 > 100
  · exact ⟨1, by rw [L_ClockTurns.f, if_neg g0, if_neg g1, if_pos g2, L_ClockTurns.j0, if_pos rfl, alike_rows, Option.bind_some, if_pos rfl, if_neg g0, if_neg g1, if_pos g2]⟩
  by_cases g3 : a2 < 0
  · exact ⟨1, by rw [L_ClockTurns.f, if_neg g0, if_neg g1, if_neg g2, if_pos g3, L_ClockTurns.j0, if_pos rfl, alike_rows, Option.bind_some, if_pos rfl, if_neg g0, if_neg g1, if_neg g2, decide_eq_true g3]⟩
  have hf : ∀ k, L_ClockTurns.f k l0 a1 a2 = (some (alikeR l0 [])).bind fun t147 => ((r18_Nodes.f k l0).bind fun t148 => (L_ClockTurns.j0 k l0 a1 a2 (t147 != t148))) := fun k => by
    rw [L_ClockTurns.f, if_neg g0, if_neg g1, if_neg g2, if_neg g3, clock_alike_f l0 [] (by omega) (by simp)]
  have hal : alikeR l0 [] = nodesB l0 := by
    unfold alikeR
    have : ∀ i, allTwo l0 [] i = true := fun i => by
      induction i with
      | zero => rfl
      | succ i ih => rw [allTwo, ih, Bool.true_and, List.all_eq_true]; intro y _; rfl
    rw [this, Bool.and_true]
  have hE : Ev (fun k => L_ClockTurns.f k l0 a1 a2) true := by
    refine Ev.congr hf ?_
    refine Ev.bind (f := fun k t147 => (r18_Nodes.f k l0).bind fun t148 => (L_ClockTurns.j0 k l0 a1 a2 (t147 != t148))) (Ev.now _) (Ev.bind (nodes_ref l0 (by omega)) ?_)
    rw [hal]
    have : (nodesB l0 != nodesB l0) = false := by simp
    rw [this]
    refine Ev.step (f := fun k => (r18_Nodes.f k l0).bind fun t150 => (if t150 = true then (L_ClockTurns.l0 k l0 a1 a2 ([] : List Int) 0) else ((L_alike.f).bind fun t151 => (some t151)))) (fun k => by rw [L_ClockTurns.j0, if_neg (by simp)]) ?_
    refine Ev.bind (nodes_ref l0 (by omega)) ?_
    cases hn : nodesB l0 with
    | false =>
      simp only [Bool.false_eq_true, if_false, alike_rows, Option.bind_some]
      exact Ev.now _
    | true =>
      simp only [if_true]
      exact turns_loop l0 a1 a2 hn (by omega) (by omega) (by omega) a1.toNat 0 [] (by omega) rfl (fun s => by simp)
  exact hE.rounds
end Go.Proofs.Ytnhceomdjlocaaa.Pure
