/- A watch's pairs and ticks behind what it was told, and the document's answer. -/
import Derived.Test.YtnhceomdjlocaaaRefs2
import Derived.Test.YtnhceomdjlocaaaNew
namespace Go.Proofs.Ytnhceomdjlocaaa.Clock
open Go.RowKit Go.Proofs.Ytnhceomdjlocaaa.PAll Go.Proofs.YtnhceomdjlocaaaW.PrintWords Go.Proofs.YtnhceomdjlocaaaW.PrintLast Go.Proofs.YtnhceomdjlocaaaW.PrintMore
set_option linter.unusedVariables false
set_option linter.unusedSimpArgs false

/-- Is it a node's tick, or its stop? -/
def inN (ns : List Int) (x : Int) : Bool := ns.any (isN x)
/-- The pairs behind what was told. -/
def psOf (ns told : List Int) : List PairS := (pairsTo ns ns.length).map (fun p => told.foldl tellP p)
theorem psOf_snoc (ns told : List Int) (x : Int) : psOf ns (told ++ [x]) = (psOf ns told).map (tellP · x) := by
  simp [psOf, List.foldl_append]
theorem psOf_length (ns told : List Int) : (psOf ns told).length = (pairsTo ns ns.length).length := by simp [psOf]

theorem mem_take_get {ns : List Int} {i : Nat} {y : Int} (h : y ∈ ns.take i) : ∃ j, j < i ∧ j < ns.length ∧ y = ns[j]! := by
  obtain ⟨j, hj, rfl⟩ := List.mem_iff_getElem.1 h
  rw [List.length_take] at hj
  refine ⟨j, by omega, by omega, ?_⟩
  rw [List.getElem_take, getElem!_pos ns j (by omega)]
theorem pairs_all (ns told : List Int) (hn : goN 0 ns = true) : ∀ i, i ≤ ns.length → ((pairsTo ns i).map (fun p => told.foldl tellP p)).all (fun p => !p.u) = allTwo ns told i
  | 0, _ => rfl
  | i + 1, hi => by
    rw [pairsTo, List.map_append, List.all_append, pairs_all ns told hn i (by omega), allTwo]
    congr 1
    rw [List.map_map, List.all_map]
    refine Bool.eq_iff_iff.2 ?_
    rw [List.all_eq_true, List.all_eq_true]
    constructor
    · intro h y hy
      have := h y hy
      obtain ⟨j, h1, h2, rfl⟩ := mem_take_get hy
      have b1 := goN_lt ns 0 hn j i h1 (by omega)
      have b2 := goN_get ns 0 hn j h2
      rw [← run_two0 told ns[i]! ns[j]! (by omega) (by omega)]
      exact this
    · intro h y hy
      have := h y hy
      obtain ⟨j, h1, h2, rfl⟩ := mem_take_get hy
      have b1 := goN_lt ns 0 hn j i h1 (by omega)
      have b2 := goN_get ns 0 hn j h2
      rw [← run_two0 told ns[i]! ns[j]! (by omega) (by omega)] at this
      exact this
theorem any_all (ps : List PairS) : (!ps.any (·.u)) = ps.all (fun p => !p.u) := by
  induction ps with
  | nil => rfl
  | cons p ps ih => simp only [List.any_cons, List.all_cons, Bool.not_or, ih]
theorem psOf_alike (ns told : List Int) (hn : goN 0 ns = true) : (!(psOf ns told).any (·.u)) = allTwo ns told ns.length := by
  rw [any_all]; exact pairs_all ns told hn ns.length (Nat.le_refl _)

theorem pairsTo_sm (ns : List Int) (hn : goN 0 ns = true) : ∀ i, i ≤ ns.length → ∀ p ∈ pairsTo ns i, Sm 0 p
  | 0, _, p, hp => by simp [pairsTo] at hp
  | i + 1, hi, p, hp => by
    rw [pairsTo, List.mem_append] at hp
    rcases hp with hp | hp
    · exact pairsTo_sm ns hn i (by omega) p hp
    · obtain ⟨y, hy, rfl⟩ := List.mem_map.1 hp
      obtain ⟨j, h1, h2, rfl⟩ := mem_take_get hy
      have b1 := goN_get ns 0 hn i (by omega)
      have b2 := goN_get ns 0 hn j h2
      exact ⟨⟨by show 1 ≤ ns[i]!; omega, b1.2⟩, ⟨by show 1 ≤ ns[j]!; omega, b2.2⟩, ⟨Int.le_refl _, Int.le_refl _⟩, ⟨Int.le_refl _, Int.le_refl _⟩, ⟨by simp [pair0], Int.le_refl _⟩, ⟨by simp [pair0], Int.le_refl _⟩⟩
theorem fold_sm : ∀ (l : List Int) (k : Int) (p : PairS), Sm k p → Sm (k + l.length) (l.foldl tellP p)
  | [], k, p, h => by simpa using h
  | z :: l, k, p, h => by
    have := fold_sm l (k + 1) (tellP p z) (h.tell z)
    rw [List.foldl_cons, List.length_cons]
    rw [show k + ((l.length + 1 : Nat) : Int) = k + 1 + l.length by omega]
    exact this
theorem psOf_small (ns told : List Int) (hn : goN 0 ns = true) (ht : told.length ≤ 1000000) : ∀ i, i < (psOf ns told).length → Small (psOf ns told)[i]! := fun i hi => by
  rw [getElem!_pos _ i hi]
  have hm : (psOf ns told)[i] ∈ psOf ns told := List.getElem_mem hi
  obtain ⟨p, hp, he⟩ := List.mem_map.1 hm
  rw [← he]
  exact (fold_sm told 0 p (pairsTo_sm ns hn _ (Nat.le_refl _) p hp)).small (by omega)

/-! ### what is of no node counts for nothing -/
theorem inner_filter (x y : Int) (q : Int → Bool) (hq : ∀ z, q z = false → z ≠ x ∧ z ≠ y ∧ z ≠ -x ∧ z ≠ -y) : ∀ (l : List Int) (a b : Int), a ≤ 2 * b + 2 → b ≤ 2 * a + 2 → innerS x y a b (l.filter q) = innerS x y a b l
  | [], _, _, _, _ => rfl
  | z :: l, a, b, h1, h2 => by
    cases hz : q z with
    | true =>
      rw [List.filter_cons_of_pos hz, innerS, innerS]
      by_cases hs : z = -x ∨ z = -y
      · rw [if_pos hs, if_pos hs]
      · rw [if_neg hs, if_neg hs]
        by_cases hc : (if z = x then a + 1 else a) > 2 * (if z = y then b + 1 else b) + 2 ∨ (if z = y then b + 1 else b) > 2 * (if z = x then a + 1 else a) + 2
        · rw [if_pos hc, if_pos hc]
        · rw [if_neg hc, if_neg hc]
          exact inner_filter x y q hq l _ _ (by omega) (by omega)
    | false =>
      obtain ⟨g1, g2, g3, g4⟩ := hq z hz
      rw [List.filter_cons_of_neg (by simp [hz])]
      conv => rhs; rw [innerS]
      rw [if_neg (by rintro (k | k) <;> contradiction), if_neg g1, if_neg g2, if_neg (by omega)]
      exact inner_filter x y q hq l a b h1 h2
theorem two_filter (x y : Int) (q : Int → Bool) (hq : ∀ z, q z = false → z ≠ x ∧ z ≠ y ∧ z ≠ -x ∧ z ≠ -y) : ∀ (l : List Int) (u v : Bool), twoS x y u v (l.filter q) = twoS x y u v l
  | [], _, _ => rfl
  | z :: l, u, v => by
    cases hz : q z with
    | true =>
      have hi := inner_filter x y q hq (z :: l) 0 0 (by omega) (by omega)
      rw [List.filter_cons_of_pos hz] at hi ⊢
      rw [twoS, twoS, hi, two_filter x y q hq l, two_filter x y q hq l, two_filter x y q hq l]
    | false =>
      obtain ⟨g1, g2, g3, g4⟩ := hq z hz
      rw [List.filter_cons_of_neg (by simp [hz]), two_filter x y q hq l u v]
      conv => rhs; rw [twoS]
      rw [if_neg g3, if_neg g4]
      by_cases huv : (u && v) = true
      · rw [if_pos huv]
        obtain ⟨rfl, rfl⟩ : u = true ∧ v = true := by simpa using huv
        cases ht : twoS x y true true l with
        | false => simp
        | true =>
          have h0 := two_ok x y l ht
          have h1 : innerS x y 0 0 l = true := (inner_ok x y l 0 0).2 (by simpa using h0)
          rw [innerS, if_neg (by rintro (k | k) <;> contradiction), if_neg g1, if_neg g2, if_neg (by omega), h1]
          rfl
      · rw [if_neg huv, Bool.true_and]
theorem inN_false {ns : List Int} {z : Int} (h : inN ns z = false) : ∀ i, i < ns.length → z ≠ ns[i]! ∧ z ≠ -ns[i]! := fun i hi => by
  have h1 : isN z ns[i] = false := by
    simp only [inN, List.any_eq_false] at h
    simpa using h ns[i] (List.getElem_mem hi)
  rw [getElem!_pos ns i hi]
  simp only [isN, Bool.or_eq_false_iff, beq_eq_false_iff_ne] at h1
  exact ⟨fun e => h1.1 e.symm, fun e => h1.2 e.symm⟩
theorem allTwo_filter (ns l : List Int) : ∀ i, i ≤ ns.length → allTwo ns (l.filter (inN ns)) i = allTwo ns l i
  | 0, _ => rfl
  | i + 1, hi => by
    rw [allTwo, allTwo, allTwo_filter ns l i (by omega)]
    congr 1
    refine Bool.eq_iff_iff.2 ?_
    rw [List.all_eq_true, List.all_eq_true]
    have key : ∀ y ∈ ns.take i, twoS ns[i]! y true true (l.filter (inN ns)) = twoS ns[i]! y true true l := fun y hy => by
      obtain ⟨j, h1, h2, rfl⟩ := mem_take_get hy
      refine two_filter _ _ _ (fun z hz => ?_) l true true
      have k1 := inN_false hz i (by omega)
      have k2 := inN_false hz j h2
      exact ⟨k1.1, k2.1, k1.2, k2.2⟩
    constructor
    · intro h y hy; rw [← key y hy]; exact h y hy
    · intro h y hy; rw [key y hy]; exact h y hy

/-! ### ticks -/
theorem ticksS_snoc (a : Int) : ∀ (l : List Int) (n x : Int), ticksS a n (l ++ [x]) = if x = -a then 0 else if x = a then ticksS a n l + 1 else ticksS a n l
  | [], n, x => rfl
  | z :: l, n, x => ticksS_snoc a l _ x
theorem ticksS_bound (a : Int) : ∀ (l : List Int) (n : Int), 0 ≤ n → 0 ≤ ticksS a n l ∧ ticksS a n l ≤ n + l.length
  | [], n, h => by simp [ticksS, h]
  | z :: l, n, h => by
    have h0 : 0 ≤ (if z = -a then 0 else if z = a then n + 1 else n) := by (repeat' split) <;> omega
    have h2 : (if z = -a then 0 else if z = a then n + 1 else n) ≤ n + 1 := by (repeat' split) <;> omega
    have := ticksS_bound a l (if z = -a then 0 else if z = a then n + 1 else n) h0
    rw [ticksS, List.length_cons]
    refine ⟨this.1, Int.le_trans this.2 ?_⟩
    omega
/-- The ticks of each node behind what was told. -/
def tsOf (ns told : List Int) : List Int := ns.map (fun n => ticksS n 0 told)
theorem tsOf_get (ns told : List Int) (i : Nat) (h : i < ns.length) : (tsOf ns told)[i]! = ticksS ns[i]! 0 told := by
  rw [getElem!_pos _ i (by simpa [tsOf] using h), getElem!_pos ns i h]
  simp [tsOf]
theorem tsOf_snoc (ns told : List Int) (x : Int) (hn : goN 0 ns = true) (j : Nat) (hj : j < ns.length) (hx : isN x ns[j]! = true) :
    (tsOf ns told).set j (if x > 0 then (tsOf ns told)[j]! + 1 else 0) = tsOf ns (told ++ [x]) := by
  rw [tsOf_get ns told j hj]
  refine List.ext_getElem (by simp [tsOf]) (fun i h1 h2 => ?_)
  have hi : i < ns.length := by simpa [tsOf] using h2
  have bj := goN_get ns 0 hn j hj
  have bi := goN_get ns 0 hn i hi
  rw [List.getElem_set]
  have e : (tsOf ns (told ++ [x]))[i] = ticksS ns[i]! 0 (told ++ [x]) := by rw [getElem!_pos ns i hi]; simp [tsOf]
  have e2 : ∀ h, (tsOf ns told)[i]'h = ticksS ns[i]! 0 told := fun h => by rw [getElem!_pos ns i hi]; simp [tsOf]
  rw [e, e2, ticksS_snoc]
  simp only [isN, Bool.or_eq_true, beq_iff_eq] at hx
  by_cases g : j = i
  · subst g
    rw [if_pos rfl]
    rcases hx with hx | hx
    · rw [if_pos (by omega), if_neg (by omega), if_pos hx.symm]
    · rw [if_neg (by omega), if_pos hx.symm]
  · rw [if_neg g]
    have hne : ns[j]! ≠ ns[i]! := by
      rcases Nat.lt_or_gt_of_ne g with k | k
      · have := goN_lt ns 0 hn j i k hi; omega
      · have := goN_lt ns 0 hn i j k hj; omega
    rw [if_neg (by omega), if_neg (by omega)]
end Go.Proofs.Ytnhceomdjlocaaa.Clock
