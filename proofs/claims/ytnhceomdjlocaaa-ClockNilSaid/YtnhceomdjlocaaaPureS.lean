/- What a watch makes of ticks, and what the document makes of them, agree: plain law. -/
import Derived.Test.YtnhceomdjlocaaaTell
namespace Go.Proofs.Ytnhceomdjlocaaa.Clock
open Go.RowKit Go.Proofs.YtnhceomdjlocaaaW.PrintWords Go.Proofs.YtnhceomdjlocaaaW.PrintLast Go.Proofs.YtnhceomdjlocaaaW.PrintMore
set_option linter.unusedVariables false
set_option linter.unusedSimpArgs false

/-- The numbers stay small. -/
def Sm (k : Int) (p : PairS) : Prop := (1 ≤ p.x ∧ p.x ≤ 7) ∧ (1 ≤ p.y ∧ p.y ≤ 7) ∧ (0 ≤ p.a ∧ p.a ≤ k) ∧ (0 ≤ p.b ∧ p.b ≤ k) ∧ (-3 * k ≤ p.l ∧ p.l ≤ 0) ∧ (-3 * k ≤ p.o ∧ p.o ≤ 0)
theorem Sm.small {k : Int} {p : PairS} (h : Sm k p) (hk : k ≤ 1000000) : Small p := by
  obtain ⟨h1, h2, h3, h4, h5, h6⟩ := h
  exact ⟨h1, h2, by omega, by omega, by omega, by omega⟩
theorem Sm.tell {k : Int} {p : PairS} (h : Sm k p) (n : Int) : Sm (k + 1) (tellP p n) := by
  obtain ⟨h1, h2, h3, h4, h5, h6⟩ := h
  unfold tellP mn
  (repeat' split) <;> (refine ⟨h1, h2, ?_, ?_, ?_, ?_⟩ <;> (try dsimp only) <;> (repeat' split) <;> omega)

/-- A stretch's counts, from a and b on. -/
def innerS (x y : Int) : Int → Int → List Int → Bool
  | _, _, [] => true
  | a, b, z :: l => if z = -x ∨ z = -y then true else
      if (if z = x then a + 1 else a) > 2 * (if z = y then b + 1 else b) + 2 ∨ (if z = y then b + 1 else b) > 2 * (if z = x then a + 1 else a) + 2 then false
      else innerS x y (if z = x then a + 1 else a) (if z = y then b + 1 else b) l
/-- Each stretch of two. -/
def twoS (x y : Int) : Bool → Bool → List Int → Bool
  | _, _, [] => true
  | u, v, z :: l => if z = -x then twoS x y (!u) v l else if z = -y then twoS x y u (!v) l else
      (if u && v then innerS x y 0 0 (z :: l) else true) && twoS x y u v l

def ok1 (x y : Int) : Int → List Int → Prop
  | _, [] => True
  | c, z :: l => z = -x ∨ z = -y ∨ (c + (if z = x then 1 else 0) - 2 * (if z = y then 1 else 0) ≤ 2 ∧ ok1 x y (c + (if z = x then 1 else 0) - 2 * (if z = y then 1 else 0)) l)
theorem ok1_mono (x y : Int) : ∀ (l : List Int) (c d : Int), c ≤ d → ok1 x y d l → ok1 x y c l
  | [], _, _, _, _ => trivial
  | z :: l, c, d, h, k => by
    rcases k with k | k | ⟨k1, k2⟩
    · exact .inl k
    · exact .inr (.inl k)
    · exact .inr (.inr ⟨by omega, ok1_mono x y l _ _ (by omega) k2⟩)
theorem inner_ok (x y : Int) : ∀ (l : List Int) (a b : Int), innerS x y a b l = true ↔ ok1 x y (a - 2 * b) l ∧ ok1 y x (b - 2 * a) l
  | [], _, _ => by simp [innerS, ok1]
  | z :: l, a, b => by
    unfold innerS ok1
    by_cases h : z = -x ∨ z = -y
    · rw [if_pos h]
      rcases h with h | h <;> simp [h]
    · rw [if_neg h]
      have hx : ¬ z = -x := fun e => h (.inl e)
      have hy : ¬ z = -y := fun e => h (.inr e)
      have ih := inner_ok x y l (if z = x then a + 1 else a) (if z = y then b + 1 else b)
      have e1 : (if z = x then a + 1 else a) - 2 * (if z = y then b + 1 else b) = a - 2 * b + (if z = x then 1 else 0) - 2 * (if z = y then 1 else 0) := by (repeat' split) <;> omega
      have e2 : (if z = y then b + 1 else b) - 2 * (if z = x then a + 1 else a) = b - 2 * a + (if z = y then 1 else 0) - 2 * (if z = x then 1 else 0) := by (repeat' split) <;> omega
      rw [e1, e2] at ih
      by_cases hc : (if z = x then a + 1 else a) > 2 * (if z = y then b + 1 else b) + 2 ∨ (if z = y then b + 1 else b) > 2 * (if z = x then a + 1 else a) + 2
      · rw [if_pos hc]
        constructor
        · intro e; cases e
        · rintro ⟨k1, k2⟩
          rcases k1 with k | k | ⟨k1, _⟩
          · exact absurd k hx
          · exact absurd k hy
          rcases k2 with k | k | ⟨k2, _⟩
          · exact absurd k hy
          · exact absurd k hx
          omega
      · rw [if_neg hc, ih]
        constructor
        · rintro ⟨k1, k2⟩
          exact ⟨.inr (.inr ⟨by omega, k1⟩), .inr (.inr ⟨by omega, k2⟩)⟩
        · rintro ⟨k1, k2⟩
          rcases k1 with k | k | ⟨_, k1⟩
          · exact absurd k hx
          · exact absurd k hy
          rcases k2 with k | k | ⟨_, k2⟩
          · exact absurd k hy
          · exact absurd k hx
          exact ⟨k1, k2⟩
theorem two_ok (x y : Int) (l : List Int) (h : twoS x y true true l = true) : ok1 x y 0 l ∧ ok1 y x 0 l := by
  cases l with
  | nil => exact ⟨trivial, trivial⟩
  | cons z l =>
    by_cases hx : z = -x
    · exact ⟨.inl hx, .inr (.inl hx)⟩
    by_cases hy : z = -y
    · exact ⟨.inr (.inl hy), .inl hy⟩
    unfold twoS at h
    rw [if_neg hx, if_neg hy] at h
    simp only [Bool.and_self, if_true, Bool.and_eq_true] at h
    simpa using (inner_ok x y (z :: l) 0 0).1 h.1

/-- A pair's ticks are alike just where each of its stretches is. -/
theorem run_two (l : List Int) : ∀ p : PairS, p.x ≠ p.y → p.x ≠ -p.y → p.l ≤ p.a - 2 * p.b → p.o ≤ p.b - 2 * p.a →
    ((l.foldl tellP p).u = false ↔ p.u = false ∧ twoS p.x p.y (!p.xd) (!p.yd) l = true ∧ (p.xd = false → p.yd = false → ok1 p.x p.y (p.a - 2 * p.b - p.l) l ∧ ok1 p.y p.x (p.b - 2 * p.a - p.o) l)) := by
  induction l with
  | nil => intro p _ _ _ _; simp [twoS, ok1]
  | cons z l ih =>
    intro p hne hne2 h1 h2
    obtain ⟨x, y, xd, yd, a, b, lo, o, u⟩ := p
    dsimp only at hne hne2 h1 h2 ⊢
    rw [List.foldl_cons]
    by_cases hx : z = -x
    · have e : tellP ⟨x, y, xd, yd, a, b, lo, o, u⟩ z = ⟨x, y, !xd, yd, 0, 0, 0, 0, u⟩ := by simp [tellP, hx]
      rw [e, ih _ hne hne2 (by simp) (by simp)]
      dsimp only
      have e2 : twoS x y (!xd) (!yd) (z :: l) = twoS x y (!!xd) (!yd) l := by simp [twoS, hx]
      rw [e2]
      have e3 : ok1 x y (a - 2 * b - lo) (z :: l) := .inl hx
      have e4 : ok1 y x (b - 2 * a - o) (z :: l) := .inr (.inl hx)
      constructor
      · rintro ⟨k1, k2, _⟩; exact ⟨k1, k2, fun _ _ => ⟨e3, e4⟩⟩
      · rintro ⟨k1, k2, _⟩
        refine ⟨k1, k2, fun g1 g2 => ?_⟩
        rw [g1, g2] at k2
        simpa using two_ok x y l k2
    by_cases hy : z = -y
    · have e : tellP ⟨x, y, xd, yd, a, b, lo, o, u⟩ z = ⟨x, y, xd, !yd, 0, 0, 0, 0, u⟩ := by
        unfold tellP
        dsimp only
        rw [if_neg hx, if_pos hy]
      rw [e, ih _ hne hne2 (by simp) (by simp)]
      dsimp only
      have e2 : twoS x y (!xd) (!yd) (z :: l) = twoS x y (!xd) (!!yd) l := by
        conv => lhs; unfold twoS
        rw [if_neg hx, if_pos hy]
      rw [e2]
      have e3 : ok1 x y (a - 2 * b - lo) (z :: l) := .inr (.inl hy)
      have e4 : ok1 y x (b - 2 * a - o) (z :: l) := .inl hy
      constructor
      · rintro ⟨k1, k2, _⟩; exact ⟨k1, k2, fun _ _ => ⟨e3, e4⟩⟩
      · rintro ⟨k1, k2, _⟩
        refine ⟨k1, k2, fun g1 g2 => ?_⟩
        rw [g1, g2] at k2
        simpa using two_ok x y l k2
    by_cases hd : (xd || yd) = true
    · have e : tellP ⟨x, y, xd, yd, a, b, lo, o, u⟩ z = ⟨x, y, xd, yd, a, b, lo, o, u⟩ := by
        unfold tellP
        dsimp only
        rw [if_neg hx, if_neg hy, if_pos hd]
      rw [e, ih _ hne hne2 h1 h2]
      dsimp only
      have e2 : twoS x y (!xd) (!yd) (z :: l) = twoS x y (!xd) (!yd) l := by
        have : (!xd && !yd) = false := by cases xd <;> cases yd <;> simp_all
        conv => lhs; unfold twoS
        rw [if_neg hx, if_neg hy, this]
        simp
      rw [e2]
      constructor
      · rintro ⟨k1, k2, _⟩; exact ⟨k1, k2, fun g1 g2 => absurd hd (by simp [g1, g2])⟩
      · rintro ⟨k1, k2, _⟩; exact ⟨k1, k2, fun g1 g2 => absurd hd (by simp [g1, g2])⟩
    have hxd : xd = false := by cases xd <;> simp_all
    have hyd : yd = false := by cases yd <;> simp_all
    subst hxd hyd
    have ha : (if z = x then b else if z = y then b + 1 else b) = (if z = y then b + 1 else b) := by
      by_cases g : z = x
      · rw [if_pos g, if_neg (by rw [g]; exact hne)]
      · rw [if_neg g]
    have e : tellP ⟨x, y, false, false, a, b, lo, o, u⟩ z = ⟨x, y, false, false, (if z = x then a + 1 else a), (if z = y then b + 1 else b),
        mn lo ((if z = x then a + 1 else a) - 2 * (if z = y then b + 1 else b)), mn o ((if z = y then b + 1 else b) - 2 * (if z = x then a + 1 else a)),
        u || decide ((if z = x then a + 1 else a) - 2 * (if z = y then b + 1 else b) - lo > 2) || decide ((if z = y then b + 1 else b) - 2 * (if z = x then a + 1 else a) - o > 2)⟩ := by
      unfold tellP
      dsimp only
      rw [if_neg hx, if_neg hy, ha]
      simp
    rw [e]
    have e2 : twoS x y true true (z :: l) = (innerS x y 0 0 (z :: l) && twoS x y true true l) := by
      conv => lhs; unfold twoS
      rw [if_neg hx, if_neg hy]
      simp
    have mn1 : ∀ c d : Int, mn c d ≤ d := fun c d => by unfold mn; split <;> omega
    rw [ih _ hne hne2 (mn1 _ _) (mn1 _ _)]
    dsimp only
    simp only [Bool.not_false, forall_const, Bool.or_eq_false_iff, decide_eq_false_iff_not]
    rw [e2, Bool.and_eq_true, inner_ok]
    have u1 : ∀ c : Int, ok1 x y c (z :: l) ↔ (c + (if z = x then 1 else 0) - 2 * (if z = y then 1 else 0) ≤ 2 ∧ ok1 x y (c + (if z = x then 1 else 0) - 2 * (if z = y then 1 else 0)) l) := fun c => by
      conv => lhs; unfold ok1
      simp [hx, hy]
    have u2 : ∀ c : Int, ok1 y x c (z :: l) ↔ (c + (if z = y then 1 else 0) - 2 * (if z = x then 1 else 0) ≤ 2 ∧ ok1 y x (c + (if z = y then 1 else 0) - 2 * (if z = x then 1 else 0)) l) := fun c => by
      conv => lhs; unfold ok1
      simp [hx, hy]
    rw [u1, u2, u1, u2]
    have q1 : (if z = x then a + 1 else a) - 2 * (if z = y then b + 1 else b) = a - 2 * b + (if z = x then 1 else 0) - 2 * (if z = y then 1 else 0) := by (repeat' split) <;> omega
    have q2 : (if z = y then b + 1 else b) - 2 * (if z = x then a + 1 else a) = b - 2 * a + (if z = y then 1 else 0) - 2 * (if z = x then 1 else 0) := by (repeat' split) <;> omega
    rw [q1, q2]
    have r1 : (if z = x then (1 : Int) else 0) - 2 * (if z = y then 1 else 0) ≤ 1 := by (repeat' split) <;> omega
    have r2 : (if z = y then (1 : Int) else 0) - 2 * (if z = x then 1 else 0) ≤ 1 := by (repeat' split) <;> omega
    generalize hs1 : (if z = x then (1 : Int) else 0) = s at *
    generalize hs2 : (if z = y then (1 : Int) else 0) = t at *
    clear ih e e2 q1 q2 u1 u2 ha hs1 hs2 mn1
    constructor
    · rintro ⟨⟨⟨k1, k2⟩, k3⟩, k4, k5, k6⟩
      have t1 : mn lo (a - 2 * b + s - 2 * t) ≤ lo := by unfold mn; split <;> omega
      have t2 : mn o (b - 2 * a + t - 2 * s) ≤ o := by unfold mn; split <;> omega
      refine ⟨k1, ⟨⟨⟨by omega, ?_⟩, by omega, ?_⟩, k4⟩, ⟨by omega, ?_⟩, by omega, ?_⟩
      · exact ok1_mono x y l _ _ (by omega) k5
      · exact ok1_mono y x l _ _ (by omega) k6
      · exact ok1_mono x y l _ _ (by omega) k5
      · exact ok1_mono y x l _ _ (by omega) k6
    · rintro ⟨k1, ⟨⟨⟨_, k2⟩, _, k3⟩, k4⟩, ⟨k5, k6⟩, k7, k8⟩
      obtain ⟨z1, z2⟩ := two_ok x y l k4
      refine ⟨⟨⟨k1, by omega⟩, by omega⟩, k4, ?_, ?_⟩
      · unfold mn
        split
        · exact ok1_mono x y l _ _ (by omega) z1
        · exact ok1_mono x y l _ _ (by omega) k6
      · unfold mn
        split
        · exact ok1_mono y x l _ _ (by omega) z2
        · exact ok1_mono y x l _ _ (by omega) k8
/-- A pair as it is made. -/
def pair0 (x y : Int) : PairS := ⟨x, y, false, false, 0, 0, 0, 0, false⟩
theorem run_two0 (l : List Int) (x y : Int) (hne : x ≠ y) (hne2 : x ≠ -y) : (!(l.foldl tellP (pair0 x y)).u) = twoS x y true true l := by
  have h := run_two l (pair0 x y) hne hne2 (by simp [pair0]) (by simp [pair0])
  simp only [pair0] at h
  have h2 : ((l.foldl tellP (pair0 x y)).u = false ↔ twoS x y true true l = true) := by
    rw [pair0, h]
    constructor
    · exact fun k => k.2.1
    · intro k
      have k2 := two_ok x y l k
      exact ⟨by trivial, k, fun _ _ => by simpa using k2⟩
  cases h3 : twoS x y true true l <;> cases h4 : (l.foldl tellP (pair0 x y)).u <;> simp_all
end Go.Proofs.Ytnhceomdjlocaaa.Clock
