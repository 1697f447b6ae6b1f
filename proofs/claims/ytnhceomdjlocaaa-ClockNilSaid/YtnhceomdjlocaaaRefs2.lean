/- The document's answer on two nodes, and on all, told plainly. -/
import Derived.Test.YtnhceomdjlocaaaRefs
namespace Go.Proofs.Ytnhceomdjlocaaa.Clock
open Go.RowKit Go.Proofs.Ytnhceomdjlocaaa.PAll Go.Proofs.YtnhceomdjlocaaaW.PrintWords Go.Proofs.YtnhceomdjlocaaaW.PrintLast Go.Proofs.YtnhceomdjlocaaaW.PrintMore
set_option linter.unusedVariables false
set_option linter.unusedSimpArgs false

theorem two_down (l : List Int) (x y : Int) (u v : Bool) (i : Nat) (R : Bool) (huv : (u && v) = false) (hl : l.length ≤ 1000000) (hi : i < l.length) (h : Ev (fun k => r18_two.l0 k l x y u v ((i + 1 : Nat) : Int)) R) (a b : Int) (j : Int) :
    Ev (fun k => r18_two.l1 k l x y u v i a b j) R := by
  refine Ev.step (f := fun k => r18_two.j2 k l x y u v i a b j false) (fun k => ?_) ?_
  · rw [r18_two.l1]
    cases u <;> cases v <;> simp_all
  · refine Ev.step (f := fun k => r18_two.l0 k l x y u v ((i + 1 : Nat) : Int)) (fun k => ?_) h
    rw [r18_two.j2, if_neg (by simp), wrap_id (by omega) (by omega)]
    rfl
theorem two_in (l : List Int) (x y : Int) (i : Nat) (R : Bool) (hx : 1 ≤ x ∧ x ≤ 7) (hy : 1 ≤ y ∧ y ≤ 7) (hl : l.length ≤ 1000000) (hi : i < l.length) (h : Ev (fun k => r18_two.l0 k l x y true true ((i + 1 : Nat) : Int)) R) :
    ∀ (s : List Int) (j : Nat) (a b : Int), l.drop j = s → 0 ≤ a → a ≤ j → 0 ≤ b → b ≤ j → Ev (fun k => r18_two.l1 k l x y true true i a b j) (innerS x y a b s && R)
  | [], j, a, b, hs, _, _, _, _ => by
    have hs := drop_nil hs
    have e : (innerS x y a b [] && R) = R := by simp [innerS]
    rw [e]
    refine Ev.step (f := fun k => r18_two.j2 k l x y true true i a b j false) (fun k => ?_) ?_
    · rw [r18_two.l1, if_pos rfl, if_pos rfl, if_neg (by omega)]
    · refine Ev.step (f := fun k => r18_two.l0 k l x y true true ((i + 1 : Nat) : Int)) (fun k => ?_) h
      rw [r18_two.j2, if_neg (by simp), wrap_id (by omega) (by omega)]
      rfl
  | z :: t, j, a, b, hs, ha0, ha1, hb0, hb1 => by
    obtain ⟨h1, h2, h3⟩ := drop_cons hs
    have wx : wrap64 (-x) = -x := wrap_id (by omega) (by omega)
    have wy : wrap64 (-y) = -y := wrap_id (by omega) (by omega)
    by_cases hst : z = -x ∨ z = -y
    · have e : (innerS x y a b (z :: t) && R) = R := by rw [innerS, if_pos hst]; simp
      rw [e]
      refine Ev.step (f := fun k => r18_two.j2 k l x y true true i a b j false) (fun k => ?_) ?_
      · rw [r18_two.l1, if_pos rfl, if_pos rfl, if_pos (by omega), if_pos (by omega), h2, wx, wy]
        by_cases g : z = -x
        · rw [if_pos g]
        · have g2 : z = -y := hst.resolve_left g
          rw [if_neg g]
          simp [g2]
      · refine Ev.step (f := fun k => r18_two.l0 k l x y true true ((i + 1 : Nat) : Int)) (fun k => ?_) h
        rw [r18_two.j2, if_neg (by simp), wrap_id (by omega) (by omega)]
        rfl
    · have gx : ¬ z = -x := fun e => hst (.inl e)
      have gy : ¬ z = -y := fun e => hst (.inr e)
      have e : innerS x y a b (z :: t) = if (if z = x then a + 1 else a) > 2 * (if z = y then b + 1 else b) + 2 ∨ (if z = y then b + 1 else b) > 2 * (if z = x then a + 1 else a) + 2 then false else innerS x y (if z = x then a + 1 else a) (if z = y then b + 1 else b) t := by rw [innerS, if_neg hst]
      rw [e]
      have ba : 0 ≤ (if z = x then a + 1 else a) ∧ (if z = x then a + 1 else a) ≤ (j : Int) + 1 := by split <;> omega
      have bb : 0 ≤ (if z = y then b + 1 else b) ∧ (if z = y then b + 1 else b) ≤ (j : Int) + 1 := by split <;> omega
      refine Ev.step (f := fun k => r18_two.j2 k l x y true true i a b j true) (fun k => ?_) ?_
      · rw [r18_two.l1, if_pos rfl, if_pos rfl, if_pos (by omega), if_pos (by omega), h2, wx, wy, if_neg gx, show (z != -y) = true from bne_iff_ne.2 gy]
      refine Ev.step (f := fun k => r18_two.j3 k l x y true true i (if z = x then a + 1 else a) b j) (fun k => ?_) ?_
      · rw [r18_two.j2, if_pos rfl, if_pos (by omega), if_pos (by omega), h2, wrap_id (x := a + 1) (by omega) (by omega)]
        by_cases g : z = x
        · rw [if_pos g, if_pos g]
        · rw [if_neg g, if_neg g]
      generalize hA : (if z = x then a + 1 else a) = A at *
      have hj3 : ∀ k, r18_two.j3 (k + 1) l x y true true i A b j = if A > 2 * (if z = y then b + 1 else b) + 2 then some false else if (if z = y then b + 1 else b) > 2 * A + 2 then some false else r18_two.l1 k l x y true true i A (if z = y then b + 1 else b) ((j + 1 : Nat) : Int) := fun k => by
        rw [r18_two.j3, if_pos (by omega), if_pos (by omega), h2, wrap_id (x := b + 1) (by omega) (by omega), wrap_id (x := 2 * (b + 1)) (by omega) (by omega), wrap_id (x := 2 * (b + 1) + 2) (by omega) (by omega), wrap_id (x := 2 * A) (by omega) (by omega),
          wrap_id (x := 2 * A + 2) (by omega) (by omega), wrap_id (x := 2 * b) (by omega) (by omega), wrap_id (x := 2 * b + 2) (by omega) (by omega), wrap_id (x := (j : Int) + 1) (by omega) (by omega)]
        by_cases g : z = y
        · rw [if_pos g, if_pos g]; rfl
        · rw [if_neg g, if_neg g]; rfl
      generalize hB : (if z = y then b + 1 else b) = B at *
      by_cases c1 : A > 2 * B + 2
      · rw [if_pos (.inl c1)]
        refine Ev.step (f := fun _ => some false) (fun k => ?_) (Ev.now _)
        rw [hj3, if_pos c1]
      by_cases c2 : B > 2 * A + 2
      · rw [if_pos (.inr c2)]
        refine Ev.step (f := fun _ => some false) (fun k => ?_) (Ev.now _)
        rw [hj3, if_neg c1, if_pos c2]
      rw [if_neg (by rintro (k | k) <;> omega)]
      refine Ev.step (f := fun k => r18_two.l1 k l x y true true i A B ((j + 1 : Nat) : Int)) (fun k => ?_) (two_in l x y i R hx hy hl hi h t (j + 1) A B h3 (by omega) (by omega) (by omega) (by omega))
      rw [hj3, if_neg c1, if_neg c2]
theorem two_l0 (l : List Int) (x y : Int) (hx : 1 ≤ x ∧ x ≤ 7) (hy : 1 ≤ y ∧ y ≤ 7) (hl : l.length ≤ 1000000) : ∀ (s : List Int) (i : Nat) (u v : Bool), l.drop i = s → Ev (fun k => r18_two.l0 k l x y u v i) (twoS x y u v s)
  | [], i, u, v, h => by
    have h := drop_nil h
    refine Ev.step (f := fun _ => some (twoS x y u v [])) (fun k => ?_) (Ev.now _)
    rw [r18_two.l0, if_neg (by omega)]
    rfl
  | z :: t, i, u, v, h => by
    obtain ⟨h1, h2, h3⟩ := drop_cons h
    have wx : wrap64 (-x) = -x := wrap_id (by omega) (by omega)
    have wy : wrap64 (-y) = -y := wrap_id (by omega) (by omega)
    have wi : wrap64 ((i : Int) + 1) = ((i + 1 : Nat) : Int) := wrap_id (by omega) (by omega)
    by_cases gx : z = -x
    · have e : twoS x y u v (z :: t) = twoS x y (!u) v t := by rw [twoS, if_pos gx]
      rw [e]
      refine Ev.step (f := fun k => r18_two.l0 k l x y (!u) v ((i + 1 : Nat) : Int)) (fun k => ?_) (two_l0 l x y hx hy hl t (i + 1) (!u) v h3)
      rw [r18_two.l0, if_pos (by omega), if_pos (by omega), h2, wx, if_pos gx, wi]
    by_cases gy : z = -y
    · have e : twoS x y u v (z :: t) = twoS x y u (!v) t := by rw [twoS, if_neg gx, if_pos gy]
      rw [e]
      refine Ev.step (f := fun k => r18_two.l0 k l x y u (!v) ((i + 1 : Nat) : Int)) (fun k => ?_) (two_l0 l x y hx hy hl t (i + 1) u (!v) h3)
      rw [r18_two.l0, if_pos (by omega), if_pos (by omega), h2, wx, wy, if_neg gx, if_pos gy, wi]
    have e : twoS x y u v (z :: t) = ((if u && v then innerS x y 0 0 (z :: t) else true) && twoS x y u v t) := by rw [twoS, if_neg gx, if_neg gy]
    rw [e]
    have ih := two_l0 l x y hx hy hl t (i + 1) u v h3
    refine Ev.step (f := fun k => r18_two.l1 k l x y u v i 0 0 i) (fun k => ?_) ?_
    · rw [r18_two.l0, if_pos (by omega), if_pos (by omega), h2, wx, wy, if_neg gx, if_neg gy]
    by_cases huv : (u && v) = true
    · rw [if_pos huv]
      obtain ⟨rfl, rfl⟩ : u = true ∧ v = true := by simpa using huv
      exact two_in l x y i _ hx hy hl h1 ih (z :: t) i 0 0 h (by omega) (by omega) (by omega) (by omega)
    · rw [if_neg huv, Bool.true_and]
      exact two_down l x y u v i _ (by simpa using huv) hl h1 ih 0 0 i
theorem two_ref (l : List Int) (x y : Int) (hx : 1 ≤ x ∧ x ≤ 7) (hy : 1 ≤ y ∧ y ≤ 7) (hl : l.length ≤ 1000000) : Ev (fun k => r18_two.f k l x y) (twoS x y true true l) := two_l0 l x y hx hy hl l 0 true true rfl

/-- Nodes are between 1 and 7. -/
theorem goN_get : ∀ (l : List Int) (was : Int), goN was l = true → ∀ j, j < l.length → was < l[j]! ∧ l[j]! ≤ 7
  | z :: t, was, h, j, hj => by
    simp only [goN, Bool.and_eq_true, decide_eq_true_eq] at h
    cases j with
    | zero => exact ⟨by simpa using h.1.1, by simpa using h.1.2⟩
    | succ j =>
      have := goN_get t z h.2 j (by simpa using hj)
      simp only [List.getElem!_cons_succ]
      omega
theorem goN_lt : ∀ (l : List Int) (was : Int), goN was l = true → ∀ i j, i < j → j < l.length → l[i]! < l[j]!
  | z :: t, was, h, i, j, hij, hj => by
    simp only [goN, Bool.and_eq_true, decide_eq_true_eq] at h
    cases j with
    | zero => omega
    | succ j =>
      cases i with
      | zero => simpa using (goN_get t z h.2 j (by simpa using hj)).1
      | succ i => simpa using goN_lt t z h.2 i j (by omega) (by simpa using hj)
theorem goN_length : ∀ (l : List Int) (was : Int), goN was l = true → was ≤ 7 → (l.length : Int) ≤ 7 - was
  | [], was, _, h => by simp; omega
  | z :: t, was, h, _ => by
    simp only [goN, Bool.and_eq_true, decide_eq_true_eq] at h
    have := goN_length t z h.2 (by omega)
    simp only [List.length_cons]
    omega
theorem nodesB_iff {l : List Int} : nodesB l = true ↔ goN 0 l = true ∧ 0 < l.length := by simp [nodesB]

/-- Each two of nodes. -/
def allTwo (ns l : List Int) : Nat → Bool
  | 0 => true
  | i + 1 => allTwo ns l i && (ns.take i).all (fun y => twoS ns[i]! y true true l)
/-- P18.1, told plainly. -/
def alikeR (ns l : List Int) : Bool := nodesB ns && allTwo ns l ns.length
theorem rd_nat (l : List Int) (i : Nat) (h : i < l.length) : rd l (i : Int) = l[i]! := by simp [rd, List.getElem?_eq_getElem h, getElem!_pos l i h]
/-- From the i-th on. -/
def fromTwo (ns l : List Int) : Nat → Nat → Bool
  | 0, _ => true
  | m + 1, i => (ns.take i).all (fun y => twoS ns[i]! y true true l) && fromTwo ns l m (i + 1)
theorem fromTwo_all (ns l : List Int) : ∀ m i, (allTwo ns l i && fromTwo ns l m i) = allTwo ns l (i + m)
  | 0, i => by simp [fromTwo]
  | m + 1, i => by
    rw [show i + (m + 1) = (i + 1) + m by omega, ← fromTwo_all ns l m (i + 1)]
    simp only [fromTwo, allTwo, Bool.and_assoc]
section
variable (ns l : List Int) (hn : goN 0 ns = true) (hl : l.length ≤ 1000000) (hnl : ns.length ≤ 7)
include hn hl hnl
theorem al_l1 (i : Nat) (hi : i < ns.length) (R : Bool) (h : Ev (fun k => r18_Alike.l0 k ns l ((i + 1 : Nat) : Int)) R) : ∀ (s : List Int) (j : Nat), j ≤ i → (ns.take i).drop j = s → Ev (fun k => r18_Alike.l1 k ns l i j) (s.all (fun y => twoS ns[i]! y true true l) && R)
  | [], j, hj, hs => by
    have hs : (ns.take i).length ≤ j := List.drop_eq_nil_iff.1 hs
    rw [List.length_take] at hs
    refine Ev.step (f := fun k => r18_Alike.l0 k ns l ((i + 1 : Nat) : Int)) (fun k => ?_) (by simpa using h)
    rw [r18_Alike.l1, if_neg (by omega), wrap_id (by omega) (by omega)]
    rfl
  | z :: t, j, hj, hs => by
    obtain ⟨h1, h2, h3⟩ := drop_cons hs
    rw [List.length_take] at h1
    have hz : ns[j]! = z := by
      rw [← h2]
      simp [rd, List.getElem?_take_of_lt (show j < i by omega), List.getElem?_eq_getElem (show j < ns.length by omega), getElem!_pos ns j (by omega)]
    have b1 := goN_get ns 0 hn i hi
    have b2 := goN_get ns 0 hn j (by omega)
    have hE := two_ref l ns[i]! z (by omega) (by rw [hz] at b2; omega) hl
    have hst : ∀ k, r18_Alike.l1 (k + 1) ns l i j = ((r18_two.f k l ns[i]! z).bind fun t143 => (if t143 = true then (r18_Alike.l1 k ns l i ((j + 1 : Nat) : Int)) else (some false))) := fun k => by
      rw [r18_Alike.l1, if_pos (by omega), if_pos (by omega), if_pos (by omega), if_pos (by omega), if_pos (by omega), rd_nat ns i hi, rd_nat ns j (by omega), hz, wrap_id (x := (j : Int) + 1) (by omega) (by omega)]
      rfl
    refine Ev.step hst (Ev.bind hE ?_)
    cases ht : twoS ns[i]! z true true l with
    | true =>
      have e : ((z :: t).all (fun y => twoS ns[i]! y true true l) && R) = (t.all (fun y => twoS ns[i]! y true true l) && R) := by simp only [List.all_cons, ht, Bool.true_and]
      rw [e]
      simp only [if_true]
      exact al_l1 i hi R h t (j + 1) (by omega) h3
    | false =>
      have e : ((z :: t).all (fun y => twoS ns[i]! y true true l) && R) = false := by simp only [List.all_cons, ht, Bool.false_and]
      rw [e]
      exact Ev.now _
theorem al_l0 : ∀ (m i : Nat), i + m = ns.length → Ev (fun k => r18_Alike.l0 k ns l i) (fromTwo ns l m i)
  | 0, i, h => by
    refine Ev.step (f := fun _ => some true) (fun k => ?_) (Ev.now _)
    rw [r18_Alike.l0, if_neg (by omega)]
  | m + 1, i, h => by
    refine Ev.step (f := fun k => r18_Alike.l1 k ns l i ((0 : Nat) : Int)) (fun k => ?_) (al_l1 ns l hn hl hnl i (by omega) _ (al_l0 m (i + 1) (by omega)) _ 0 (by omega) rfl)
    rw [r18_Alike.l0, if_pos (by omega)]
    rfl
end
theorem alike_ref (ns l : List Int) (hnl : ns.length ≤ 1000000) (hl : l.length ≤ 1000000) : Ev (fun k => r18_Alike.f k ns l) (alikeR ns l) := by
  unfold r18_Alike.f
  refine Ev.bind (nodes_ref ns hnl) ?_
  unfold alikeR
  cases h : nodesB ns with
  | false => exact Ev.now _
  | true =>
    have h0 := (nodesB_iff.1 h).1
    have hlen := goN_length ns 0 h0 (by omega)
    have := al_l0 ns l h0 hl (by omega) ns.length 0 (by omega)
    have e := fromTwo_all ns l ns.length 0
    rw [Nat.zero_add] at e
    simp only [allTwo, Bool.true_and] at e
    rw [e] at this
    simpa using this
end Go.Proofs.Ytnhceomdjlocaaa.Clock
