/- A range over a function whose iterator keeps the caller's blocks, and whose rounds keep the iterator's. -/
import Derived.RangeFuncNested
import Derived.RangeFuncBound
import Derived.RangeFuncCalls
import Derived.RangeFuncLeaves
import Derived.Shelf.Abstract
import Derived.WalkKit
import Derived.OwnWalkIn
import Derived.TacticsInMore
import Derived.LoopNIn
import Derived.LoopIn
namespace Go.Proofs.Ytpjachbmllklgaa.Rng
open Go.RowKit
set_option linter.unusedVariables false
set_option linter.unusedSimpArgs false

/-- What a round keeps: what lies above l, and what the iterator uses. -/
structure Rnd (l : Nat) (uses : Nat → Prop) (A B : World) : Prop where
  size : A.heap.size ≤ B.heap.size
  above : ∀ k, l < k → k < A.heap.size → B.heap[k]? = A.heap[k]?
  used : ∀ k, uses k → B.heap[k]? = A.heap[k]?
/-- What the caller keeps in a round: what lies from m on, and what the iterator uses. -/
structure Kp (m : Nat) (uses : Nat → Prop) (A B : World) : Prop where
  size : A.heap.size ≤ B.heap.size
  from_ : ∀ k, m ≤ k → k < A.heap.size → B.heap[k]? = A.heap[k]?
  used : ∀ k, uses k → B.heap[k]? = A.heap[k]?
theorem Kp.refl (m : Nat) (uses : Nat → Prop) (A : World) : Kp m uses A A := ⟨Nat.le_refl _, fun _ _ _ => rfl, fun _ _ => rfl⟩
theorem Kp.trans {m : Nat} {uses : Nat → Prop} {A B C : World} (h : Kp m uses A B) (k : Kp m uses B C) : Kp m uses A C :=
  ⟨Nat.le_trans h.size k.size, fun i h1 h2 => (k.from_ i h1 (Nat.lt_of_lt_of_le h2 h.size)).trans (h.from_ i h1 h2), fun i hi => (k.used i hi).trans (h.used i hi)⟩

/-- What an iterator does: xs, one behind the other, till a round says 'no more'. It lays and turns blocks above l alone. -/
def Steps {α : Type} (n : Nat) (P : Program) (g : Nat) (lb : Array Value) (encs : α → Array Value) (xs : List α) (Hold : World → Prop) (uses : Nat → Prop) : Prop :=
  ∀ (l : Nat) (J Jx : List α → World → Prop) (W : World), Hold W → (∀ k, uses k → k < l) → l < W.heap.size →
    (∀ pre A B, J pre A → Below (l + 1) A B → J pre B) → (∀ pre A B, Jx pre A → Below (l + 1) A B → Jx pre B) →
    (∀ pre x rest W1, xs = pre ++ x :: rest → J pre W1 → l < W1.heap.size → YieldAt Fence.wide (n - 1) P l (encs x) W1 fun e W' =>
      (e = .returned (.bool true) ∧ J (pre ++ [x]) W' ∧ Rnd l uses W1 W') ∨ (e = .returned (.bool false) ∧ Jx (pre ++ [x]) W' ∧ Rnd l uses W1 W')) →
    J [] W →
    CallsIn Fence.wide n P g (#[.func (.yield l) #[] #[]] ++ lb) W fun e W' => (∃ v, e = .returned v) ∧ (J xs W' ∨ (∃ pre x rest, xs = pre ++ x :: rest ∧ Jx (pre ++ [x]) W'))

/-- How a round's body may be left. -/
def rpost {α : Type} (m : Nat) (uses : Nat → Prop) (I : List α → World → Prop) (Ix : Code → List α → World → Prop) (xs : List α) (W : World) : Exit → Act → World → Prop
  | .normal, _, W' => Kp m uses W W' ∧ I xs W'
  | .ret, _, W' => Kp m uses W W' ∧ Ix .ret xs W'
  | .exit id, _, W' => Kp m uses W W' ∧ Ix (.exit id) xs W'
  | .goto t, _, W' => Kp m uses W W' ∧ Ix (.goto t) xs W'
  | .panic _, _, _ => False
  | .outgrown, _, _ => False

theorem below_putObj {n0 : Nat} {A : World} {l : Nat} {o : Obj} (hl : n0 ≤ l) (o' : Obj) (h : A.heap[l]? = some o) : Below n0 A (A.putObj l o') :=
  (Below.refl n0 A).grown (grownBy_putObj' A l o') (by have := (Array.getElem?_eq_some_iff.1 h).1; omega) (fun k e => by cases e; omega)

variable {n : Nat} {P : Program}
theorem wpIn_rangeFunc_st {α : Type} {g : Operand} {ps : Array Tmp} {assign body : Code} {Q : Exit → Act → World → Prop} {a : Act} {w : World}
    {gf : Nat} {lb : Array Value} (hg : a.eval g = .func (.func gf) #[] lb) (eg : ∀ args w, (callFunc gf args).run P w = .ok (.enter gf args) w)
    {encs : α → Array Value} {xs : List α} {Hold : World → Prop} {uses : Nat → Prop} (hseq : Steps (n - 1) P gf lb encs xs Hold uses) (hps : ∀ x, (encs x).size = ps.size)
    (hH : Hold w) (hHst : ∀ A B, Hold A → (∀ k, uses k → B.heap[k]? = A.heap[k]?) → Hold B) (hus : ∀ k, uses k → k < w.heap.size)
    (I : List α → World → Prop) (Ix : Code → List α → World → Prop)
    (hI : ∀ pre A B, I pre A → Below w.heap.size A B → I pre B) (hIx : ∀ c pre A B, Ix c pre A → Below w.heap.size A B → Ix c pre B) (h0 : I [] w)
    (hround : ∀ pre x rest W, xs = pre ++ x :: rest → I pre W → Hold W → w.heap.size + 1 < W.heap.size →
      assign.wpIn (Fence.wide.inRound (w.heap.size + 1)) (n - 1 - 1) P (Exit.then (fun a₁ W2 => Kp w.heap.size uses W W2 ∧ ∀ W3, Below w.heap.size W2 W3 → W3.heap.size = W2.heap.size → (∀ k, k ≠ w.heap.size + 1 → W3.heap[k]? = W2.heap[k]?) →
          body.wpIn (Fence.wide.inRound (w.heap.size + 1)) (n - 1 - 1) P (rpost w.heap.size uses I Ix (pre ++ [x]) W3) a₁ W3) (fun _ _ _ => False))
        { tmps := (ps.zip (encs x)).foldl (fun t (p, v) => t.setIfInBounds p v) a.tmps, defers := [] } W)
    (hdone : ∀ (W : World), I xs W → Hold W → w.heap.size + 1 < W.heap.size → W.heap[w.heap.size]? = some (.deferred (some [])) → Q .normal { a with defers := { target := .collected w.heap.size, args := #[] } :: a.defers } W)
    (hstop : ∀ (c : Code) (pre : List α) (x : α) (rest : List α) (W : World), xs = pre ++ x :: rest → Ix c (pre ++ [x]) W → w.heap.size + 1 < W.heap.size → W.heap[w.heap.size]? = some (.deferred (some [])) → c.wpIn Fence.wide n P Q { a with defers := { target := .collected w.heap.size, args := #[] } :: a.defers } W) :
    (Code.rangeFunc g ps assign body).wpIn Fence.wide n P Q a w := by
  refine wpIn_rangeFunc ?_
  intro fn hfn
  rw [show Fence.wide.round = none from rfl]
  obtain ⟨rec, hrec⟩ : ∃ rec : LoopState → Option Code → Loop, rec = fun st pe => { state := st, pending := pe, fn, tmps := a.tmps, params := ps, assign, body, defers := w.heap.size } := ⟨_, rfl⟩
  obtain ⟨W1, hW1⟩ : ∃ W1, (w.alloc (.deferred (some []))).alloc (.loop (rec .ready none)) = W1 := ⟨_, rfl⟩
  have hs1 : W1.heap.size = w.heap.size + 2 := by rw [← hW1]; simp
  have hL1 : W1.heap[w.heap.size + 1]? = some (.loop (rec .ready none)) := by
    rw [← hW1]; have := World.alloc_heap_new (w.alloc (.deferred (some []))) (.loop (rec .ready none)); rwa [World.size_alloc] at this
  have hK1 : W1.heap[w.heap.size]? = some (.deferred (some [])) := by
    rw [← hW1]; exact (Below.heap_alloc _ _ _ (by simp)).trans (World.alloc_heap_new w _)
  have hb1 : Below w.heap.size w W1 := by
    rw [← hW1]; exact ((Below.refl _ w).alloc (Nat.le_refl _) _).alloc (by simp) _
  have hI1 : I [] W1 := hI _ _ _ h0 hb1
  have hH1 : Hold W1 := hHst _ _ hH (fun k hk => hb1.block k (hus k hk))
  refine ⟨w.heap.size + 1, [{ target := .collected w.heap.size, args := #[] }], W1, { target := .fn (.func gf) lb, args := #[.func (.yield (w.heap.size + 1)) #[] #[]] }, W1, gf,
    #[.func (.yield (w.heap.size + 1)) #[] #[]] ++ lb, W1, ?_, ?_, fun _ _ => trivial, ?_, fun h => (by cases h), ?_⟩
  · rw [← hW1, hrec]; exact run_enterLoop_outer _ _ _ _ _
  · simp only [resolve, hg]
    simp [go_sem]
  · simp [invoke, go_sem, eg]
  · refine (hseq (w.heap.size + 1)
      (fun pre W => I pre W ∧ Hold W ∧ W.heap[w.heap.size + 1]? = some (.loop (rec .ready none)) ∧ W.heap[w.heap.size]? = some (.deferred (some [])))
      (fun pre W => ∃ c, Ix c pre W ∧ W.heap[w.heap.size + 1]? = some (.loop (rec .done (some c))) ∧ W.heap[w.heap.size]? = some (.deferred (some [])))
      W1 hH1 (fun k hk => by have := hus k hk; omega) (by omega)
      (fun pre A B hs hb => ⟨hI _ _ _ hs.1 (hb.mono (by omega)), hHst _ _ hs.2.1 (fun k hk => hb.block k (by have := hus k hk; omega)), (hb.block _ (by omega)).trans hs.2.2.1, (hb.block _ (by omega)).trans hs.2.2.2⟩)
      (fun pre A B hs hb => by
        obtain ⟨c, hc, hl, hk⟩ := hs
        exact ⟨c, hIx _ _ _ _ hc (hb.mono (by omega)), (hb.block _ (by omega)).trans hl, (hb.block _ (by omega)).trans hk⟩)
      ?_ ⟨hI1, hH1, hL1, hK1⟩).mono ?_
    · -- one round
      rintro pre x rest W hxs ⟨hi, hho, hl, hk⟩ hlt
      have hy := run_yield (P := P) (args := encs x) hl (by rw [hrec]; exact hps x)
      rw [hrec] at hy
      refine ⟨fn, _, assign, body, hy, roundIn_of_wpIn hfn (wpIn_mono (hround pre x rest W hxs hi hho hlt) ?_)⟩
      rintro e a1 W2 hp
      cases e with
      | normal =>
        obtain ⟨hkp, hbody⟩ := hp
        have hl2 : W2.heap[w.heap.size + 1]? = some (.loop (rec .ready none)) := (hkp.from_ _ (by omega) hlt).trans hl
        have hk2 : W2.heap[w.heap.size]? = some (.deferred (some [])) := (hkp.from_ _ (by omega) (by omega)).trans hk
        have hlt2 : w.heap.size + 1 < W2.heap.size := (Array.getElem?_eq_some_iff.1 hl2).1
        refine ⟨_, run_beginRound hl2 (by rw [hrec]), ?_⟩
        have hl3 : (W2.putObj (w.heap.size + 1) (.loop { rec .ready none with state := .busy })).heap[w.heap.size + 1]? = some (.loop { rec .ready none with state := .busy }) := World.putObj_heap_same hlt2
        have ho3 : ∀ k, k ≠ w.heap.size + 1 → (W2.putObj (w.heap.size + 1) (.loop { rec .ready none with state := .busy })).heap[k]? = W2.heap[k]? := fun k hk => World.putObj_heap_other hk
        have hb3 : Below w.heap.size W2 (W2.putObj (w.heap.size + 1) (.loop { rec .ready none with state := .busy })) := below_putObj (by omega) _ hl2
        have hz3 : (W2.putObj (w.heap.size + 1) (.loop { rec .ready none with state := .busy })).heap.size = W2.heap.size := by simp [World.putObj]
        refine wpIn_mono (hbody _ hb3 hz3 ho3) ?_
        obtain ⟨W3, hW3⟩ : ∃ W3, W2.putObj (w.heap.size + 1) (.loop { rec .ready none with state := .busy }) = W3 := ⟨_, rfl⟩
        rw [hW3] at hl3 ho3 hb3 hz3 ⊢
        have fin : ∀ (jump : Option Code) (W4 : World), Kp w.heap.size uses W3 W4 →
            (Instr.endRound (w.heap.size + 1) jump).run P W4 = .ok (.bool jump.isNone) (W4.putObj (w.heap.size + 1) (.loop (rec (if jump.isNone then .ready else .done) jump))) ∧
            Below w.heap.size W4 (W4.putObj (w.heap.size + 1) (.loop (rec (if jump.isNone then .ready else .done) jump))) ∧
            (W4.putObj (w.heap.size + 1) (.loop (rec (if jump.isNone then .ready else .done) jump))).heap[w.heap.size + 1]? = some (.loop (rec (if jump.isNone then .ready else .done) jump)) ∧
            (W4.putObj (w.heap.size + 1) (.loop (rec (if jump.isNone then .ready else .done) jump))).heap[w.heap.size]? = some (.deferred (some [])) ∧
            Rnd (w.heap.size + 1) uses W (W4.putObj (w.heap.size + 1) (.loop (rec (if jump.isNone then .ready else .done) jump))) := fun jump W4 hk4 => by
          have hl4 := (hk4.from_ _ (by omega) (by omega)).trans hl3
          have hlt4 := (Array.getElem?_eq_some_iff.1 hl4).1
          have hr := run_endRound (P := P) jump hl4
          refine ⟨by rw [hr, hrec], below_putObj (by omega) _ hl4, World.putObj_heap_same hlt4, (World.putObj_heap_other (by omega)).trans ((hk4.from_ _ (by omega) (by omega)).trans ((ho3 _ (by omega)).trans hk2)), ⟨?_, fun k h1 h2 => ?_, fun k hk => ?_⟩⟩
          · have := hkp.size; have := hk4.size; simp [World.putObj]; omega
          · have := hkp.size
            rw [World.putObj_heap_other (by omega), hk4.from_ k (by omega) (by omega), ho3 k (by omega), hkp.from_ k (by omega) h2]
          · have := hus k hk
            rw [World.putObj_heap_other (by omega), hk4.used k hk, ho3 k (by omega), hkp.used k hk]
        rintro e a4 W4 hp4
        have hhold : Kp w.heap.size uses W3 W4 → ∀ B, Below w.heap.size W4 B → Hold B := fun h4 B hB => hHst _ _ hho (fun k hk => by
          have := hus k hk
          rw [hB.block k this, h4.used k hk, ho3 k (by omega), hkp.used k hk])
        cases e with
        | normal =>
          obtain ⟨hk4, hi4⟩ := hp4
          obtain ⟨hr, hb4, hl5, hk5, hrnd⟩ := fin none W4 hk4
          exact ⟨_, _, hr, .inl ⟨rfl, ⟨hI _ _ _ hi4 hb4, hhold hk4 _ hb4, hl5, hk5⟩, hrnd⟩⟩
        | ret =>
          obtain ⟨hk4, hi4⟩ := hp4
          obtain ⟨hr, hb4, hl5, hk5, hrnd⟩ := fin (some .ret) W4 hk4
          exact ⟨_, _, hr, .inr ⟨rfl, ⟨.ret, hIx _ _ _ _ hi4 hb4, hl5, hk5⟩, hrnd⟩⟩
        | exit id =>
          obtain ⟨hk4, hi4⟩ := hp4
          obtain ⟨hr, hb4, hl5, hk5, hrnd⟩ := fin (some (.exit id)) W4 hk4
          exact ⟨_, _, hr, .inr ⟨rfl, ⟨.exit id, hIx _ _ _ _ hi4 hb4, hl5, hk5⟩, hrnd⟩⟩
        | goto t =>
          obtain ⟨hk4, hi4⟩ := hp4
          obtain ⟨hr, hb4, hl5, hk5, hrnd⟩ := fin (some (.goto t)) W4 hk4
          exact ⟨_, _, hr, .inr ⟨rfl, ⟨.goto t, hIx _ _ _ _ hi4 hb4, hl5, hk5⟩, hrnd⟩⟩
        | panic ch => exact hp4.elim
        | outgrown => exact hp4.elim
      | ret => exact hp.elim
      | exit id => exact hp.elim
      | goto t => exact hp.elim
      | panic ch => exact hp.elim
      | outgrown => exact hp.elim
    · -- behind the iterator
      rintro e W2 ⟨⟨v, rfl⟩, (⟨hi, hho, hl, hk⟩ | ⟨pre, x, rest, hxs, c, hi, hl, hk⟩)⟩
      · have hlt := (Array.getElem?_eq_some_iff.1 hl).1
        refine ⟨none, _, by have := run_endLoop (P := P) hl (by rw [hrec]; simp); rw [hrec] at this; exact this, hdone _ (hI _ _ _ hi (below_putObj (by omega) _ hl)) ?_ ?_ ((World.putObj_heap_other (by omega)).trans hk)⟩
        · exact hHst _ _ hho (fun k hk => World.putObj_heap_other (by have := hus k hk; omega))
        · simpa [World.putObj] using hlt
      · have hlt := (Array.getElem?_eq_some_iff.1 hl).1
        refine ⟨some c, _, by have := run_endLoop (P := P) hl (by rw [hrec]; simp); rw [hrec] at this; exact this, hstop c pre x rest _ hxs (hIx _ _ _ _ hi (below_putObj (by omega) _ hl)) ?_ ((World.putObj_heap_other (by omega)).trans hk)⟩
        simpa [World.putObj] using hlt
end Go.Proofs.Ytpjachbmllklgaa.Rng
