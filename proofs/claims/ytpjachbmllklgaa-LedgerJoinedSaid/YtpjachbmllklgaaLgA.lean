/- Several texts in one. -/
import Derived.RangeFuncNested
import Derived.RangeFuncBound
import Derived.RangeFuncCalls
import Derived.RangeFuncLeaves
import Derived.Shelf.Abstract
import Derived.WalkKit
import Derived.OwnWalkIn
import Derived.TacticsInMore
import Derived.LoopNIn
import Derived.LoopIn
import Derived.Deep.MidRow
import Derived.Test.YtpjachbmllklgaaProg
import Derived.Shelf.RegionOpen
import Derived.WalkSpells
import Derived.WalkMore
import Derived.Deep.LoopGhost
import Derived.Deep.Draws
import Derived.Laws.Rows
import Derived.Test.YtpjachbmllklgaaWWords
section
/- A range over a function whose iterator keeps the caller's blocks, and whose rounds keep the iterator's. -/
namespace Go.Proofs.Ytpjachbmllklgaa.Rng
open Go.RowKit
set_option linter.unusedVariables false
set_option linter.unusedSimpArgs false

/-- What a round keeps: what lies above l, and what the iterator uses. -/
structure Rnd (l : Nat) (uses : Nat → Prop) (A B : World) : Prop where
  size : A.heap.size ≤ B.heap.size
  above : ∀ k, l < k → k < A.heap.size → B.heap[k]? = A.heap[k]?
  used : ∀ k, uses k → B.heap[k]? = A.heap[k]?
/-- What the caller keeps in a round: what lies from m on, and what the iterator uses. -/
structure Kp (m : Nat) (uses : Nat → Prop) (A B : World) : Prop where
  size : A.heap.size ≤ B.heap.size
  from_ : ∀ k, m ≤ k → k < A.heap.size → B.heap[k]? = A.heap[k]?
  used : ∀ k, uses k → B.heap[k]? = A.heap[k]?
theorem Kp.refl (m : Nat) (uses : Nat → Prop) (A : World) : Kp m uses A A := ⟨Nat.le_refl _, fun _ _ _ => rfl, fun _ _ => rfl⟩
theorem Kp.trans {m : Nat} {uses : Nat → Prop} {A B C : World} (h : Kp m uses A B) (k : Kp m uses B C) : Kp m uses A C :=
  ⟨Nat.le_trans h.size k.size, fun i h1 h2 => (k.from_ i h1 (Nat.lt_of_lt_of_le h2 h.size)).trans (h.from_ i h1 h2), fun i hi => (k.used i hi).trans (h.used i hi)⟩

/-- What an iterator does: xs, one behind the other, till a round says 'no more'. It lays and turns blocks above l alone. -/
def Steps {α : Type} (n : Nat) (P : Program) (g : Nat) (lb : Array Value) (encs : α → Array Value) (xs : List α) (Hold : World → Prop) (uses : Nat → Prop) : Prop :=
  ∀ (l : Nat) (J Jx : List α → World → Prop) (W : World), Hold W → (∀ k, uses k → k < l) → l < W.heap.size →
    (∀ pre A B, J pre A → Below (l + 1) A B → J pre B) → (∀ pre A B, Jx pre A → Below (l + 1) A B → Jx pre B) →
    (∀ pre x rest W1, xs = pre ++ x :: rest → J pre W1 → l < W1.heap.size → YieldAt Fence.wide (n - 1) P l (encs x) W1 fun e W' =>
      (e = .returned (.bool true) ∧ J (pre ++ [x]) W' ∧ Rnd l uses W1 W') ∨ (e = .returned (.bool false) ∧ Jx (pre ++ [x]) W' ∧ Rnd l uses W1 W')) →
    J [] W →
    CallsIn Fence.wide n P g (#[.func (.yield l) #[] #[]] ++ lb) W fun e W' => (∃ v, e = .returned v) ∧ (J xs W' ∨ (∃ pre x rest, xs = pre ++ x :: rest ∧ Jx (pre ++ [x]) W'))

/-- How a round's body may be left. -/
def rpost {α : Type} (m : Nat) (uses : Nat → Prop) (I : List α → World → Prop) (Ix : Code → List α → World → Prop) (xs : List α) (W : World) : Exit → Act → World → Prop
  | .normal, _, W' => Kp m uses W W' ∧ I xs W'
  | .ret, _, W' => Kp m uses W W' ∧ Ix .ret xs W'
  | .exit id, _, W' => Kp m uses W W' ∧ Ix (.exit id) xs W'
  | .goto t, _, W' => Kp m uses W W' ∧ Ix (.goto t) xs W'
  | .panic _, _, _ => False
  | .outgrown, _, _ => False

theorem below_putObj {n0 : Nat} {A : World} {l : Nat} {o : Obj} (hl : n0 ≤ l) (o' : Obj) (h : A.heap[l]? = some o) : Below n0 A (A.putObj l o') :=
  (Below.refl n0 A).grown (grownBy_putObj' A l o') (by have := (Array.getElem?_eq_some_iff.1 h).1; omega) (fun k e => by cases e; omega)

variable {n : Nat} {P : Program}
theorem wpIn_rangeFunc_st {α : Type} {g : Operand} {ps : Array Tmp} {assign body : Code} {Q : Exit → Act → World → Prop} {a : Act} {w : World}
    {gf : Nat} {lb : Array Value} (hg : a.eval g = .func (.func gf) #[] lb) (eg : ∀ args w, (callFunc gf args).run P w = .ok (.enter gf args) w)
    {encs : α → Array Value} {xs : List α} {Hold : World → Prop} {uses : Nat → Prop} (hseq : Steps (n - 1) P gf lb encs xs Hold uses) (hps : ∀ x, (encs x).size = ps.size)
    (hH : Hold w) (hHst : ∀ A B, Hold A → (∀ k, uses k → B.heap[k]? = A.heap[k]?) → Hold B) (hus : ∀ k, uses k → k < w.heap.size)
    (I : List α → World → Prop) (Ix : Code → List α → World → Prop)
    (hI : ∀ pre A B, I pre A → Below w.heap.size A B → I pre B) (hIx : ∀ c pre A B, Ix c pre A → Below w.heap.size A B → Ix c pre B) (h0 : I [] w)
    (hround : ∀ pre x rest W, xs = pre ++ x :: rest → I pre W → Hold W → w.heap.size + 1 < W.heap.size →
      assign.wpIn (Fence.wide.inRound (w.heap.size + 1)) (n - 1 - 1) P (Exit.then (fun a₁ W2 => Kp w.heap.size uses W W2 ∧ ∀ W3, Below w.heap.size W2 W3 → W3.heap.size = W2.heap.size → (∀ k, k ≠ w.heap.size + 1 → W3.heap[k]? = W2.heap[k]?) →
          body.wpIn (Fence.wide.inRound (w.heap.size + 1)) (n - 1 - 1) P (rpost w.heap.size uses I Ix (pre ++ [x]) W3) a₁ W3) (fun _ _ _ => False))
        { tmps := (ps.zip (encs x)).foldl (fun t (p, v) => t.setIfInBounds p v) a.tmps, defers := [] } W)
    (hdone : ∀ (W : World), I xs W → Hold W → w.heap.size + 1 < W.heap.size → W.heap[w.heap.size]? = some (.deferred (some [])) → Q .normal { a with defers := { target := .collected w.heap.size, args := #[] } :: a.defers } W)
    (hstop : ∀ (c : Code) (pre : List α) (x : α) (rest : List α) (W : World), xs = pre ++ x :: rest → Ix c (pre ++ [x]) W → w.heap.size + 1 < W.heap.size → W.heap[w.heap.size]? = some (.deferred (some [])) → c.wpIn Fence.wide n P Q { a with defers := { target := .collected w.heap.size, args := #[] } :: a.defers } W) :
    (Code.rangeFunc g ps assign body).wpIn Fence.wide n P Q a w := by
  refine wpIn_rangeFunc ?_
  intro fn hfn
  rw [show Fence.wide.round = none from rfl]
  obtain ⟨rec, hrec⟩ : ∃ rec : LoopState → Option Code → Loop, rec = fun st pe => { state := st, pending := pe, fn, tmps := a.tmps, params := ps, assign, body, defers := w.heap.size } := ⟨_, rfl⟩
  obtain ⟨W1, hW1⟩ : ∃ W1, (w.alloc (.deferred (some []))).alloc (.loop (rec .ready none)) = W1 := ⟨_, rfl⟩
  have hs1 : W1.heap.size = w.heap.size + 2 := by rw [← hW1]; simp
  have hL1 : W1.heap[w.heap.size + 1]? = some (.loop (rec .ready none)) := by
    rw [← hW1]; have := World.alloc_heap_new (w.alloc (.deferred (some []))) (.loop (rec .ready none)); rwa [World.size_alloc] at this
  have hK1 : W1.heap[w.heap.size]? = some (.deferred (some [])) := by
    rw [← hW1]; exact (Below.heap_alloc _ _ _ (by simp)).trans (World.alloc_heap_new w _)
  have hb1 : Below w.heap.size w W1 := by
    rw [← hW1]; exact ((Below.refl _ w).alloc (Nat.le_refl _) _).alloc (by simp) _
  have hI1 : I [] W1 := hI _ _ _ h0 hb1
  have hH1 : Hold W1 := hHst _ _ hH (fun k hk => hb1.block k (hus k hk))
  refine ⟨w.heap.size + 1, [{ target := .collected w.heap.size, args := #[] }], W1, { target := .fn (.func gf) lb, args := #[.func (.yield (w.heap.size + 1)) #[] #[]] }, W1, gf,
    #[.func (.yield (w.heap.size + 1)) #[] #[]] ++ lb, W1, ?_, ?_, fun _ _ => trivial, ?_, fun h => (by cases h), ?_⟩
  · rw [← hW1, hrec]; exact run_enterLoop_outer _ _ _ _ _
  · simp only [resolve, hg]
    simp [go_sem]
  · simp [invoke, go_sem, eg]
  · refine (hseq (w.heap.size + 1)
      (fun pre W => I pre W ∧ Hold W ∧ W.heap[w.heap.size + 1]? = some (.loop (rec .ready none)) ∧ W.heap[w.heap.size]? = some (.deferred (some [])))
      (fun pre W => ∃ c, Ix c pre W ∧ W.heap[w.heap.size + 1]? = some (.loop (rec .done (some c))) ∧ W.heap[w.heap.size]? = some (.deferred (some [])))
      W1 hH1 (fun k hk => by have := hus k hk; omega) (by omega)
      (fun pre A B hs hb => ⟨hI _ _ _ hs.1 (hb.mono (by omega)), hHst _ _ hs.2.1 (fun k hk => hb.block k (by have := hus k hk; omega)), (hb.block _ (by omega)).trans hs.2.2.1, (hb.block _ (by omega)).trans hs.2.2.2⟩)
      (fun pre A B hs hb => by
        obtain ⟨c, hc, hl, hk⟩ := hs
        exact ⟨c, hIx _ _ _ _ hc (hb.mono (by omega)), (hb.block _ (by omega)).trans hl, (hb.block _ (by omega)).trans hk⟩)
      ?_ ⟨hI1, hH1, hL1, hK1⟩).mono ?_
    · -- one round
      rintro pre x rest W hxs ⟨hi, hho, hl, hk⟩ hlt
      have hy := run_yield (P := P) (args := encs x) hl (by rw [hrec]; exact hps x)
      rw [hrec] at hy
      refine ⟨fn, _, assign, body, hy, roundIn_of_wpIn hfn (wpIn_mono (hround pre x rest W hxs hi hho hlt) ?_)⟩
      rintro e a1 W2 hp
      cases e with
      | normal =>
        obtain ⟨hkp, hbody⟩ := hp
        have hl2 : W2.heap[w.heap.size + 1]? = some (.loop (rec .ready none)) := (hkp.from_ _ (by omega) hlt).trans hl
        have hk2 : W2.heap[w.heap.size]? = some (.deferred (some [])) := (hkp.from_ _ (by omega) (by omega)).trans hk
        have hlt2 : w.heap.size + 1 < W2.heap.size := (Array.getElem?_eq_some_iff.1 hl2).1
        refine ⟨_, run_beginRound hl2 (by rw [hrec]), ?_⟩
        have hl3 : (W2.putObj (w.heap.size + 1) (.loop { rec .ready none with state := .busy })).heap[w.heap.size + 1]? = some (.loop { rec .ready none with state := .busy }) := World.putObj_heap_same hlt2
        have ho3 : ∀ k, k ≠ w.heap.size + 1 → (W2.putObj (w.heap.size + 1) (.loop { rec .ready none with state := .busy })).heap[k]? = W2.heap[k]? := fun k hk => World.putObj_heap_other hk
        have hb3 : Below w.heap.size W2 (W2.putObj (w.heap.size + 1) (.loop { rec .ready none with state := .busy })) := below_putObj (by omega) _ hl2
        have hz3 : (W2.putObj (w.heap.size + 1) (.loop { rec .ready none with state := .busy })).heap.size = W2.heap.size := by simp [World.putObj]
        refine wpIn_mono (hbody _ hb3 hz3 ho3) ?_
        obtain ⟨W3, hW3⟩ : ∃ W3, W2.putObj (w.heap.size + 1) (.loop { rec .ready none with state := .busy }) = W3 := ⟨_, rfl⟩
        rw [hW3] at hl3 ho3 hb3 hz3 ⊢
        have fin : ∀ (jump : Option Code) (W4 : World), Kp w.heap.size uses W3 W4 →
            (Instr.endRound (w.heap.size + 1) jump).run P W4 = .ok (.bool jump.isNone) (W4.putObj (w.heap.size + 1) (.loop (rec (if jump.isNone then .ready else .done) jump))) ∧
            Below w.heap.size W4 (W4.putObj (w.heap.size + 1) (.loop (rec (if jump.isNone then .ready else .done) jump))) ∧
            (W4.putObj (w.heap.size + 1) (.loop (rec (if jump.isNone then .ready else .done) jump))).heap[w.heap.size + 1]? = some (.loop (rec (if jump.isNone then .ready else .done) jump)) ∧
            (W4.putObj (w.heap.size + 1) (.loop (rec (if jump.isNone then .ready else .done) jump))).heap[w.heap.size]? = some (.deferred (some [])) ∧
            Rnd (w.heap.size + 1) uses W (W4.putObj (w.heap.size + 1) (.loop (rec (if jump.isNone then .ready else .done) jump))) := fun jump W4 hk4 => by
          have hl4 := (hk4.from_ _ (by omega) (by omega)).trans hl3
          have hlt4 := (Array.getElem?_eq_some_iff.1 hl4).1
          have hr := run_endRound (P := P) jump hl4
          refine ⟨by rw [hr, hrec], below_putObj (by omega) _ hl4, World.putObj_heap_same hlt4, (World.putObj_heap_other (by omega)).trans ((hk4.from_ _ (by omega) (by omega)).trans ((ho3 _ (by omega)).trans hk2)), ⟨?_, fun k h1 h2 => ?_, fun k hk => ?_⟩⟩
          · have := hkp.size; have := hk4.size; simp [World.putObj]; omega
          · have := hkp.size
            rw [World.putObj_heap_other (by omega), hk4.from_ k (by omega) (by omega), ho3 k (by omega), hkp.from_ k (by omega) h2]
          · have := hus k hk
            rw [World.putObj_heap_other (by omega), hk4.used k hk, ho3 k (by omega), hkp.used k hk]
        rintro e a4 W4 hp4
        have hhold : Kp w.heap.size uses W3 W4 → ∀ B, Below w.heap.size W4 B → Hold B := fun h4 B hB => hHst _ _ hho (fun k hk => by
          have := hus k hk
          rw [hB.block k this, h4.used k hk, ho3 k (by omega), hkp.used k hk])
        cases e with
        | normal =>
          obtain ⟨hk4, hi4⟩ := hp4
          obtain ⟨hr, hb4, hl5, hk5, hrnd⟩ := fin none W4 hk4
          exact ⟨_, _, hr, .inl ⟨rfl, ⟨hI _ _ _ hi4 hb4, hhold hk4 _ hb4, hl5, hk5⟩, hrnd⟩⟩
        | ret =>
          obtain ⟨hk4, hi4⟩ := hp4
          obtain ⟨hr, hb4, hl5, hk5, hrnd⟩ := fin (some .ret) W4 hk4
          exact ⟨_, _, hr, .inr ⟨rfl, ⟨.ret, hIx _ _ _ _ hi4 hb4, hl5, hk5⟩, hrnd⟩⟩
        | exit id =>
          obtain ⟨hk4, hi4⟩ := hp4
          obtain ⟨hr, hb4, hl5, hk5, hrnd⟩ := fin (some (.exit id)) W4 hk4
          exact ⟨_, _, hr, .inr ⟨rfl, ⟨.exit id, hIx _ _ _ _ hi4 hb4, hl5, hk5⟩, hrnd⟩⟩
        | goto t =>
          obtain ⟨hk4, hi4⟩ := hp4
          obtain ⟨hr, hb4, hl5, hk5, hrnd⟩ := fin (some (.goto t)) W4 hk4
          exact ⟨_, _, hr, .inr ⟨rfl, ⟨.goto t, hIx _ _ _ _ hi4 hb4, hl5, hk5⟩, hrnd⟩⟩
        | panic ch => exact hp4.elim
        | outgrown => exact hp4.elim
      | ret => exact hp.elim
      | exit id => exact hp.elim
      | goto t => exact hp.elim
      | panic ch => exact hp.elim
      | outgrown => exact hp.elim
    · -- behind the iterator
      rintro e W2 ⟨⟨v, rfl⟩, (⟨hi, hho, hl, hk⟩ | ⟨pre, x, rest, hxs, c, hi, hl, hk⟩)⟩
      · have hlt := (Array.getElem?_eq_some_iff.1 hl).1
        refine ⟨none, _, by have := run_endLoop (P := P) hl (by rw [hrec]; simp); rw [hrec] at this; exact this, hdone _ (hI _ _ _ hi (below_putObj (by omega) _ hl)) ?_ ?_ ((World.putObj_heap_other (by omega)).trans hk)⟩
        · exact hHst _ _ hho (fun k hk => World.putObj_heap_other (by have := hus k hk; omega))
        · simpa [World.putObj] using hlt
      · have hlt := (Array.getElem?_eq_some_iff.1 hl).1
        refine ⟨some c, _, by have := run_endLoop (P := P) hl (by rw [hrec]; simp); rw [hrec] at this; exact this, hstop c pre x rest _ hxs (hIx _ _ _ _ hi (below_putObj (by omega) _ hl)) ?_ ((World.putObj_heap_other (by omega)).trans hk)⟩
        simpa [World.putObj] using hlt
end Go.Proofs.Ytpjachbmllklgaa.Rng
end
section
/- Loads and stores of wide values, in a walk and in a fenced one. -/
namespace Go.Proofs.Ytpjachbmllklgaa.Rng
set_option linter.unusedVariables false
variable {F : Fence} {n : Nat} {P : Program}
theorem wpListIn_load_mid {ops : Array Oper} {rest : List Oper} {o : Oper} {a : Act} {w : World} {Q : Exit → Act → World → Prop} (hgd : o.guard = none) (ty : TypeId) (x : Operand) (ho : o.op = .load ty x)
    (b off : Nat) (hx : a.eval x = .pointer (some ⟨b, off, none⟩)) (cs : List Value) (d : TypeDesc) (hc : w.rangeAt b off cs)
    (hu : P.underlying ty = some d) (hd : d.isRow = true) (hi : (P.info? ty).map (·.size) = some cs.length)
    (h : wpListIn F n P ops Q rest (a.put o.dst (.agg cs.toArray)) w) : wpListIn F n P ops Q (o :: rest) a w := by
  refine wpListIn_plain hgd fun K hK' => ?_
  have hr := run_loadAt_mid (P := P) w b off ty cs d hc hu hd hi
  unfold Oper.wpIn
  refine ⟨?_, ?_⟩
  · simp [Oper.about, ho, Sem.run_pure]
  · rw [Oper.semAt_plain F _ _ (by rw [ho]; intro c hc'; cases hc')]
    simp only [execOp, ho, hx]
    simp only [Sem.run_bind, hr, Result.andThen_ok, Sem.run_pure]
    exact hK' _ _ h
theorem setRow_alloc (w : World) (old cs : Array Value) (t : TypeId) : (w.alloc (.cells old t (0, 0))).setRow w.heap.size cs = w.alloc (.cells cs t (0, 0)) := by
  unfold World.setRow
  show ({ w with heap := (w.heap.push (.cells old t (0, 0))).modify w.heap.size _ } : World) = { w with heap := w.heap.push (.cells cs t (0, 0)) }
  congr 1
  apply Array.ext_getElem?
  intro i
  rw [Array.getElem?_modify, Array.getElem?_push, Array.getElem?_push]
  by_cases h : i = w.heap.size
  · simp [h]
  · rw [if_neg h, if_neg h, if_neg (Ne.symm h)]
theorem wpList_store_new {ops : Array Oper} {rest : List Oper} {o : Oper} {a : Act} {W : World} {Q : Exit → Act → World → Prop} (hgd : o.guard = none) (ty : TypeId) (x y : Operand) (ho : o.op = .store ty x y)
    (cells old : Array Value) (t : TypeId) (hx : a.eval x = .pointer (some ⟨W.heap.size, 0, none⟩)) (hy : a.eval y = .agg cells)
    (hi : (P.info? ty).map (·.size) = some cells.size) (hold : old.size = cells.size) (h1 : cells.all (·.oneCell') = true)
    (h : wpList P ops Q rest (a.put o.dst undef) (W.alloc (.cells cells t (0, 0)))) : wpList P ops Q (o :: rest) a (W.alloc (.cells old t (0, 0))) :=
  wpList_store_row hgd ty x y ho W.heap.size cells hx hy t old (heap_alloc_new W _) hi hold h1 (by rw [setRow_alloc]; exact h)
theorem wpListIn_store_new {ops : Array Oper} {rest : List Oper} {o : Oper} {a : Act} {W : World} {Q : Exit → Act → World → Prop} (hgd : o.guard = none) (ty : TypeId) (x y : Operand) (ho : o.op = .store ty x y)
    (cells old : Array Value) (t : TypeId) (hx : a.eval x = .pointer (some ⟨W.heap.size, 0, none⟩)) (hy : a.eval y = .agg cells)
    (hi : (P.info? ty).map (·.size) = some cells.size) (hold : old.size = cells.size) (h1 : cells.all (·.oneCell') = true)
    (h : wpListIn F n P ops Q rest (a.put o.dst undef) (W.alloc (.cells cells t (0, 0)))) : wpListIn F n P ops Q (o :: rest) a (W.alloc (.cells old t (0, 0))) := by
  refine wpListIn_plain hgd fun K hK' => ?_
  have hr := run_storeVar_row (P := P) (W.alloc (.cells old t (0, 0))) W.heap.size t ty old cells (heap_alloc_new W _) hi hold h1
  rw [setRow_alloc] at hr
  unfold Oper.wpIn
  refine ⟨?_, ?_⟩
  · simp [Oper.about, ho, Sem.run_pure]
  · rw [Oper.semAt_plain F _ _ (by rw [ho]; intro c hc'; cases hc')]
    simp only [execOp, ho, hx, hy, Instr.storeAt, Instr.sureAddr]
    simp only [Sem.run_bind, Sem.run_pure, hr, Result.andThen_ok]
    exact hK' _ _ h
end Go.Proofs.Ytpjachbmllklgaa.Rng
end
section
/- slices.Backward over entries. -/
namespace Go.Proofs.Ytpjachbmllklgaa.Rng
open Go.RowKit Go.Shelf
set_option linter.unusedVariables false
set_option linter.unusedSimpArgs false
attribute [local go_sem] Oper.semAt_some

/-- Entries as they lie: each 43 cells. -/
def Row (W : World) (b off : Nat) (css : List (List Value)) : Prop := ∀ j, j < css.length → W.rangeAt b (off + j * 43) css[j]!
theorem Row.same {A B : World} {b off : Nat} {css : List (List Value)} (h : Row A b off css) (hb : B.heap[b]? = A.heap[b]?) : Row B b off css := fun j hj i v hi => by
  have := h j hj i v hi
  simpa [World.cell?, hb] using this
/-- The last m of them, the last one first. -/
def bw (css : List (List Value)) : Nat → List (Nat × List Value)
  | 0 => []
  | m + 1 => (m, css[m]!) :: bw css m
theorem back_steps (n : Nat) (hn : 1 ≤ n) (bx b off cap : Nat) (A : Option Addr) (css : List (List Value)) (hA : 0 < css.length → A = some ⟨b, off, none⟩) (h43 : ∀ j, j < css.length → css[j]!.length = 43) (hlen : css.length ≤ 1000000) :
    Steps n Try.prog 65 #[.pointer (some ⟨bx, 0, none⟩)] (fun x : Nat × List Value => #[.int .i64 (x.1 : Int), .agg x.2.toArray]) (bw css css.length)
      (fun W => W.cell? ⟨bx, 0, none⟩ = some (.slice A css.length cap) ∧ Row W b off css) (fun k => k = bx ∨ k = b) := by
  intro l J Jx W hH hul hlW hJ hJx hY h0
  have h65 : Fence.wide.fn 65 := trivial
  refine callsIn_of_wp Try.func65 rfl h65 ?_ rfl
  simp only [Try.ntmps65, List.size_toArray, List.length_cons, List.length_nil, Nat.reduceAdd, Nat.reduceSub, Array.replicate_succ, Array.replicate_zero, List.push_toArray, List.append_toArray, List.nil_append, List.cons_append]
  have hbx := hH.1
  gi_wp2
  have hlast : W.heap.size = W.heap.size := rfl
  gi_loopw [3] (fun i wr => ∃ (m : Nat) (pre : List (Nat × List Value)), m ≤ css.length ∧ i = .int .i64 ((m : Int) - 1) ∧ bw css css.length = pre ++ bw css m ∧ J pre wr ∧ l < wr.heap.size ∧ wr.cell? ⟨bx, 0, none⟩ = some (.slice A css.length cap) ∧ Row wr b off css)
    (fun i _ => (intOf i + 1).toNat)
  case atStart => exact ⟨css.length, [], Nat.le_refl _, rfl, rfl, h0, hlW, hH.1, hH.2⟩
  case round =>
    obtain ⟨m, pre, hm, rfl, hpre, hJs, hlt, hcx, hrow⟩ := hrel
    cases m with
    | zero =>
      gi_wp2
      go_end0
      exact ⟨⟨_, rfl⟩, .inl (by simpa [bw] using hJs)⟩
    | succ m =>
      obtain rfl := hA (by omega)
      clear hA
      obtain ⟨fn, tmps, assign, body, hy, hR⟩ := hY pre (m, css[m]!) (bw css m) wr hpre hJs hlt
      dsimp only at hy
      have hrg := hrow m (by omega)
      have hc43 := h43 m (by omega)
      have hge : (0 : Int) ≤ ((m + 1 : Nat) : Int) - 1 := by omega
      have hidx : ((m + 1 : Nat) : Int) - 1 = (m : Int) := by omega
      have hlt2 : (m : Int) < (css.length : Int) := by omega
      rw [hidx]
      generalize hcs : css[m]! = cs at *
      have hi59 : (Try.prog.info? 59).map (·.size) = some cs.length := by rw [hc43]; kernel_rfl
      gi_wp2_with (refine wpListIn_load_mid rfl 59 (.tmp 15) rfl b (off + m * 43) rfl cs _ hrg Try.underlying59 rfl hi59 ?_)
      refine hR.mono ?_
      rintro e W3 (⟨rfl, hJ3, hr3⟩ | ⟨rfl, hJx3, hr3⟩)
      · have hx3 : W3.cell? ⟨bx, 0, none⟩ = some (.slice (some ⟨b, off, none⟩) css.length cap) := by
          have := hr3.used bx (.inl rfl)
          simpa [World.cell?, this] using hcx
        have hw3 := hrow.same (hr3.used b (.inr rfl))
        have hl3 : l < W3.heap.size := Nat.lt_of_lt_of_le hlt hr3.size
        gi_wp2
        go_roundw
        case rel => exact ⟨m, pre ++ [(m, cs)], by omega, rfl, by rw [hpre]; simp [bw, hcs], hJ3, hl3, hx3, hw3⟩
        case measure => first | (simp [intOf]; done) | (simp [intOf]; omega)
      · gi_wp2
        refine bodyPost_ret (results_none rfl _ _ _) rfl ?_
        exact ⟨⟨_, rfl⟩, .inr ⟨pre, (m, cs), bw css m, by rw [hpre]; simp [bw, hcs], hJx3⟩⟩

/-- slices.Backward: the slice is boxed; the function value captures the box. -/
theorem backward_in (n : Nat) (A : Option Addr) (len cap : Nat) (w : World) :
    CallsIn Fence.wide n Try.prog 45 #[.slice A len cap] w fun e w' => e = .returned (.func (.func 65) #[] #[.pointer (some ⟨w.heap.size, 0, none⟩)]) ∧ w' = w.alloc (.cells #[.slice A len cap] 27) := by
  have h45 : Fence.wide.fn 45 := trivial
  refine callsIn_of_wp Try.func45 rfl h45 ?_ rfl
  simp only [Try.ntmps45, List.size_toArray, List.length_cons, List.length_nil, Nat.reduceAdd, Nat.reduceSub, Array.replicate_succ, Array.replicate_zero, List.push_toArray, List.append_toArray, List.nil_append, List.cons_append]
  gi_wp2
  go_ret
  exact ⟨rfl, rfl⟩
theorem roundIn_wide {n m l k : Nat} {P : Program} {f : FuncId} {tmps : Array Value} {assign body : Code} {w : World} {R : Ending → World → Prop} (h : RoundIn Fence.wide n P l f tmps assign body w R) : RoundIn (Fence.wide.inRound k) m P l f tmps assign body w R :=
  ⟨trivial, fun c cs _ => h.2 c cs (room_wide _)⟩
theorem roundIn_wide' {n m l : Nat} {P : Program} {f : FuncId} {tmps : Array Value} {assign body : Code} {w : World} {R : Ending → World → Prop} (h : RoundIn Fence.wide n P l f tmps assign body w R) : RoundIn Fence.wide m P l f tmps assign body w R :=
  ⟨trivial, fun c cs _ => h.2 c cs (room_wide _)⟩
end Go.Proofs.Ytpjachbmllklgaa.Rng
end
section
/- The numbers and terms of a log, from the last one on. -/
namespace Go.Proofs.Ytpjachbmllklgaa.Rng
open Go.RowKit Go.Shelf
set_option linter.unusedVariables false
set_option linter.unusedSimpArgs false
attribute [local go_sem] Oper.semAt_some

/-- An entry's number and term. -/
def numOf : Option Value → Int
  | some (Value.int _ x) => x
  | _ => 0
def itOf (cs : List Value) : Int × Int := (numOf cs[0]?, numOf cs[1]?)
/-- An entry's cells. -/
structure IsE (cs : List Value) : Prop where
  len : cs.length = 43
  one : ∀ u ∈ cs, u.oneCell' = true
  i0 : cs[0]? = some (.int .i64 (itOf cs).1)
  i1 : cs[1]? = some (.int .i64 (itOf cs).2)
/-- The last m numbers and terms, the last one first; then the snapshot's. -/
def dn (css : List (List Value)) (z : Int × Int) (m : Nat) : List (Int × Int) := (bw css m).map (fun p => itOf p.2) ++ [z]
theorem bw_mem : ∀ (css : List (List Value)) (m : Nat) (p : Nat × List Value), p ∈ bw css m → p.1 < m ∧ p.2 = css[p.1]!
  | css, m + 1, p, h => by
    rw [bw, List.mem_cons] at h
    rcases h with rfl | h
    · exact ⟨Nat.lt_succ_self _, rfl⟩
    · have := bw_mem css m p h
      exact ⟨by omega, this.2⟩
theorem size59 : (Try.prog.info? 59).map (·.size) = some 43 := by kernel_rfl

set_option maxRecDepth 100000 in
set_option maxHeartbeats 4000000 in
theorem down_steps (n : Nat) (hn : 5 ≤ n) (bs b off cap : Nat) (A : Option Addr) (css : List (List Value)) (si st : Int) (hA : 0 < css.length → A = some ⟨b, off, none⟩) (hE : ∀ j, j < css.length → IsE css[j]!) (hlen : css.length ≤ 1000000) :
    Steps n Try.prog 64 #[.pointer (some ⟨bs, 0, none⟩)] (fun x : Int × Int => #[.int .i64 x.1, .int .i64 x.2]) (dn css (si, st) css.length)
      (fun W => (W.cell? ⟨bs, 7, none⟩ = some (.slice A css.length cap) ∧ W.cell? ⟨bs, 2, none⟩ = some (.int .i64 si) ∧ W.cell? ⟨bs, 3, none⟩ = some (.int .i64 st)) ∧ Row W b off css) (fun k => k = bs ∨ k = b) := by
  intro l J Jx W hH hul hlW hJ hJx hY h0
  have h64 : Fence.wide.fn 64 := trivial
  refine callsIn_of_wp_marks Try.func64 rfl h64 ?_ rfl
  simp only [Try.ntmps64, List.size_toArray, List.length_cons, List.length_nil, Nat.reduceAdd, Nat.reduceSub, Array.replicate_succ, Array.replicate_zero, List.push_toArray, List.append_toArray, List.nil_append, List.cons_append]
  obtain ⟨⟨h7, h2, h3⟩, hrow⟩ := hH
  obtain ⟨W1, hW1⟩ : ∃ W1, W.alloc (.cells #[.func (.yield l) #[] #[]] 102) = W1 := ⟨_, rfl⟩
  have hbs : bs < l := hul bs (.inl rfl)
  have hb1 : Below W.heap.size W W1 := by rw [← hW1]; exact (Below.refl _ W).alloc (Nat.le_refl _) _
  have h7' : W1.cell? ⟨bs, 7, none⟩ = some (.slice A css.length cap) := (hb1.cell (p := ⟨bs, 7, none⟩) (by show bs < _; omega)).trans h7
  gi_wp2
  refine ⟨trivial, fun h => (by cases h), ?_⟩
  refine (backward_in _ A css.length cap _).mono ?_
  rintro e w' ⟨rfl, rfl⟩
  have hs1 : W1.heap.size = W.heap.size + 1 := by rw [← hW1]; simp
  have hyb1 : W1.heap[W.heap.size]? = some (.cells #[.func (.yield l) #[] #[]] 102 (0, 0)) := by rw [← hW1]; exact heap_alloc_new W _
  obtain ⟨W2, hW2⟩ : ∃ W2, W1.alloc (.cells #[.slice A css.length cap] 27) = W2 := ⟨_, rfl⟩
  have hb2 : Below W.heap.size W W2 := by rw [← hW2]; exact hb1.alloc (by omega) _
  have hs2 : W2.heap.size = W.heap.size + 2 := by rw [← hW2]; simp; omega
  have hbx2 : W2.heap[W.heap.size + 1]? = some (.cells #[.slice A css.length cap] 27 (0, 0)) := by rw [← hW2, ← hs1]; exact heap_alloc_new W1 _
  have hyb2 : W2.heap[W.heap.size]? = some (.cells #[.func (.yield l) #[] #[]] 102 (0, 0)) := by rw [← hW2]; exact (Below.heap_alloc W1 _ _ (by omega)).trans hyb1
  rw [hW2]
  have hbb : b < l := hul b (.inr rfl)
  have h64H : ∀ (X Y : World), ((X.cell? ⟨bs, 7, none⟩ = some (.slice A css.length cap) ∧ X.cell? ⟨bs, 2, none⟩ = some (.int .i64 si) ∧ X.cell? ⟨bs, 3, none⟩ = some (.int .i64 st)) ∧ Row X b off css) → Y.heap[bs]? = X.heap[bs]? → Y.heap[b]? = X.heap[b]? →
      ((Y.cell? ⟨bs, 7, none⟩ = some (.slice A css.length cap) ∧ Y.cell? ⟨bs, 2, none⟩ = some (.int .i64 si) ∧ Y.cell? ⟨bs, 3, none⟩ = some (.int .i64 st)) ∧ Row Y b off css) := fun X Y hX e1 e2 => by
    obtain ⟨⟨a1, a2, a3⟩, a4⟩ := hX
    exact ⟨⟨by simpa [World.cell?, e1] using a1, by simpa [World.cell?, e1] using a2, by simpa [World.cell?, e1] using a3⟩, a4.same e2⟩
  have H2 := h64H W W2 ⟨⟨h7, h2, h3⟩, hrow⟩ (hb2.block _ (by omega)) (hb2.block _ (by omega))
  gi_wp2
  refine wpIn_rangeFunc_st (gf := 65) (lb := #[.pointer (some ⟨W.heap.size + 1, 0, none⟩)]) (encs := fun x : Nat × List Value => #[.int .i64 (x.1 : Int), .agg x.2.toArray]) rfl (enters_of Try.func65 (by kernel_rfl) rfl)
    (back_steps (n - 1) (by omega) (W.heap.size + 1) b off cap A css hA (fun j hj => (hE j hj).len) hlen) (fun _ => rfl)
    ⟨by simp [World.cell?, hbx2], H2.2⟩
    (fun X Y hX hu => ⟨by have := hu (W.heap.size + 1) (.inl rfl); simpa [World.cell?, this] using hX.1, hX.2.same (hu b (.inr rfl))⟩)
    (fun k hk => by rcases hk with rfl | rfl <;> omega)
    (fun (pre : List (Nat × List Value)) (X : World) => J (pre.map (fun (p : Nat × List Value) => itOf p.2)) X ∧ X.heap[W.heap.size]? = some (.cells #[.func (.yield l) #[] #[]] 102 (0, 0)) ∧
      ((X.cell? ⟨bs, 7, none⟩ = some (.slice A css.length cap) ∧ X.cell? ⟨bs, 2, none⟩ = some (.int .i64 si) ∧ X.cell? ⟨bs, 3, none⟩ = some (.int .i64 st)) ∧ Row X b off css))
    (fun (c : Code) (pre : List (Nat × List Value)) (X : World) => c = .ret ∧ Jx (pre.map (fun (p : Nat × List Value) => itOf p.2)) X)
    (fun pre X Y hX hb => ⟨hJ _ _ _ hX.1 (hb.mono (by omega)), (hb.block _ (by omega)).trans hX.2.1, h64H X Y hX.2.2 (hb.block _ (by omega)) (hb.block _ (by omega))⟩)
    (fun c pre X Y hX hb => ⟨hX.1, hJx _ _ _ hX.2 (hb.mono (by omega))⟩)
    ⟨hJ _ _ _ h0 (hb2.mono (by omega)), hyb2, H2⟩ ?round ?done ?stop
  case round =>
    rintro pre x rest X hxs ⟨hJX, hybX, hHX⟩ hHold hltX
    have hx : x ∈ bw css css.length := by rw [hxs]; simp
    obtain ⟨hx1, hx2⟩ := bw_mem css _ x hx
    have hEx : IsE x.2 := by rw [hx2]; exact hE _ hx1
    obtain ⟨j, cs⟩ := x
    dsimp only at hEx hxs
    have hi59 : (Try.prog.info? 59).map (·.size) = some cs.toArray.size := by rw [List.size_toArray, hEx.len]; exact size59
    have h1c : cs.toArray.all (·.oneCell') = true := by
      rw [Array.all_eq_true_iff_forall_mem]
      intro u hu
      exact hEx.one u (by simpa using hu)
    have hlen0 : cs.length = 43 := hEx.len
    clear hx hx1 hx2
    dsimp only
    gi_wp2_with (refine wpListIn_store_new rfl 59 (.tmp 4) (.tmp 9) rfl cs.toArray _ 59 rfl rfl hi59 ?hold h1c ?_)
    case hold => simp [hlen0]
    have hXs : W2.heap.size + 1 < X.heap.size := hltX
    have hal : ∀ k, k < X.heap.size → (X.alloc (.cells cs.toArray 59)).heap[k]? = X.heap[k]? := fun k hk => heap_alloc_old X _ k hk
    refine ⟨⟨by simp, fun k _ h2 => hal k h2, fun k hk => hal k (by rcases hk with rfl | rfl <;> omega)⟩, fun Y hbY hsY hoY => ?_⟩
    have hsY' : Y.heap.size = X.heap.size + 1 := by rw [hsY]; simp
    have hYX : ∀ k, k ≠ W2.heap.size + 1 → k < X.heap.size → Y.heap[k]? = X.heap[k]? := fun k h1 h2 => (hoY k h1).trans (hal k h2)
    have hBXY : Below (l + 1) X Y := ⟨hbY.os, hbY.tape, hbY.output, by omega, fun k hk => hYX k (by omega) (by omega)⟩
    have hybY : Y.cell? ⟨W.heap.size, 0, none⟩ = some (.func (.yield l) #[] #[]) := by
      have := (hYX W.heap.size (by omega) (by omega)).trans hybX
      simp [World.cell?, this]
    have heY : Y.heap[X.heap.size]? = some (.cells cs.toArray 59 (0, 0)) := (hoY _ (by omega)).trans (heap_alloc_new X _)
    have he0 : Y.cell? ⟨X.heap.size, 0, none⟩ = some (.int .i64 (itOf cs).1) := by simp [World.cell?, heY, hEx.i0]
    have he1 : Y.cell? ⟨X.heap.size, 1, none⟩ = some (.int .i64 (itOf cs).2) := by simp [World.cell?, heY, hEx.i1]
    have hJY := hJ _ _ _ hJX hBXY
    have hHY := h64H X Y hHX (hYX _ (by omega) (by omega)) (hYX _ (by omega) (by omega))
    obtain ⟨fn, tmps, assign, body, hy, hR⟩ := hY (pre.map (fun (p : Nat × List Value) => itOf p.2)) (itOf cs) (rest.map (fun (p : Nat × List Value) => itOf p.2) ++ [(si, st)]) Y (by rw [dn, hxs]; simp) hJY (by omega)
    try dsimp only at hy
    have hybX' : Y.heap[W.heap.size]? = some (.cells #[.func (.yield l) #[] #[]] 102 (0, 0)) := (hYX W.heap.size (by omega) (by omega)).trans hybX
    clear hY hJX hHX hHold
    generalize hit : itOf cs = it at *
    obtain ⟨i1, i2⟩ := it
    try dsimp only at hy he0 he1
    gi_wp2
    refine ⟨fun h => (by cases h), (roundIn_wide hR).mono ?_⟩
    rintro e Z (⟨rfl, hJZ, hrZ⟩ | ⟨rfl, hJxZ, hrZ⟩)
    · have hk : Kp W2.heap.size (fun k => k = W.heap.size + 1 ∨ k = b) Y Z := ⟨hrZ.size, fun k h1 h2 => hrZ.above k (by omega) h2, fun k hk => by
        rcases hk with rfl | rfl
        · exact hrZ.above _ (by omega) (by omega)
        · exact hrZ.used _ (.inr rfl)⟩
      have hIZ := And.intro hJZ (And.intro ((hrZ.above W.heap.size (by omega) (by omega)).trans hybX') (h64H Y Z hHY (hrZ.used _ (.inl rfl)) (hrZ.used _ (.inr rfl))))
      gi_wp2
      exact ⟨hk, by dsimp only; rw [List.map_append, List.map_singleton, hit]; exact hIZ⟩
    · have hk : Kp W2.heap.size (fun k => k = W.heap.size + 1 ∨ k = b) Y Z := ⟨hrZ.size, fun k h1 h2 => hrZ.above k (by omega) h2, fun k hk => by
        rcases hk with rfl | rfl
        · exact hrZ.above _ (by omega) (by omega)
        · exact hrZ.used _ (.inr rfl)⟩
      gi_wp2
      exact ⟨hk, rfl, by rw [List.map_append, List.map_singleton, hit]; exact hJxZ⟩
  case done =>
    rintro X ⟨hJX, hybX, hHX⟩ hHold hltX hD
    have hyc : X.cell? ⟨W.heap.size, 0, none⟩ = some (.func (.yield l) #[] #[]) := by simp [World.cell?, hybX]
    obtain ⟨⟨_, x2, x3⟩, _⟩ := hHX
    obtain ⟨fn, tmps, assign, body, hy, hR⟩ := hY ((bw css css.length).map (fun (p : Nat × List Value) => itOf p.2)) (si, st) [] X rfl hJX (by omega)
    dsimp only at hy
    clear hY hJX hHold
    gi_wp2
    refine ⟨fun h => (by cases h), RoundIn.mono (roundIn_wide' hR) ?_⟩
    rintro e Z (⟨rfl, hJZ, hrZ⟩ | ⟨rfl, hJxZ, hrZ⟩)
    · have hDZ : Z.heap[W.heap.size + 2]? = some (.deferred (some [])) := (hrZ.above _ (by omega) (by omega)).trans (by rw [← hs2]; exact hD)
      gi_wp2
      refine ⟨by simp, .inl ⟨_, _, rfl, run_takeDeferred hDZ, ?_⟩⟩
      exact ⟨_, results_none rfl _ _ _, ⟨_, rfl⟩, .inl (hJ _ Z _ hJZ (below_putObj (by omega) _ hDZ))⟩
    · have hDZ : Z.heap[W.heap.size + 2]? = some (.deferred (some [])) := (hrZ.above _ (by omega) (by omega)).trans (by rw [← hs2]; exact hD)
      gi_wp2
      refine ⟨by simp, .inl ⟨_, _, rfl, run_takeDeferred hDZ, ?_⟩⟩
      exact ⟨_, results_none rfl _ _ _, ⟨_, rfl⟩, .inr ⟨_, _, _, rfl, hJx _ Z _ hJxZ (below_putObj (by omega) _ hDZ)⟩⟩
  case stop =>
    rintro c pre x rest X hxs ⟨rfl, hJX⟩ hltX hD
    gi_wp2
    refine ⟨by simp, .inl ⟨_, _, rfl, run_takeDeferred hD, ?_⟩⟩
    exact ⟨_, results_none rfl _ _ _, ⟨_, rfl⟩, .inr ⟨pre.map (fun (p : Nat × List Value) => itOf p.2), itOf x.2, rest.map (fun (p : Nat × List Value) => itOf p.2) ++ [(si, st)], by rw [dn, hxs]; simp, by have := hJx _ X _ hJX (below_putObj (n0 := l + 1) (by omega) (.deferred none) hD); simpa using this⟩⟩
end Go.Proofs.Ytpjachbmllklgaa.Rng
end
section
/- What a log is, and whether it goes on: Check and sound. -/
namespace Go.Proofs.Ytpjachbmllklgaa.Rng
open Go.RowKit Go.Proofs.YtpjachbmllklgaaW.PrintWords
set_option linter.unusedVariables false
set_option linter.unusedSimpArgs false

/-- What a node saves, as a value. -/
structure Sv where
  t : Int
  v : Int
  si : Int
  st : Int
  Va : Option Addr
  Vn : Nat
  Vc : Nat
  La : Option Addr
  Ln : Nat
  Lc : Nat
  d : ByteArray
  A : Option Addr
  n : Nat
  cap : Nat
  Ga : Option Addr
  Gn : Nat
  Gc : Nat
def Sv.cells (s : Sv) : Array Value := #[.int .i64 s.t, .int .i64 s.v, .int .i64 s.si, .int .i64 s.st, .slice s.Va s.Vn s.Vc, .slice s.La s.Ln s.Lc, .string s.d, .slice s.A s.n s.cap, .slice s.Ga s.Gn s.Gc]
def Sv.none : Sv := ⟨0, 0, 0, 0, Option.none, 0, 0, Option.none, 0, 0, ⟨#[]⟩, Option.none, 0, 0, Option.none, 0, 0⟩
/-- A log's entries, as they lie. -/
structure Lg (W : World) (s : Sv) (b off : Nat) (css : List (List Value)) : Prop where
  n : s.n = css.length
  A : 0 < css.length → s.A = some ⟨b, off, Option.none⟩
  row : Row W b off css
  e : ∀ j, j < css.length → IsE css[j]!
  rng : ∀ j, j < css.length → -9223372036854775808 ≤ (itOf css[j]!).1 ∧ (itOf css[j]!).1 ≤ 9223372036854775807
  len : css.length ≤ 1000000
  b : b < W.heap.size ∨ css = []
theorem Lg.below {W W' : World} {s : Sv} {b off : Nat} {css : List (List Value)} (h : Lg W s b off css) (hb : Below W.heap.size W W') : Lg W' s b off css := by
  refine ⟨h.n, h.A, ?_, h.e, h.rng, h.len, ?_⟩
  · rcases h.b with g | g
    · exact h.row.same (hb.block b g)
    · subst g; intro j hj; simp at hj
  · rcases h.b with g | g
    · exact .inl (Nat.lt_of_lt_of_le g hb.size)
    · exact .inr g
/-- From a number on, each one more. -/
def goesB : Int → List (Int × Int) → Bool
  | _, [] => true
  | k, e :: l => decide (e.1 = k + 1) && goesB (k + 1) l
def checkB (si : Int) (l : List (Int × Int)) : Bool := decide (0 ≤ si) && decide (si ≤ 900000000) && decide (l.length ≤ 9000) && goesB si l
theorem goesB_iff : ∀ (l : List (Int × Int)) (k : Int), goesB k l = true ↔ ∀ j, j < l.length → l[j]!.1 = k + 1 + j
  | [], k => by simp [goesB]
  | e :: l, k => by
    rw [goesB, Bool.and_eq_true, decide_eq_true_eq, goesB_iff l (k + 1)]
    constructor
    · rintro ⟨h1, h2⟩ j hj
      cases j with
      | zero => simpa using h1
      | succ j =>
        have := h2 j (by simpa using hj)
        simp only [List.getElem!_cons_succ]
        omega
    · intro h
      refine ⟨by simpa using h 0 (by simp), fun j hj => ?_⟩
      have := h (j + 1) (by simpa using hj)
      simp only [List.getElem!_cons_succ] at this
      omega
def its (css : List (List Value)) : List (Int × Int) := css.map itOf
theorem its_get (css : List (List Value)) (j : Nat) (h : j < css.length) : (its css)[j]! = itOf css[j]! := by
  rw [getElem!_pos (its css) j (by simpa [its] using h), getElem!_pos css j h]
  simp [its]
theorem its_length (css : List (List Value)) : (its css).length = css.length := by simp [its]

set_option maxHeartbeats 8000000 in
set_option maxRecDepth 100000 in
theorem check_c (s : Sv) (b off : Nat) (css : List (List Value)) (w : World) (h : Lg w s b off css) :
    Calls Try.prog 10 #[.agg s.cells] w fun e w' => e = .returned (.int .i64 (if checkB s.si (its css) then 0 else 1)) ∧ Below w.heap.size w w' := by
  have hn := h.n
  obtain ⟨t, v, si, st, Va, Vn, Vc, La, Ln, Lc, d, A, n, cap, Ga, Gn, Gc⟩ := s
  dsimp only at hn ⊢
  subst hn
  unfold Sv.cells
  dsimp only
  by_cases g1 : si < 0
  · have hc : checkB si (its css) = false := by simp [checkB]; omega
    rw [hc]
    clear h hc
    go_enter Try.func10, Try.ntmps10
    go_wp2
    go_ret
    exact ⟨rfl, (Below.refl _ w).alloc (Nat.le_refl _) _⟩
  by_cases g2 : si > 900000000
  · have hc : checkB si (its css) = false := by simp [checkB]; omega
    rw [hc]
    clear h hc
    go_enter Try.func10, Try.ntmps10
    go_wp2
    go_ret
    exact ⟨rfl, (Below.refl _ w).alloc (Nat.le_refl _) _⟩
  by_cases g3 : (css.length : Int) > 9000
  · have hc : checkB si (its css) = false := by simp [checkB, its_length]; omega
    rw [hc]
    clear h hc
    go_enter Try.func10, Try.ntmps10
    go_wp2
    go_ret
    exact ⟨rfl, (Below.refl _ w).alloc (Nat.le_refl _) _⟩
  have H := Aside0.mk h
  clear h
  generalize hrv : (if checkB si (its css) = true then (0 : Int) else 1) = rv
  have RV := Aside0.mk hrv
  clear hrv
  go_enter Try.func10, Try.ntmps10
  go_wp2_with fail
  obtain ⟨W0, hW0⟩ : ∃ W0, w.alloc (.cells #[.int .i64 t, .int .i64 v, .int .i64 si, .int .i64 st, .slice Va Vn Vc, .slice La Ln Lc, .string d, .slice A css.length cap, .slice Ga Gn Gc] 30) = W0 := ⟨_, rfl⟩
  have hb0 : Below w.heap.size w W0 := by rw [← hW0]; exact (Below.refl _ w).alloc (Nat.le_refl _) _
  have hc2 : W0.cell? ⟨w.heap.size, 2, none⟩ = some (.int .i64 si) := by rw [← hW0]; simp
  have hs0 : w.heap.size < W0.heap.size := by rw [← hW0]; simp
  rw [hW0]
  have HW := Aside0.mk hW0
  clear hW0
  go_loopg [24] css.length (fun gg s24 wr => ∃ kk : Nat, kk ≤ css.length ∧ css.length - kk ≤ gg ∧ s24 = .int .i64 kk ∧ Aside (Below W0.heap.size W0 wr) ∧ Aside (∀ j, j < kk → (itOf css[j]!).1 = si + 1 + j))
  case atStart => exact ⟨0, by omega, by omega, rfl, Below.refl _ _, fun j hj => absurd hj (Nat.not_lt_zero _)⟩
  case round =>
    obtain ⟨kk, hk, hg, rfl, B, G⟩ := hrel
    by_cases hlt : kk < css.length
    · have hltz : (kk : Int) < (css.length : Int) := by omega
      obtain rfl := H.out.A (by omega)
      have hL := (H.out.below hb0).below B.out
      have hrg := hL.row kk hlt
      have hE := hL.e kk hlt
      have hr := hL.rng kk hlt
      have hc2' : wr.cell? ⟨w.heap.size, 2, none⟩ = some (.int .i64 si) := (B.out.cell (p := ⟨w.heap.size, 2, none⟩) hs0).trans hc2
      have hsz := B.out.size
      clear hL
      generalize hcs : css[kk]! = cs at hrg hE hr
      have CS := Aside0.mk hcs
      clear hcs
      have hi59 : (Try.prog.info? 59).map (·.size) = some cs.length := by rw [hE.len]; exact size59
      have hi59' : (Try.prog.info? 59).map (·.size) = some cs.toArray.size := by rw [List.size_toArray, hE.len]; exact size59
      have h1c : cs.toArray.all (·.oneCell') = true := by
        rw [Array.all_eq_true_iff_forall_mem]
        intro u hu
        exact hE.one u (by simpa using hu)
      have hl43 : cs.length = 43 := hE.len
      have hcell : (wr.alloc (.cells cs.toArray 59)).cell? ⟨wr.heap.size, 0, none⟩ = some (.int .i64 (itOf cs).1) := by
        simp only [World.cell?]
        rw [heap_alloc_new]
        simpa using hE.i0
      have hce2 : (wr.alloc (.cells cs.toArray 59)).cell? ⟨w.heap.size, 2, none⟩ = some (.int .i64 si) := by
        rw [← hc2']
        simp only [World.cell?]
        rw [heap_alloc_old _ _ _ (by omega)]
      have HE := Aside0.mk hE
      clear hE
      generalize hx : (itOf cs).1 = x at hcell hr
      have X := Aside0.mk hx
      clear hx
      have hgs : 0 ≤ si ∧ si ≤ 900000000 ∧ css.length ≤ 9000 := by omega
      by_cases he : x = si + 1 + kk
      · have hw : wrap64 (wrap64 (x - 1) - kk) = si := by
          have e1 : wrap64 (x - 1) = x - 1 := by unfold wrap64; omega
          rw [e1]; unfold wrap64; omega
        have HE2 := Aside0.mk he
        clear he
        go_wp2_with (first | (refine wpList_load_mid rfl 59 (.tmp 27) rfl b (off + kk * 43) rfl cs _ hrg Try.underlying59 rfl hi59 ?_) | (refine wpList_store_new rfl 59 (.tmp 4) (.tmp 28) rfl cs.toArray _ 59 rfl rfl hi59' ?hold h1c ?_))
        case hold => simp [hl43]
        go_roundg (css.length - (kk + 1))
        case measure => omega
        case rel =>
          refine ⟨kk + 1, by omega, by omega, by go_num, B.out.alloc hsz _, (show Aside _ from fun j hj => ?_)⟩
          by_cases e : j = kk
          · subst e; rw [CS.out, X.out]; exact HE2.out
          · exact G.out j (by omega)
      · have hw : ¬ wrap64 (wrap64 (x - 1) - kk) = si := by
          unfold wrap64; omega
        go_wp2_with (first | (refine wpList_load_mid rfl 59 (.tmp 27) rfl b (off + kk * 43) rfl cs _ hrg Try.underlying59 rfl hi59 ?_) | (refine wpList_store_new rfl 59 (.tmp 4) (.tmp 28) rfl cs.toArray _ 59 rfl rfl hi59' ?hold h1c ?_))
        case hold => simp [hl43]
        go_ret
        refine ⟨?_, hb0.trans ((B.out.alloc hsz _).mono hb0.size)⟩
        rw [← RV.out]
        have hc : checkB si (its css) = false := by
          cases hcb : checkB si (its css) with
          | false => rfl
          | true =>
            exfalso
            simp only [checkB, Bool.and_eq_true] at hcb
            have := (goesB_iff _ _).1 hcb.2 kk (by rw [its_length]; exact hlt)
            rw [its_get css kk hlt, CS.out, X.out] at this
            exact he this
        rw [hc]; rfl
    · have hltz : ¬ (kk : Int) < (css.length : Int) := by omega
      have : kk = css.length := by omega
      subst this
      go_wp2
      go_ret
      refine ⟨?_, hb0.trans (B.out.mono hb0.size)⟩
      rw [← RV.out]
      have hc : checkB si (its css) = true := by
        simp only [checkB, Bool.and_eq_true, decide_eq_true_eq, its_length]
        refine ⟨⟨⟨by omega, by omega⟩, by omega⟩, (goesB_iff _ _).2 (fun j hj => ?_)⟩
        rw [its_length] at hj
        rw [its_get css j hj]
        exact G.out j hj
      rw [hc]; rfl
end Go.Proofs.Ytpjachbmllklgaa.Rng
end
section
/- The log that is asked: sound; and down. -/
namespace Go.Proofs.Ytpjachbmllklgaa.Rng
open Go.RowKit Go.Proofs.YtpjachbmllklgaaW.PrintWords
set_option linter.unusedVariables false
set_option linter.unusedSimpArgs false

theorem below_setRow {n0 : Nat} {w W : World} (h : Below n0 w W) (g : Nat) (hg : n0 ≤ g) (cs : Array Value) : Below n0 w (W.setRow g cs) :=
  ⟨h.os, h.tape, h.output, by simp only [World.setRow, Array.size_modify]; exact h.size, fun k hk => by rw [setRow_other W g k cs (by omega)]; exact h.block k hk⟩
theorem size30 : (Try.prog.info? 30).map (·.size) = some 9 := by kernel_rfl
/-- The log that is asked. -/
def Sv.sound (s : Sv) (css : List (List Value)) : Sv := if checkB s.si (its css) then s else Sv.none
def soundE (s : Sv) (css : List (List Value)) : List (List Value) := if checkB s.si (its css) then css else []
theorem Lg.sound {W : World} {s : Sv} {b off : Nat} {css : List (List Value)} (h : Lg W s b off css) : Lg W (s.sound css) b off (soundE s css) := by
  unfold Sv.sound soundE
  cases checkB s.si (its css) with
  | true => exact h
  | false => exact ⟨rfl, fun g => by simp at g, fun j hj => by simp at hj, fun j hj => by simp at hj, fun j hj => by simp at hj, by simp, .inr rfl⟩

set_option maxHeartbeats 8000000 in
set_option maxRecDepth 100000 in
theorem sound_c (s : Sv) (b off : Nat) (css : List (List Value)) (w : World) (h : Lg w s b off css) :
    Calls Try.prog 40 #[.agg s.cells] w fun e w' => e = .returned (.agg (s.sound css).cells) ∧ Below w.heap.size w w' := by
  have e10 : ∀ args w, (callFunc 10 args).run Try.prog w = .ok (.enter 10 args) w := enters_of Try.func10 (by kernel_rfl) rfl
  have H := Aside0.mk h
  clear h
  obtain ⟨t, v, si, st, Va, Vn, Vc, La, Ln, Lc, d, A, n, cap, Ga, Gn, Gc⟩ := s
  generalize hrc : (Sv.sound ⟨t, v, si, st, Va, Vn, Vc, La, Ln, Lc, d, A, n, cap, Ga, Gn, Gc⟩ css).cells = rc
  have RC := Aside0.mk hrc
  clear hrc
  unfold Sv.cells
  go_enter Try.func40, Try.ntmps40
  go_wp2_with fail
  have hb0 : Below w.heap.size w ((w.alloc (.cells #[.int .i64 t, .int .i64 v, .int .i64 si, .int .i64 st, .slice Va Vn Vc, .slice La Ln Lc, .string d, .slice A n cap, .slice Ga Gn Gc] 30)).alloc (.cells #[.int .i64 0, .int .i64 0, .int .i64 0, .int .i64 0, .slice none 0 0, .slice none 0 0, .string ⟨#[]⟩, .slice none 0 0, .slice none 0 0] 30)) := ((Below.refl _ w).alloc (Nat.le_refl _) _).alloc (by simp) _
  have hs0 : ((w.alloc (.cells #[.int .i64 t, .int .i64 v, .int .i64 si, .int .i64 st, .slice Va Vn Vc, .slice La Ln Lc, .string d, .slice A n cap, .slice Ga Gn Gc] 30)).alloc (.cells #[.int .i64 0, .int .i64 0, .int .i64 0, .int .i64 0, .slice none 0 0, .slice none 0 0, .string ⟨#[]⟩, .slice none 0 0, .slice none 0 0] 30)).heap.size = w.heap.size + 2 := by simp
  have hbox := (heap_alloc_old (w.alloc (.cells #[.int .i64 t, .int .i64 v, .int .i64 si, .int .i64 st, .slice Va Vn Vc, .slice La Ln Lc, .string d, .slice A n cap, .slice Ga Gn Gc] 30)) (.cells #[.int .i64 0, .int .i64 0, .int .i64 0, .int .i64 0, .slice none 0 0, .slice none 0 0, .string ⟨#[]⟩, .slice none 0 0, .slice none 0 0] 30) w.heap.size (by simp)).trans (heap_alloc_new w _)
  have hres := heap_alloc_new (w.alloc (.cells #[.int .i64 t, .int .i64 v, .int .i64 si, .int .i64 st, .slice Va Vn Vc, .slice La Ln Lc, .string d, .slice A n cap, .slice Ga Gn Gc] 30)) (.cells #[.int .i64 0, .int .i64 0, .int .i64 0, .int .i64 0, .slice none 0 0, .slice none 0 0, .string ⟨#[]⟩, .slice none 0 0, .slice none 0 0] 30)
  rw [World.size_alloc] at hres
  generalize ((w.alloc (.cells #[.int .i64 t, .int .i64 v, .int .i64 si, .int .i64 st, .slice Va Vn Vc, .slice La Ln Lc, .string d, .slice A n cap, .slice Ga Gn Gc] 30)).alloc (.cells #[.int .i64 0, .int .i64 0, .int .i64 0, .int .i64 0, .slice none 0 0, .slice none 0 0, .string ⟨#[]⟩, .slice none 0 0, .slice none 0 0] 30)) = W0 at hb0 hs0 hbox hres ⊢
  have hchk := check_c ⟨t, v, si, st, Va, Vn, Vc, La, Ln, Lc, d, A, n, cap, Ga, Gn, Gc⟩ b off css W0 (H.out.below hb0)
  refine hchk.mono ?_
  rintro e w2 ⟨rfl, hb2⟩
  have hres2 := (hb2.block (w.heap.size + 1) (by omega)).trans hres
  have hbox2 := (hb2.block w.heap.size (by omega)).trans hbox
  have hbw : Below w.heap.size w w2 := hb0.trans (hb2.mono hb0.size)
  clear hchk hbox hres
  have hi30 : ∀ cells : Array Value, cells.size = 9 → (Try.prog.info? 30).map (·.size) = some cells.size := fun c hc => by rw [hc]; exact size30
  have rc' := RC.out
  unfold Sv.sound at rc'
  dsimp only at rc' ⊢
  cases hc : checkB si (its css) with
  | true =>
    rw [hc, if_pos rfl] at rc'
    have RC2 := Aside0.mk (rc' : #[.int .i64 t, .int .i64 v, .int .i64 si, .int .i64 st, .slice Va Vn Vc, .slice La Ln Lc, .string d, .slice A n cap, .slice Ga Gn Gc] = rc)
    clear rc'
    go_wp2_with (first | (refine wpList_load_row rfl 30 (.tmp 1) rfl w.heap.size rfl 30 _ (0, 0) _ hbox2 Try.underlying30 rfl (hi30 _ rfl) ?_) | (refine wpList_store_row rfl 30 (.tmp 2) (.tmp 7) rfl (w.heap.size + 1) _ rfl rfl 30 _ hres2 (hi30 _ rfl) rfl (by simp [Value.oneCell']) ?_))
    have hg := setRow_heap w2 (w.heap.size + 1) _ (#[.int .i64 t, .int .i64 v, .int .i64 si, .int .i64 st, .slice Va Vn Vc, .slice La Ln Lc, .string d, .slice A n cap, .slice Ga Gn Gc] : Array Value) 30 (0, 0) hres2
    refine bodyPost_ret (results_cell_row rfl _ _ (w.heap.size + 1) 30 _ (0, 0) _ rfl hg Try.underlying30 rfl (hi30 _ rfl)) rfl ?_
    exact ⟨by rw [← RC2.out]; rfl, below_setRow hbw _ (by omega) _⟩
  | false =>
    rw [hc, if_neg (by simp)] at rc'
    have RC2 := Aside0.mk (rc' : #[.int .i64 0, .int .i64 0, .int .i64 0, .int .i64 0, .slice none 0 0, .slice none 0 0, .string ⟨#[]⟩, .slice none 0 0, .slice none 0 0] = rc)
    clear rc'
    go_wp2_with (first | (refine wpList_store_row rfl 30 (.tmp 2) (.tmp 6) rfl (w.heap.size + 1) _ rfl rfl 30 _ hres2 (hi30 _ rfl) rfl (by simp [Value.oneCell']) ?_))
    have hg := setRow_heap w2 (w.heap.size + 1) _ (#[.int .i64 0, .int .i64 0, .int .i64 0, .int .i64 0, .slice none 0 0, .slice none 0 0, .string ⟨#[]⟩, .slice none 0 0, .slice none 0 0] : Array Value) 30 (0, 0) hres2
    refine bodyPost_ret (results_cell_row rfl _ _ (w.heap.size + 1) 30 _ (0, 0) _ rfl hg Try.underlying30 rfl (hi30 _ rfl)) rfl ?_
    exact ⟨by rw [← RC2.out]; rfl, below_setRow hbw _ (by omega) _⟩
end Go.Proofs.Ytpjachbmllklgaa.Rng
end
section
/- How a log ends. -/
namespace Go.Proofs.Ytpjachbmllklgaa.Rng
open Go.RowKit Go.Shelf Go.Proofs.YtpjachbmllklgaaW.PrintWords
set_option linter.unusedVariables false
set_option linter.unusedSimpArgs false

theorem down_c (s : Sv) (w : World) : Calls Try.prog 39 #[.agg s.cells] w fun e w' => e = .returned (.func (.func 64) #[] #[.pointer (some ⟨w.heap.size, 0, none⟩)]) ∧ w' = w.alloc (.cells s.cells 30) := by
  obtain ⟨t, v, si, st, Va, Vn, Vc, La, Ln, Lc, d, A, n, cap, Ga, Gn, Gc⟩ := s
  unfold Sv.cells
  go_enter Try.func39, Try.ntmps39
  go_wp2
  go_ret
  exact ⟨rfl, rfl⟩
/-- The first of the numbers and terms, the last one first. -/
def lastV (s : Sv) (css : List (List Value)) : Int × Int := match css.length with
  | 0 => (s.si, s.st)
  | m + 1 => itOf css[m]!
theorem dn_last (s : Sv) (css : List (List Value)) : ∃ rest, dn css (s.si, s.st) css.length = lastV s css :: rest := by
  unfold lastV dn
  cases css.length with
  | zero => exact ⟨[], rfl⟩
  | succ m => exact ⟨_, rfl⟩
attribute [local go_sem] Oper.semAt_some
/-- Two boxes, side by side, are stored to. -/
theorem two_sets {n0 : Nat} {w Y : World} (hb : Below n0 w Y) (p : Nat) (hp : n0 ≤ p) (u1 u2 y1 y2 : Value) (h1 : Y.heap[p]? = some (.cells #[u1] 3 (0, 0))) (h2 : Y.heap[p + 1]? = some (.cells #[u2] 3 (0, 0))) :
    Below n0 w ((Y.setCell ⟨p, 0, none⟩ y1).setCell ⟨p + 1, 0, none⟩ y2) ∧ ((Y.setCell ⟨p, 0, none⟩ y1).setCell ⟨p + 1, 0, none⟩ y2).heap.size = Y.heap.size ∧
    ((Y.setCell ⟨p, 0, none⟩ y1).setCell ⟨p + 1, 0, none⟩ y2).heap[p]? = some (.cells #[y1] 3 (0, 0)) ∧ ((Y.setCell ⟨p, 0, none⟩ y1).setCell ⟨p + 1, 0, none⟩ y2).heap[p + 1]? = some (.cells #[y2] 3 (0, 0)) ∧
    ∀ k, k ≠ p → k ≠ p + 1 → ((Y.setCell ⟨p, 0, none⟩ y1).setCell ⟨p + 1, 0, none⟩ y2).heap[k]? = Y.heap[k]? := by
  refine ⟨(hb.setCell (p := ⟨p, 0, none⟩) hp _).setCell (p := ⟨p + 1, 0, none⟩) (by show n0 ≤ p + 1; omega) _, by simp [World.setCell], ?_, ?_, fun k k1 k2 => by rw [Below.heap_setCell _ _ _ _ (show k ≠ p + 1 by omega), Below.heap_setCell _ _ _ _ k1]⟩
  · rw [Below.heap_setCell _ _ _ _ (show p ≠ p + 1 by omega)]
    simp [World.setCell, Array.getElem?_modify, h1]
  · have k1 : (Y.setCell ⟨p, 0, none⟩ y1).heap[p + 1]? = some (.cells #[u2] 3 (0, 0)) := (Below.heap_setCell _ _ _ _ (show p + 1 ≠ p by omega)).trans h2
    show ((Y.setCell ⟨p, 0, none⟩ y1).heap.modify (p + 1) _)[p + 1]? = _
    rw [Array.getElem?_modify, if_pos rfl, k1]
    rfl
theorem results_2c {fn : Func} {p q : Tmp} (h : fn.results = #[.cell p 3, .cell q 3]) (tmps : Array Value) (w : World) (g k : Nat) (t1 t2 : TypeId) (x y : Int)
    (hp : tmps.getD p undef = .pointer (some ⟨g, 0, none⟩)) (hq : tmps.getD q undef = .pointer (some ⟨k, 0, none⟩))
    (hg : w.heap[g]? = some (.cells #[.int .i64 x] t1 (0, 0))) (hk : w.heap[k]? = some (.cells #[.int .i64 y] t2 (0, 0))) :
    (results fn tmps).run Try.prog w = .ok (.tuple #[.int .i64 x, .int .i64 y]) w := by
  have hp' : tmps[p]?.getD undef = .pointer (some ⟨g, 0, none⟩) := by simpa using hp
  have hq' : tmps[q]?.getD undef = .pointer (some ⟨k, 0, none⟩) := by simpa using hq
  have c1 : w.cell? ⟨g, 0, none⟩ = some (.int .i64 x) := by simp [World.cell?, hg]
  have c2 : w.cell? ⟨k, 0, none⟩ = some (.int .i64 y) := by simp [World.cell?, hk]
  simp [results, h, hp', hq', asAddr, go_sem, c1, c2]

set_option maxHeartbeats 8000000 in
set_option maxRecDepth 100000 in
theorem last_c (s : Sv) (b off : Nat) (css : List (List Value)) (w : World) (h : Lg w s b off css) :
    Calls Try.prog 11 #[.agg s.cells] w fun e w' => e = .returned (.tuple #[.int .i64 (lastV (s.sound css) (soundE s css)).1, .int .i64 (lastV (s.sound css) (soundE s css)).2]) ∧ Below w.heap.size w w' := by
  generalize hx : lastV (s.sound css) (soundE s css) = x
  have X := Aside0.mk hx
  clear hx
  obtain ⟨x1, x2⟩ := x
  dsimp only
  refine (callsIn_wide (n := 9)).1 ?_
  refine callsIn_of_wp_marks Try.func11 rfl trivial ?_ rfl
  simp only [Try.ntmps11, List.size_toArray, List.length_cons, List.length_nil, Nat.reduceAdd, Nat.reduceSub, Array.replicate_succ, Array.replicate_zero, List.push_toArray, List.append_toArray, List.nil_append, List.cons_append]
  have hcl : s.cells = #[.int .i64 s.t, .int .i64 s.v, .int .i64 s.si, .int .i64 s.st, .slice s.Va s.Vn s.Vc, .slice s.La s.Ln s.Lc, .string s.d, .slice s.A s.n s.cap, .slice s.Ga s.Gn s.Gc] := rfl
  rw [hcl]
  clear hcl
  gi_wp2
  obtain ⟨W0, hW0⟩ : ∃ W0, (((w.alloc (.cells #[.int .i64 s.t, .int .i64 s.v, .int .i64 s.si, .int .i64 s.st, .slice s.Va s.Vn s.Vc, .slice s.La s.Ln s.Lc, .string s.d, .slice s.A s.n s.cap, .slice s.Ga s.Gn s.Gc] 30)).alloc (.cells #[.int .i64 0] 3)).alloc (.cells #[.int .i64 0] 3)) = W0 := ⟨_, rfl⟩
  have hb0 : Below w.heap.size w W0 := by rw [← hW0]; exact (((Below.refl _ w).alloc (Nat.le_refl _) _).alloc (by simp) _).alloc (by simp; omega) _
  have hs0 : W0.heap.size = w.heap.size + 3 := by rw [← hW0]; simp
  have hbi : W0.heap[w.heap.size + 1]? = some (.cells #[.int .i64 0] 3 (0, 0)) := by
    rw [← hW0, heap_alloc_old _ _ _ (by simp)]
    have := heap_alloc_new (w.alloc (.cells #[.int .i64 s.t, .int .i64 s.v, .int .i64 s.si, .int .i64 s.st, .slice s.Va s.Vn s.Vc, .slice s.La s.Ln s.Lc, .string s.d, .slice s.A s.n s.cap, .slice s.Ga s.Gn s.Gc] 30)) (.cells #[.int .i64 0] 3)
    rwa [World.size_alloc] at this
  have hbt : W0.heap[w.heap.size + 2]? = some (.cells #[.int .i64 0] 3 (0, 0)) := by
    rw [← hW0]
    have := heap_alloc_new ((w.alloc (.cells #[.int .i64 s.t, .int .i64 s.v, .int .i64 s.si, .int .i64 s.st, .slice s.Va s.Vn s.Vc, .slice s.La s.Ln s.Lc, .string s.d, .slice s.A s.n s.cap, .slice s.Ga s.Gn s.Gc] 30)).alloc (.cells #[.int .i64 0] 3)) (.cells #[.int .i64 0] 3)
    rwa [World.size_alloc, World.size_alloc] at this
  rw [hW0]
  clear hW0
  have hL0 := h.below hb0
  refine ⟨trivial, CallsIn.mono (callsIn_wide.2 (sound_c s b off css W0 hL0)) ?_⟩
  rintro e w2 ⟨rfl, hb2⟩
  have hL2 := (hL0.below hb2).sound
  have hemp : soundE s css ≠ [] → b < w.heap.size := fun g => by
    rcases h.b with k | k
    · exact k
    · exfalso; apply g; unfold soundE; rw [k]; split <;> rfl
  clear hL0 h
  generalize s.sound css = s2 at *
  generalize soundE s css = css2 at *
  have hsz2 : w.heap.size + 3 ≤ w2.heap.size := by have := hb2.size; omega
  have hbi2 := (hb2.block (w.heap.size + 1) (by omega)).trans hbi
  have hbt2 := (hb2.block (w.heap.size + 2) (by omega)).trans hbt
  have hbw2 : Below w.heap.size w w2 := hb0.trans (hb2.mono hb0.size)
  clear hb0 hb2 hbi hbt hs0
  gi_wp2
  refine ⟨trivial, CallsIn.mono (callsIn_wide.2 (down_c s2 w2)) ?_⟩
  rintro e w' ⟨rfl, rfl⟩
  have hcs : s2.cells = #[.int .i64 s2.t, .int .i64 s2.v, .int .i64 s2.si, .int .i64 s2.st, .slice s2.Va s2.Vn s2.Vc, .slice s2.La s2.Ln s2.Lc, .string s2.d, .slice s2.A s2.n s2.cap, .slice s2.Ga s2.Gn s2.Gc] := rfl
  obtain ⟨W3, hW3⟩ : ∃ W3, w2.alloc (.cells s2.cells 30) = W3 := ⟨_, rfl⟩
  have hb3 : Below w2.heap.size w2 W3 := by rw [← hW3]; exact (Below.refl _ w2).alloc (Nat.le_refl _) _
  have hs3 : W3.heap.size = w2.heap.size + 1 := by rw [← hW3]; simp
  have hbox3 : W3.heap[w2.heap.size]? = some (.cells s2.cells 30 (0, 0)) := by rw [← hW3]; exact heap_alloc_new w2 _
  rw [hW3]
  clear hW3
  rw [hcs] at hbox3
  have hL3 := hL2.below hb3
  have hbi3 := (hb3.block (w.heap.size + 1) (by omega)).trans hbi2
  have hbt3 := (hb3.block (w.heap.size + 2) (by omega)).trans hbt2
  have hbw3 : Below w.heap.size w W3 := hbw2.trans (hb3.mono hbw2.size)
  obtain ⟨b2, hb2lt, hbni, hbnt, hA2, hrow2⟩ : ∃ b2, b2 < W3.heap.size ∧ b2 ≠ w.heap.size + 1 ∧ b2 ≠ w.heap.size + 2 ∧ (0 < css2.length → s2.A = some ⟨b2, off, none⟩) ∧ Row W3 b2 off css2 := by
    by_cases g : css2 = []
    · exact ⟨w2.heap.size, by omega, by omega, by omega, fun k => by rw [g] at k; simp at k, fun j hj => by rw [g] at hj; simp at hj⟩
    · have := hemp g
      exact ⟨b, by omega, by omega, by omega, hL3.A, hL3.row⟩
  clear hL2 hemp hb3 hbi2 hbt2 hbw2 hcs
  have hE3 := hL3.e
  have hlen3 := hL3.len
  have hn3 := hL3.n
  clear hL3
  gi_wp2
  refine wpIn_rangeFunc_st (gf := 64) (lb := #[.pointer (some ⟨w2.heap.size, 0, none⟩)]) (encs := fun x : Int × Int => #[.int .i64 x.1, .int .i64 x.2]) rfl (enters_of Try.func64 (by kernel_rfl) rfl)
    (down_steps 8 (by omega) w2.heap.size b2 off s2.cap s2.A css2 s2.si s2.st hA2 hE3 hlen3) (fun _ => rfl)
    ⟨⟨by simp [World.cell?, hbox3, hn3], by simp [World.cell?, hbox3], by simp [World.cell?, hbox3]⟩, hrow2⟩
    (fun Y Z hY hu => ⟨⟨by have := hu w2.heap.size (.inl rfl); simpa [World.cell?, this] using hY.1.1, by have := hu w2.heap.size (.inl rfl); simpa [World.cell?, this] using hY.1.2.1, by have := hu w2.heap.size (.inl rfl); simpa [World.cell?, this] using hY.1.2.2⟩, hY.2.same (hu b2 (.inr rfl))⟩)
    (fun k hk => by rcases hk with rfl | rfl <;> omega)
    (fun (pre : List (Int × Int)) (Y : World) => pre = [] ∧ Y.heap[w.heap.size + 1]? = some (.cells #[.int .i64 0] 3 (0, 0)) ∧ Y.heap[w.heap.size + 2]? = some (.cells #[.int .i64 0] 3 (0, 0)) ∧ Below w.heap.size w Y)
    (fun (c : Code) (pre : List (Int × Int)) (Y : World) => c = .exit 0 ∧ ∃ y : Int × Int, pre = [y] ∧ Y.heap[w.heap.size + 1]? = some (.cells #[.int .i64 y.1] 3 (0, 0)) ∧ Y.heap[w.heap.size + 2]? = some (.cells #[.int .i64 y.2] 3 (0, 0)) ∧ Below w.heap.size w Y)
    (fun pre Y Z hY hb => ⟨hY.1, (hb.block _ (by omega)).trans hY.2.1, (hb.block _ (by omega)).trans hY.2.2.1, hY.2.2.2.trans (hb.mono (by omega))⟩)
    (fun c pre Y Z hY hb => by
      obtain ⟨e, y, e2, k1, k2, k3⟩ := hY
      exact ⟨e, y, e2, (hb.block _ (by omega)).trans k1, (hb.block _ (by omega)).trans k2, k3.trans (hb.mono (by omega))⟩)
    ⟨rfl, hbi3, hbt3, hbw3⟩ ?round ?done ?stop
  case round =>
    rintro pre y rest Y hxs ⟨rfl, hYi, hYt, hYb⟩ hHold hltY
    obtain ⟨y1, y2⟩ := y
    dsimp only
    have c1 : Y.cell? ⟨w.heap.size + 1, 0, none⟩ = some (.int .i64 0) := by simp [World.cell?, hYi]
    have c2 : Y.cell? ⟨w.heap.size + 1 + 1, 0, none⟩ = some (.int .i64 0) := by simp [World.cell?, hYt]
    have f1 : Y.frozen? ⟨w.heap.size + 1, 0, none⟩ = false := by simp [World.frozen?, hYi]
    have f2 : Y.frozen? ⟨w.heap.size + 1 + 1, 0, none⟩ = false := by simp [World.frozen?, hYt]
    clear hHold
    gi_wp2
    obtain ⟨hZb, hZs, hZi, hZt, hZo⟩ := two_sets hYb (w.heap.size + 1) (by omega) _ _ (.int .i64 y1) (.int .i64 y2) hYi hYt
    generalize ((Y.setCell ⟨w.heap.size + 1, 0, none⟩ (.int .i64 y1)).setCell ⟨w.heap.size + 1 + 1, 0, none⟩ (.int .i64 y2)) = Z at *
    refine ⟨⟨by omega, fun k h1 h2 => hZo k (by omega) (by omega), fun k hk => by rcases hk with rfl | rfl <;> exact hZo _ (by omega) (by omega)⟩, fun V hbV hsV hoV => ?_⟩
    gi_wp2
    exact ⟨Kp.refl _ _ _, rfl, (y1, y2), rfl, (hbV.block _ (by omega)).trans hZi, (hbV.block _ (by omega)).trans hZt, hZb.trans (hbV.mono (by omega))⟩
  case done =>
    rintro Y ⟨e, _⟩ _ _ _
    exfalso
    simp [dn] at e
  case stop =>
    rintro c pre y rest Y hxs ⟨rfl, y', hy', hYi, hYt, hYb⟩ hltY hD
    obtain ⟨rest', hd⟩ := dn_last s2 css2
    rw [X.out] at hd
    have hyx : y' = (x1, x2) := by
      cases pre with
      | nil =>
        simp only [List.nil_append, List.cons.injEq, and_true] at hy'
        rw [hd] at hxs
        simp only [List.nil_append, List.cons.injEq] at hxs
        rw [← hy', ← hxs.1]
      | cons p pre => simp at hy'
    subst hyx
    dsimp only at hYi hYt
    have c1 : Y.cell? ⟨w.heap.size + 1, 0, none⟩ = some (.int .i64 x1) := by simp [World.cell?, hYi]
    have c2 : Y.cell? ⟨w.heap.size + 1 + 1, 0, none⟩ = some (.int .i64 x2) := by simp [World.cell?, hYt]
    have f1 : Y.frozen? ⟨w.heap.size + 1, 0, none⟩ = false := by simp [World.frozen?, hYi]
    have f2 : Y.frozen? ⟨w.heap.size + 1 + 1, 0, none⟩ = false := by simp [World.frozen?, hYt]
    clear hd hy' hxs
    gi_wp2
    gi_region
    obtain ⟨hZb, hZs, hZi, hZt, hZo⟩ := two_sets hYb (w.heap.size + 1) (by omega) _ _ (.int .i64 x1) (.int .i64 x2) hYi hYt
    have hDZ := (hZo W3.heap.size (by omega) (by omega)).trans hD
    generalize ((Y.setCell ⟨w.heap.size + 1, 0, none⟩ (.int .i64 x1)).setCell ⟨w.heap.size + 1 + 1, 0, none⟩ (.int .i64 x2)) = Z at *
    have hD' : Z.drew.heap[W3.heap.size]? = some (.deferred (some [])) := hDZ
    rename_i K hK
    refine hK _ _ ?_
    gi_wp2
    refine ⟨by simp, .inl ⟨_, _, rfl, run_takeDeferred hD', ?_⟩⟩
    refine ⟨_, results_2c rfl _ _ (w.heap.size + 1) (w.heap.size + 1 + 1) 3 3 x1 x2 rfl rfl ((World.putObj_heap_other (by omega)).trans hZi) ((World.putObj_heap_other (by omega)).trans hZt), rfl, ?_⟩
    exact hZb.drew.trans (below_putObj (by omega) _ hD')
end Go.Proofs.Ytpjachbmllklgaa.Rng
end
section
/- The term of a number: ledger.Term. -/
namespace Go.Proofs.Ytpjachbmllklgaa.Rng
open Go.RowKit Go.Proofs.YtpjachbmllklgaaW.PrintWords
set_option linter.unusedVariables false
set_option linter.unusedSimpArgs false
attribute [local go_sem] Oper.semAt_some

/-- The term of a number in a log that goes on. -/
def termV (si st : Int) (l : List (Int × Int)) (index : Int) : Int × Bool :=
  if index = si then (st, true) else if si < index ∧ index ≤ si + l.length then ((l[(index - si - 1).toNat]!).2, true) else (0, false)
theorem sound_si (s : Sv) (css : List (List Value)) : 0 ≤ (s.sound css).si ∧ (s.sound css).si ≤ 900000000 ∧ (soundE s css).length ≤ 9000 ∧ goesB (s.sound css).si (its (soundE s css)) = true := by
  unfold Sv.sound soundE
  cases h : checkB s.si (its css) with
  | true =>
    simp only [checkB, Bool.and_eq_true, decide_eq_true_eq, its_length] at h
    exact ⟨h.1.1.1, h.1.1.2, h.1.2, h.2⟩
  | false => simp [Sv.none, its, goesB]
theorem cells_eq (s : Sv) : s.cells = #[.int .i64 s.t, .int .i64 s.v, .int .i64 s.si, .int .i64 s.st, .slice s.Va s.Vn s.Vc, .slice s.La s.Ln s.Lc, .string s.d, .slice s.A s.n s.cap, .slice s.Ga s.Gn s.Gc] := rfl

theorem size_setRow (w : World) (g : Nat) (cs : Array Value) : (w.setRow g cs).heap.size = w.heap.size := by simp [World.setRow]
/-- A box is stored to as a whole: the world behind it by what is known of it. -/
theorem wpList_store_box {P : Program} {ops : Array Oper} {rest : List Oper} {o : Oper} {a : Act} {W : World} {Q : Exit → Act → World → Prop} (hgd : o.guard = none) (ty : TypeId) (x y : Operand) (ho : o.op = .store ty x y)
    (g : Nat) (cells old : Array Value) (t : TypeId) (hx : a.eval x = .pointer (some ⟨g, 0, none⟩)) (hy : a.eval y = .agg cells) (hg : W.heap[g]? = some (.cells old t (0, 0)))
    (hi : (P.info? ty).map (·.size) = some cells.size) (hold : old.size = cells.size) (h1 : cells.all (·.oneCell') = true)
    (h : ∀ W3 : World, W3.heap[g]? = some (.cells cells t (0, 0)) → (∀ k, k ≠ g → W3.heap[k]? = W.heap[k]?) → Below g W W3 → W3.heap.size = W.heap.size → wpList P ops Q rest (a.put o.dst undef) W3) : wpList P ops Q (o :: rest) a W :=
  wpList_store_row hgd ty x y ho g cells hx hy t old hg hi hold h1
    (h _ (setRow_heap W g old cells t (0, 0) hg) (fun k hk => setRow_other W g k cells hk) (below_setRow (Below.refl g W) g (Nat.le_refl _) cells) (size_setRow W g cells))

set_option maxHeartbeats 8000000 in
set_option maxRecDepth 100000 in
theorem term_c (s : Sv) (b off : Nat) (css : List (List Value)) (w : World) (h : Lg w s b off css) (index : Int) (hr : -9223372036854775808 ≤ index ∧ index ≤ 9223372036854775807) :
    Calls Try.prog 13 #[.agg s.cells, .int .i64 index] w fun e w' => e = .returned (.tuple #[.int .i64 (termV (s.sound css).si (s.sound css).st (its (soundE s css)) index).1, .bool (termV (s.sound css).si (s.sound css).st (its (soundE s css)) index).2]) ∧ Below w.heap.size w w' := by
  generalize hx : termV (s.sound css).si (s.sound css).st (its (soundE s css)) index = x
  have X := Aside0.mk hx
  clear hx
  obtain ⟨x1, x2⟩ := x
  dsimp only
  have H := Aside0.mk h
  clear h
  have hi30 : ∀ cells : Array Value, cells.size = 9 → (Try.prog.info? 30).map (·.size) = some cells.size := fun c hc => by rw [hc]; exact size30
  rw [cells_eq]
  go_enter Try.func13, Try.ntmps13
  go_wp2_with fail
  rw [← cells_eq]
  have hb0 : Below w.heap.size w (w.alloc (.cells s.cells 30)) := (Below.refl _ w).alloc (Nat.le_refl _) _
  have hs0 : (w.alloc (.cells s.cells 30)).heap.size = w.heap.size + 1 := by simp
  have hbox := heap_alloc_new w (.cells s.cells 30)
  generalize w.alloc (.cells s.cells 30) = W0 at hb0 hs0 hbox ⊢
  have hL0 := H.out.below hb0
  refine (sound_c s b off css W0 hL0).mono ?_
  rintro e w2 ⟨rfl, hb2⟩
  have hL2 := (hL0.below hb2).sound
  obtain ⟨hsi0, hsi1, hlen2, hgo⟩ := sound_si s css
  have hemp : soundE s css ≠ [] → b < w.heap.size := fun g => by
    rcases H.out.b with k | k
    · exact k
    · exfalso; apply g; unfold soundE; rw [k]; split <;> rfl
  clear hL0 H
  have hbox2 := (hb2.block w.heap.size (by omega)).trans hbox
  have hsz2 : w.heap.size < w2.heap.size := by have := hb2.size; omega
  have hbw2 : Below w.heap.size w w2 := hb0.trans (hb2.mono hb0.size)
  generalize s.sound css = s2 at *
  generalize soundE s css = css2 at *
  clear hb2 hb0 hbox hs0
  have hrow2 := hL2.row
  have hE2 := hL2.e
  have hA2 := hL2.A
  have hn2 := hL2.n
  clear hL2
  rw [cells_eq s2]
  go_wp2_with (refine wpList_store_box rfl 30 (.tmp 2) (.tmp 8) rfl w.heap.size _ _ 30 rfl rfl hbox2 (hi30 _ rfl) rfl (by simp [Value.oneCell']) ?_)
  intro W3 hg3 ho3 hb3 hs3
  have c2 : W3.cell? ⟨w.heap.size, 2, none⟩ = some (.int .i64 s2.si) := by simp [World.cell?, hg3]
  have c3 : W3.cell? ⟨w.heap.size, 3, none⟩ = some (.int .i64 s2.st) := by simp [World.cell?, hg3]
  have c7 : W3.cell? ⟨w.heap.size, 7, none⟩ = some (.slice s2.A css2.length s2.cap) := by simp [World.cell?, hg3, hn2]
  have hbw3 : Below w.heap.size w W3 := hbw2.trans hb3
  have HE := Aside0.mk hE2
  have HG := Aside0.mk hgo
  have HR : Aside0 (css2 ≠ [] → Row W3 b off css2) := ⟨fun g => hrow2.same (ho3 b (by have := hemp g; omega))⟩
  have HA := Aside0.mk hA2
  clear hE2 hgo hrow2 ho3 hg3 hb3 hemp hA2 hbox2 hi30 hbw2
  by_cases g0 : index = s2.si
  · subst g0
    have hw : wrap64 (s2.si - s2.si) = 0 := by unfold wrap64; omega
    have hX := X.out
    unfold termV at hX
    rw [if_pos rfl] at hX
    have X2 := Aside0.mk hX
    clear hX
    go_wp2
    refine bodyPost_ret (results_tmp2 rfl _ _ _) rfl ?_
    have hX := X2.out
    simp only [Prod.mk.injEq] at hX
    refine ⟨?_, hbw3⟩
    rw [← hX.1, ← hX.2]
    rfl
  by_cases g1 : s2.si < index ∧ index ≤ s2.si + css2.length
  · obtain ⟨j, hj⟩ : ∃ j : Nat, index = s2.si + 1 + j := ⟨(index - s2.si - 1).toNat, by omega⟩
    have hX := X.out
    unfold termV at hX
    rw [if_neg g0, if_pos (by rw [its_length]; exact g1), show (index - s2.si - 1).toNat = j by omega, its_get css2 j (by omega)] at hX
    simp only [Prod.mk.injEq] at hX
    have hlt : (j : Int) < (css2.length : Int) := by omega
    have hne : css2 ≠ [] := fun e => by rw [e] at hlt; simp at hlt; omega
    have hrow := HR.out hne j (by omega)
    have hEj := HE.out j (by omega)
    obtain hA := HA.out (by omega)
    rw [hA] at c7
    have cj : W3.cell? ⟨b, off + j * 43 + 1, none⟩ = some (.int .i64 (itOf css2[j]!).2) := hrow 1 _ hEj.i1
    rw [hX.1, show off + j * 43 + 1 = off + ((index - s2.si).toNat - 1) * 43 + 1 by rw [show (index - s2.si).toNat - 1 = j by omega]] at cj
    have n1 : ¬ (index - s2.si = 0) := by omega
    have n2 : ¬ (index - s2.si < 0) := by omega
    have n3 : ¬ (index - s2.si > (css2.length : Int)) := by omega
    have n4 : ¬ (index < 0) := by omega
    have X2 := Aside0.mk hX.2
    clear hX hrow hEj hA HG hlt hne hj
    go_wp2
    refine bodyPost_ret (results_tmp2 rfl _ _ _) rfl ?_
    refine ⟨?_, hbw3⟩
    rw [← X2.out]
    rfl
  have hX := X.out
  unfold termV at hX
  rw [if_neg g0, if_neg (by rw [its_length]; exact g1)] at hX
  have X2 := Aside0.mk hX
  clear hX
  have fin : Ending.returned (Value.tuple #[.int .i64 0, .bool false]) = Ending.returned (Value.tuple #[.int .i64 x1, .bool x2]) := by
    have hX := X2.out
    simp only [Prod.mk.injEq] at hX
    rw [← hX.1, ← hX.2]
  have n1 : ¬ (wrap64 (index - s2.si) = 0) := by unfold wrap64; omega
  by_cases g2 : wrap64 (index - s2.si) < 0
  · go_wp2
    refine bodyPost_ret (results_tmp2 rfl _ _ _) rfl ?_
    exact ⟨fin, hbw3⟩
  · have g3 : wrap64 (index - s2.si) > (css2.length : Int) := by unfold wrap64 at *; omega
    go_wp2
    refine bodyPost_ret (results_tmp2 rfl _ _ _) rfl ?_
    exact ⟨fin, hbw3⟩
end Go.Proofs.Ytpjachbmllklgaa.Rng
end
section
/- The document's answers: On, asked, Term, Last. -/
namespace Go.Proofs.Ytpjachbmllklgaa.Rng
open Go.RowKit Go.Proofs.YtpjachbmllklgaaW.PrintWords
set_option linter.unusedVariables false
set_option linter.unusedSimpArgs false
attribute [local go_sem] Oper.semAt_some

set_option maxHeartbeats 8000000 in
set_option maxRecDepth 100000 in
theorem on_c (s : Sv) (b off : Nat) (css : List (List Value)) (w : World) (h : Lg w s b off css) :
    Calls Try.prog 16 #[.agg s.cells] w fun e w' => e = .returned (.bool (checkB s.si (its css))) ∧ Below w.heap.size w w' := by
  have hn := h.n
  obtain ⟨t, v, si, st, Va, Vn, Vc, La, Ln, Lc, d, A, n, cap, Ga, Gn, Gc⟩ := s
  dsimp only at hn ⊢
  subst hn
  unfold Sv.cells
  dsimp only
  by_cases g1 : si < 0
  · have hc : checkB si (its css) = false := by simp [checkB]; omega
    rw [hc]
    clear h hc
    go_enter Try.func16, Try.ntmps16
    go_wp2
    go_ret
    exact ⟨rfl, (Below.refl _ w).alloc (Nat.le_refl _) _⟩
  by_cases g2 : si > 900000000
  · have hc : checkB si (its css) = false := by simp [checkB]; omega
    rw [hc]
    clear h hc
    go_enter Try.func16, Try.ntmps16
    go_wp2
    go_ret
    exact ⟨rfl, (Below.refl _ w).alloc (Nat.le_refl _) _⟩
  by_cases g3 : (css.length : Int) > 9000
  · have hc : checkB si (its css) = false := by simp [checkB, its_length]; omega
    rw [hc]
    clear h hc
    go_enter Try.func16, Try.ntmps16
    go_wp2
    go_ret
    exact ⟨rfl, (Below.refl _ w).alloc (Nat.le_refl _) _⟩
  have H := Aside0.mk h
  clear h
  generalize hrv : checkB si (its css) = rv
  have RV := Aside0.mk hrv
  clear hrv
  go_enter Try.func16, Try.ntmps16
  go_wp2_with fail
  obtain ⟨W0, hW0⟩ : ∃ W0, w.alloc (.cells #[.int .i64 t, .int .i64 v, .int .i64 si, .int .i64 st, .slice Va Vn Vc, .slice La Ln Lc, .string d, .slice A css.length cap, .slice Ga Gn Gc] 30) = W0 := ⟨_, rfl⟩
  have hb0 : Below w.heap.size w W0 := by rw [← hW0]; exact (Below.refl _ w).alloc (Nat.le_refl _) _
  have hc2 : W0.cell? ⟨w.heap.size, 2, none⟩ = some (.int .i64 si) := by rw [← hW0]; simp
  have hc7 : W0.cell? ⟨w.heap.size, 7, none⟩ = some (.slice A css.length cap) := by rw [← hW0]; simp
  have hs0 : w.heap.size < W0.heap.size := by rw [← hW0]; simp
  rw [hW0]
  have HW := Aside0.mk hW0
  clear hW0
  go_loopg [3] css.length (fun gg s3 wr => ∃ kk : Nat, kk ≤ css.length ∧ css.length - kk ≤ gg ∧ s3 = .int .i64 kk ∧ Aside (Below W0.heap.size W0 wr) ∧ Aside (∀ j, j < kk → (itOf css[j]!).1 = si + 1 + j))
  case atStart => exact ⟨0, by omega, by omega, rfl, Below.refl _ _, fun j hj => absurd hj (Nat.not_lt_zero _)⟩
  case round =>
    obtain ⟨kk, hk, hg, rfl, B, G⟩ := hrel
    have hc2' : wr.cell? ⟨w.heap.size, 2, none⟩ = some (.int .i64 si) := (B.out.cell (p := ⟨w.heap.size, 2, none⟩) hs0).trans hc2
    have hc7' : wr.cell? ⟨w.heap.size, 7, none⟩ = some (.slice A css.length cap) := (B.out.cell (p := ⟨w.heap.size, 7, none⟩) hs0).trans hc7
    by_cases hlt : kk < css.length
    · have hltz : (kk : Int) < (css.length : Int) := by omega
      obtain rfl := H.out.A (by omega)
      have hL := (H.out.below hb0).below B.out
      have hrg := hL.row kk hlt
      have hE := hL.e kk hlt
      have hr := hL.rng kk hlt
      clear hL
      generalize hcs : css[kk]! = cs at hrg hE hr
      have CS := Aside0.mk hcs
      clear hcs
      have hcell : wr.cell? ⟨b, off + kk * 43, none⟩ = some (.int .i64 (itOf cs).1) := hrg 0 _ hE.i0
      clear hE hrg
      generalize hx : (itOf cs).1 = x at hcell hr
      have X := Aside0.mk hx
      clear hx
      have hgs : 0 ≤ si ∧ si ≤ 900000000 ∧ css.length ≤ 9000 := by omega
      by_cases he : x = si + 1 + kk
      · have hw : wrap64 (wrap64 (x - 1) - kk) = si := by
          have e1 : wrap64 (x - 1) = x - 1 := by unfold wrap64; omega
          rw [e1]; unfold wrap64; omega
        have HE2 := Aside0.mk he
        clear he
        go_wp2
        go_region
        go_wp2
        go_roundg (css.length - (kk + 1))
        case measure => omega
        case rel =>
          refine ⟨kk + 1, by omega, by omega, by go_num, B.out.drew, (show Aside _ from fun j hj => ?_)⟩
          by_cases e : j = kk
          · subst e; rw [CS.out, X.out]; exact HE2.out
          · exact G.out j (by omega)
      · have hw : ¬ wrap64 (wrap64 (x - 1) - kk) = si := by
          unfold wrap64; omega
        go_wp2
        go_region
        go_wp2
        go_ret
        refine ⟨?_, hb0.trans (B.out.drew.mono hb0.size)⟩
        rw [← RV.out]
        have hc : checkB si (its css) = false := by
          cases hcb : checkB si (its css) with
          | false => rfl
          | true =>
            exfalso
            simp only [checkB, Bool.and_eq_true] at hcb
            have := (goesB_iff _ _).1 hcb.2 kk (by rw [its_length]; exact hlt)
            rw [its_get css kk hlt, CS.out, X.out] at this
            exact he this
        rw [hc]
        rfl
    · have hltz : ¬ (kk : Int) < (css.length : Int) := by omega
      have : kk = css.length := by omega
      subst this
      go_wp2
      go_ret
      refine ⟨?_, hb0.trans (B.out.mono hb0.size)⟩
      rw [← RV.out]
      have hc : checkB si (its css) = true := by
        simp only [checkB, Bool.and_eq_true, decide_eq_true_eq, its_length]
        refine ⟨⟨⟨by omega, by omega⟩, by omega⟩, (goesB_iff _ _).2 (fun j hj => ?_)⟩
        rw [its_length] at hj
        rw [its_get css j hj]
        exact G.out j hj
      rw [hc]
      rfl
set_option maxHeartbeats 8000000 in
set_option maxRecDepth 100000 in
theorem asked_c (s : Sv) (b off : Nat) (css : List (List Value)) (w : World) (h : Lg w s b off css) :
    Calls Try.prog 41 #[.agg s.cells] w fun e w' => e = .returned (.agg (s.sound css).cells) ∧ Below w.heap.size w w' := by
  have e16 : ∀ args w, (callFunc 16 args).run Try.prog w = .ok (.enter 16 args) w := enters_of Try.func16 (by kernel_rfl) rfl
  have H := Aside0.mk h
  clear h
  obtain ⟨t, v, si, st, Va, Vn, Vc, La, Ln, Lc, d, A, n, cap, Ga, Gn, Gc⟩ := s
  generalize hrc : (Sv.sound ⟨t, v, si, st, Va, Vn, Vc, La, Ln, Lc, d, A, n, cap, Ga, Gn, Gc⟩ css).cells = rc
  have RC := Aside0.mk hrc
  clear hrc
  unfold Sv.cells
  go_enter Try.func41, Try.ntmps41
  go_wp2_with fail
  have hb0 : Below w.heap.size w ((w.alloc (.cells #[.int .i64 t, .int .i64 v, .int .i64 si, .int .i64 st, .slice Va Vn Vc, .slice La Ln Lc, .string d, .slice A n cap, .slice Ga Gn Gc] 30)).alloc (.cells #[.int .i64 0, .int .i64 0, .int .i64 0, .int .i64 0, .slice none 0 0, .slice none 0 0, .string ⟨#[]⟩, .slice none 0 0, .slice none 0 0] 30)) := ((Below.refl _ w).alloc (Nat.le_refl _) _).alloc (by simp) _
  have hs0 : ((w.alloc (.cells #[.int .i64 t, .int .i64 v, .int .i64 si, .int .i64 st, .slice Va Vn Vc, .slice La Ln Lc, .string d, .slice A n cap, .slice Ga Gn Gc] 30)).alloc (.cells #[.int .i64 0, .int .i64 0, .int .i64 0, .int .i64 0, .slice none 0 0, .slice none 0 0, .string ⟨#[]⟩, .slice none 0 0, .slice none 0 0] 30)).heap.size = w.heap.size + 2 := by simp
  have hbox := (heap_alloc_old (w.alloc (.cells #[.int .i64 t, .int .i64 v, .int .i64 si, .int .i64 st, .slice Va Vn Vc, .slice La Ln Lc, .string d, .slice A n cap, .slice Ga Gn Gc] 30)) (.cells #[.int .i64 0, .int .i64 0, .int .i64 0, .int .i64 0, .slice none 0 0, .slice none 0 0, .string ⟨#[]⟩, .slice none 0 0, .slice none 0 0] 30) w.heap.size (by simp)).trans (heap_alloc_new w _)
  have hres := heap_alloc_new (w.alloc (.cells #[.int .i64 t, .int .i64 v, .int .i64 si, .int .i64 st, .slice Va Vn Vc, .slice La Ln Lc, .string d, .slice A n cap, .slice Ga Gn Gc] 30)) (.cells #[.int .i64 0, .int .i64 0, .int .i64 0, .int .i64 0, .slice none 0 0, .slice none 0 0, .string ⟨#[]⟩, .slice none 0 0, .slice none 0 0] 30)
  rw [World.size_alloc] at hres
  generalize ((w.alloc (.cells #[.int .i64 t, .int .i64 v, .int .i64 si, .int .i64 st, .slice Va Vn Vc, .slice La Ln Lc, .string d, .slice A n cap, .slice Ga Gn Gc] 30)).alloc (.cells #[.int .i64 0, .int .i64 0, .int .i64 0, .int .i64 0, .slice none 0 0, .slice none 0 0, .string ⟨#[]⟩, .slice none 0 0, .slice none 0 0] 30)) = W0 at hb0 hs0 hbox hres ⊢
  have hchk := on_c ⟨t, v, si, st, Va, Vn, Vc, La, Ln, Lc, d, A, n, cap, Ga, Gn, Gc⟩ b off css W0 (H.out.below hb0)
  refine hchk.mono ?_
  rintro e w2 ⟨rfl, hb2⟩
  have hres2 := (hb2.block (w.heap.size + 1) (by omega)).trans hres
  have hbox2 := (hb2.block w.heap.size (by omega)).trans hbox
  have hbw : Below w.heap.size w w2 := hb0.trans (hb2.mono hb0.size)
  clear hchk hbox hres
  have hi30 : ∀ cells : Array Value, cells.size = 9 → (Try.prog.info? 30).map (·.size) = some cells.size := fun c hc => by rw [hc]; exact size30
  have rc' := RC.out
  unfold Sv.sound at rc'
  dsimp only at rc' ⊢
  cases hc : checkB si (its css) with
  | true =>
    rw [hc, if_pos rfl] at rc'
    have RC2 := Aside0.mk (rc' : #[.int .i64 t, .int .i64 v, .int .i64 si, .int .i64 st, .slice Va Vn Vc, .slice La Ln Lc, .string d, .slice A n cap, .slice Ga Gn Gc] = rc)
    clear rc'
    go_wp2_with (first | (refine wpList_load_row rfl 30 (.tmp 1) rfl w.heap.size rfl 30 _ (0, 0) _ hbox2 Try.underlying30 rfl (hi30 _ rfl) ?_) | (refine wpList_store_row rfl 30 (.tmp 2) (.tmp 7) rfl (w.heap.size + 1) _ rfl rfl 30 _ hres2 (hi30 _ rfl) rfl (by simp [Value.oneCell']) ?_))
    have hg := setRow_heap w2 (w.heap.size + 1) _ (#[.int .i64 t, .int .i64 v, .int .i64 si, .int .i64 st, .slice Va Vn Vc, .slice La Ln Lc, .string d, .slice A n cap, .slice Ga Gn Gc] : Array Value) 30 (0, 0) hres2
    refine bodyPost_ret (results_cell_row rfl _ _ (w.heap.size + 1) 30 _ (0, 0) _ rfl hg Try.underlying30 rfl (hi30 _ rfl)) rfl ?_
    exact ⟨by rw [← RC2.out]; rfl, below_setRow hbw _ (by omega) _⟩
  | false =>
    rw [hc, if_neg (by simp)] at rc'
    have RC2 := Aside0.mk (rc' : #[.int .i64 0, .int .i64 0, .int .i64 0, .int .i64 0, .slice none 0 0, .slice none 0 0, .string ⟨#[]⟩, .slice none 0 0, .slice none 0 0] = rc)
    clear rc'
    go_wp2_with (first | (refine wpList_store_row rfl 30 (.tmp 2) (.tmp 6) rfl (w.heap.size + 1) _ rfl rfl 30 _ hres2 (hi30 _ rfl) rfl (by simp [Value.oneCell']) ?_))
    have hg := setRow_heap w2 (w.heap.size + 1) _ (#[.int .i64 0, .int .i64 0, .int .i64 0, .int .i64 0, .slice none 0 0, .slice none 0 0, .string ⟨#[]⟩, .slice none 0 0, .slice none 0 0] : Array Value) 30 (0, 0) hres2
    refine bodyPost_ret (results_cell_row rfl _ _ (w.heap.size + 1) 30 _ (0, 0) _ rfl hg Try.underlying30 rfl (hi30 _ rfl)) rfl ?_
    exact ⟨by rw [← RC2.out]; rfl, below_setRow hbw _ (by omega) _⟩
theorem sound_id (s : Sv) (css : List (List Value)) : (s.sound css).sound (soundE s css) = s.sound css ∧ soundE (s.sound css) (soundE s css) = soundE s css := by
  have h : checkB (s.sound css).si (its (soundE s css)) = true := by
    obtain ⟨h1, h2, h3, h4⟩ := sound_si s css
    simp [checkB, h1, h2, its_length, h3, h4]
  unfold Sv.sound soundE at *
  rw [h]
  exact ⟨rfl, rfl⟩
theorem sound_cells_one (s : Sv) : s.cells.all (·.oneCell') = true := by simp [Sv.cells, Value.oneCell']

set_option maxHeartbeats 8000000 in
set_option maxRecDepth 100000 in
theorem rterm_c (s : Sv) (b off : Nat) (css : List (List Value)) (w : World) (h : Lg w s b off css) (index : Int) (hr : -9223372036854775808 ≤ index ∧ index ≤ 9223372036854775807) :
    Calls Try.prog 14 #[.agg s.cells, .int .i64 index] w fun e w' => e = .returned (.tuple #[.int .i64 (termV (s.sound css).si (s.sound css).st (its (soundE s css)) index).1, .bool (termV (s.sound css).si (s.sound css).st (its (soundE s css)) index).2]) ∧ Below w.heap.size w w' := by
  generalize hx : termV (s.sound css).si (s.sound css).st (its (soundE s css)) index = x
  have X := Aside0.mk hx
  clear hx
  obtain ⟨x1, x2⟩ := x
  dsimp only
  have H := Aside0.mk h
  clear h
  have hi30 : ∀ cells : Array Value, cells.size = 9 → (Try.prog.info? 30).map (·.size) = some cells.size := fun c hc => by rw [hc]; exact size30
  rw [cells_eq]
  go_enter Try.func14, Try.ntmps14
  go_wp2_with fail
  rw [← cells_eq]
  have hb0 : Below w.heap.size w (w.alloc (.cells s.cells 30)) := (Below.refl _ w).alloc (Nat.le_refl _) _
  have hs0 : (w.alloc (.cells s.cells 30)).heap.size = w.heap.size + 1 := by simp
  have hbox := heap_alloc_new w (.cells s.cells 30)
  generalize w.alloc (.cells s.cells 30) = W0 at hb0 hs0 hbox ⊢
  have hL0 := H.out.below hb0
  refine (asked_c s b off css W0 hL0).mono ?_
  rintro e w2 ⟨rfl, hb2⟩
  have hL2 := (hL0.below hb2).sound
  obtain ⟨hsi0, hsi1, hlen2, hgo⟩ := sound_si s css
  have hemp : soundE s css ≠ [] → b < w.heap.size := fun g => by
    rcases H.out.b with k | k
    · exact k
    · exfalso; apply g; unfold soundE; rw [k]; split <;> rfl
  clear hL0 H
  have hbox2 := (hb2.block w.heap.size (by omega)).trans hbox
  have hsz2 : w.heap.size < w2.heap.size := by have := hb2.size; omega
  have hbw2 : Below w.heap.size w w2 := hb0.trans (hb2.mono hb0.size)
  generalize s.sound css = s2 at *
  generalize soundE s css = css2 at *
  clear hb2 hb0 hbox hs0
  have hrow2 := hL2.row
  have hE2 := hL2.e
  have hA2 := hL2.A
  have hn2 := hL2.n
  clear hL2
  rw [cells_eq s2]
  go_wp2_with (refine wpList_store_box rfl 30 (.tmp 2) (.tmp 8) rfl w.heap.size _ _ 30 rfl rfl hbox2 (hi30 _ rfl) rfl (by simp [Value.oneCell']) ?_)
  intro W3 hg3 ho3 hb3 hs3
  have c2 : W3.cell? ⟨w.heap.size, 2, none⟩ = some (.int .i64 s2.si) := by simp [World.cell?, hg3]
  have c3 : W3.cell? ⟨w.heap.size, 3, none⟩ = some (.int .i64 s2.st) := by simp [World.cell?, hg3]
  have c7 : W3.cell? ⟨w.heap.size, 7, none⟩ = some (.slice s2.A css2.length s2.cap) := by simp [World.cell?, hg3, hn2]
  have hbw3 : Below w.heap.size w W3 := hbw2.trans hb3
  have HE := Aside0.mk hE2
  have HG := Aside0.mk hgo
  have HR : Aside0 (css2 ≠ [] → Row W3 b off css2) := ⟨fun g => hrow2.same (ho3 b (by have := hemp g; omega))⟩
  have HA := Aside0.mk hA2
  clear hE2 hgo hrow2 ho3 hg3 hb3 hemp hA2 hbox2 hi30 hbw2
  by_cases g0 : index = s2.si
  · subst g0
    have hX := X.out
    unfold termV at hX
    rw [if_pos rfl] at hX
    have X2 := Aside0.mk hX
    clear hX
    go_wp2
    refine bodyPost_ret (results_tmp2 rfl _ _ _) rfl ?_
    have hX := X2.out
    simp only [Prod.mk.injEq] at hX
    refine ⟨?_, hbw3⟩
    rw [← hX.1, ← hX.2]
    rfl
  go_wp2
  go_loopg [6] css2.length (fun gg s6 wr => ∃ kk : Nat, kk ≤ css2.length ∧ css2.length - kk ≤ gg ∧ s6 = .int .i64 kk ∧ wr = W3 ∧ Aside (∀ j, j < kk → (itOf css2[j]!).1 ≠ index))
  case atStart => exact ⟨0, by omega, by omega, rfl, rfl, fun j hj => absurd hj (Nat.not_lt_zero _)⟩
  case round =>
    obtain ⟨kk, hk, hg, rfl, rfl, G⟩ := hrel
    by_cases hlt : kk < css2.length
    · have hltz : (kk : Int) < (css2.length : Int) := by omega
      have hne : css2 ≠ [] := fun e => by rw [e] at hlt; simp at hlt
      have hA := HA.out (by omega)
      rw [hA] at c7
      clear hA
      have hEk := HE.out kk hlt
      have hrk := HR.out hne kk hlt
      have cj0 : wr.cell? ⟨b, off + kk * 43, none⟩ = some (.int .i64 (itOf css2[kk]!).1) := hrk 0 _ hEk.i0
      have cj1 : wr.cell? ⟨b, off + kk * 43 + 1, none⟩ = some (.int .i64 (itOf css2[kk]!).2) := hrk 1 _ hEk.i1
      clear hEk hrk hne
      generalize hit : itOf css2[kk]! = it at cj0 cj1
      have IT := Aside0.mk hit
      clear hit
      obtain ⟨i1, i2⟩ := it
      dsimp only at cj0 cj1
      by_cases he : i1 = index
      · have hX := X.out
        have h1 := (goesB_iff _ _).1 HG.out kk (by rw [its_length]; exact hlt)
        rw [its_get css2 kk hlt, IT.out] at h1
        dsimp only at h1
        unfold termV at hX
        rw [if_neg g0, if_pos (by rw [its_length]; omega), show (index - s2.si - 1).toNat = kk by omega, its_get css2 kk hlt, IT.out] at hX
        simp only [Prod.mk.injEq] at hX
        have X2 := Aside0.mk hX
        clear hX h1
        subst he
        go_wp2
        refine bodyPost_ret (results_tmp2 rfl _ _ _) rfl ?_
        have hX := X2.out
        refine ⟨?_, hbw3⟩
        rw [← hX.1, ← hX.2]
        rfl
      · go_wp2
        go_roundg (css2.length - (kk + 1))
        case measure => omega
        case rel =>
          refine ⟨kk + 1, by omega, by omega, by go_num, rfl, (show Aside _ from fun j hj => ?_)⟩
          by_cases e : j = kk
          · subst e; rw [IT.out]; exact he
          · exact G.out j (by omega)
    · have hltz : ¬ (kk : Int) < (css2.length : Int) := by omega
      have : kk = css2.length := by omega
      subst this
      go_wp2
      refine bodyPost_ret (results_tmp2 rfl _ _ _) rfl ?_
      refine ⟨?_, hbw3⟩
      have hX := X.out
      unfold termV at hX
      rw [if_neg g0, if_neg ?_] at hX
      · simp only [Prod.mk.injEq] at hX
        rw [← hX.1, ← hX.2]
        rfl
      · rw [its_length]
        intro hc
        have hj : (index - s2.si - 1).toNat < css2.length := by omega
        have h1 := (goesB_iff _ _).1 HG.out _ (by rw [its_length]; exact hj)
        rw [its_get css2 _ hj] at h1
        exact G.out _ hj (by omega)

theorem last_term (s : Sv) (css : List (List Value)) (h : goesB s.si (its css) = true) : lastV s css = (s.si + css.length, (termV s.si s.st (its css) (s.si + css.length)).1) := by
  unfold lastV termV
  cases hl : css.length with
  | zero => simp
  | succ m =>
    have h1 := (goesB_iff _ _).1 h m (by rw [its_length]; omega)
    have h2 := its_get css m (by omega)
    rw [if_neg (by omega), if_pos (by rw [its_length]; omega), show (s.si + ((m + 1 : Nat) : Int) - s.si - 1).toNat = m by omega]
    rw [h2] at h1 ⊢
    dsimp only
    exact Prod.ext (by dsimp only; omega) rfl

set_option maxHeartbeats 1000000 in
set_option maxRecDepth 100000 in
theorem rlast_c (s : Sv) (b off : Nat) (css : List (List Value)) (w : World) (h : Lg w s b off css) :
    Calls Try.prog 12 #[.agg s.cells] w fun e w' => e = .returned (.tuple #[.int .i64 (lastV (s.sound css) (soundE s css)).1, .int .i64 (lastV (s.sound css) (soundE s css)).2]) ∧ Below w.heap.size w w' := by
  have e14 : ∀ args w, (callFunc 14 args).run Try.prog w = .ok (.enter 14 args) w := enters_of Try.func14 (by kernel_rfl) rfl
  generalize hx : lastV (s.sound css) (soundE s css) = x
  have X := Aside0.mk hx
  clear hx
  obtain ⟨x1, x2⟩ := x
  dsimp only
  have H := Aside0.mk h
  clear h
  have hi30 : ∀ cells : Array Value, cells.size = 9 → (Try.prog.info? 30).map (·.size) = some cells.size := fun c hc => by rw [hc]; exact size30
  rw [cells_eq]
  go_enter Try.func12, Try.ntmps12
  go_wp2_with fail
  rw [← cells_eq]
  have hb0 : Below w.heap.size w (w.alloc (.cells s.cells 30)) := (Below.refl _ w).alloc (Nat.le_refl _) _
  have hs0 : (w.alloc (.cells s.cells 30)).heap.size = w.heap.size + 1 := by simp
  have hbox := heap_alloc_new w (.cells s.cells 30)
  generalize w.alloc (.cells s.cells 30) = W0 at hb0 hs0 hbox ⊢
  have hL0 := H.out.below hb0
  refine (asked_c s b off css W0 hL0).mono ?_
  rintro e w2 ⟨rfl, hb2⟩
  have hL2 := (hL0.below hb2).sound
  obtain ⟨hsi0, hsi1, hlen2, hgo⟩ := sound_si s css
  obtain ⟨hid1, hid2⟩ := sound_id s css
  have hemp : b < w.heap.size ∨ soundE s css = [] := by
    rcases H.out.b with k | k
    · exact .inl k
    · refine .inr ?_; unfold soundE; rw [k]; split <;> rfl
  clear hL0 H
  have hbox2 := (hb2.block w.heap.size (by omega)).trans hbox
  have hsz2 : w.heap.size < w2.heap.size := by have := hb2.size; omega
  have hbw2 : Below w.heap.size w w2 := hb0.trans (hb2.mono hb0.size)
  generalize s.sound css = s2 at *
  generalize soundE s css = css2 at *
  clear hb2 hb0 hbox hs0
  have hn2 := hL2.n
  have hszw := hbw2.size
  have HL : Aside0 (∀ W3 : World, (∀ k, k ≠ w.heap.size → W3.heap[k]? = w2.heap[k]?) → W3.heap.size = w2.heap.size → Lg W3 s2 b off css2) := ⟨fun W3 ho hs => by
    rcases hemp with k | k
    · exact ⟨hL2.n, hL2.A, hL2.row.same (ho b (by omega)), hL2.e, hL2.rng, hL2.len, .inl (by omega)⟩
    · subst k
      exact ⟨hL2.n, hL2.A, fun j hj => by simp at hj, hL2.e, hL2.rng, hL2.len, .inr rfl⟩⟩
  have HN := Aside0.mk hn2
  clear hL2 hn2
  have hcc := cells_eq s2
  rw [hcc]
  go_wp2_with (refine wpList_store_box rfl 30 (.tmp 1) (.tmp 8) rfl w.heap.size _ _ 30 rfl rfl hbox2 (hi30 _ rfl) rfl (by simp [Value.oneCell']) ?_)
  intro W3 hg3 ho3 hb3 hs3
  have hL3 := HL.out W3 ho3 hs3
  have c2 : W3.cell? ⟨w.heap.size, 2, none⟩ = some (.int .i64 s2.si) := by simp [World.cell?, hg3]
  have c7 : W3.cell? ⟨w.heap.size, 7, none⟩ = some (.slice s2.A s2.n s2.cap) := by simp [World.cell?, hg3]
  have hbw3 : Below w.heap.size w W3 := hbw2.trans hb3
  have hn9 : (s2.n : Int) ≤ 9000 := by rw [HN.out]; omega
  have hct := rterm_c s2 b off css2 W3 hL3 (s2.si + s2.n) (by omega)
  rw [hid1, hid2] at hct
  have HX : Aside0 ((x1, x2) = (s2.si + (s2.n : Int), (termV s2.si s2.st (its css2) (s2.si + (s2.n : Int))).1)) := ⟨by rw [← X.out, HN.out]; exact last_term s2 css2 hgo⟩
  have HT := Aside0.mk hct
  rw [hcc] at HT
  clear HL ho3 hb3 hs3 hL3 hct hgo hid1 hid2 X hcc hbox2 hbw2
  go_wp2_with (refine wpList_load_row rfl 30 (.tmp 1) rfl w.heap.size rfl 30 _ (0, 0) _ hg3 Try.underlying30 rfl (hi30 _ rfl) ?_)
  refine HT.out.mono ?_
  rintro e w' ⟨rfl, hb4⟩
  generalize termV s2.si s2.st (its css2) (s2.si + (s2.n : Int)) = tv at *
  obtain ⟨t1, t2⟩ := tv
  go_wp2
  refine bodyPost_ret (results_tmp2 rfl _ _ _) rfl ?_
  have hX := HX.out
  simp only [Prod.mk.injEq] at hX
  refine ⟨?_, hbw3.trans (hb4.mono hbw3.size)⟩
  rw [hX.1, hX.2]
  rfl
end Go.Proofs.Ytpjachbmllklgaa.Rng
end
section
/- What is looked at: Big. -/
namespace Go.Proofs.Ytpjachbmllklgaa.Rng
open Go.RowKit Go.Proofs.YtpjachbmllklgaaW.PrintWords
set_option linter.unusedVariables false
set_option linter.unusedSimpArgs false
attribute [local go_sem] Oper.semAt_some

/-- An entry's council, as it lies. -/
def IsC (cs : List Value) : Prop := (∃ A n c, cs[41]? = some (.slice A n c)) ∧ ∃ A n c, cs[42]? = some (.slice A n c)

set_option maxHeartbeats 1000000 in
set_option maxRecDepth 100000 in
theorem bigcouncil_c (A : Option Addr) (n c : Nat) (B : Option Addr) (m d : Nat) (w : World) :
    Calls Try.prog 38 #[.agg #[.slice A n c, .slice B m d]] w fun e w' => e = .returned (.bool (decide ((n : Int) > 5000) || decide ((m : Int) > 5000))) ∧ Below w.heap.size w w' := by
  by_cases g1 : (n : Int) > 5000
  · simp only [g1, decide_true, Bool.true_or]
    go_enter Try.func38, Try.ntmps38
    go_wp2
    go_ret
    exact ⟨rfl, (Below.refl _ w).alloc (Nat.le_refl _) _⟩
  · by_cases g2 : (m : Int) > 5000
    · simp only [g1, g2, decide_true, decide_false, Bool.false_or]
      go_enter Try.func38, Try.ntmps38
      go_wp2
      go_ret
      exact ⟨rfl, (Below.refl _ w).alloc (Nat.le_refl _) _⟩
    · simp only [g1, g2, decide_false, Bool.false_or]
      go_enter Try.func38, Try.ntmps38
      go_wp2
      go_ret
      exact ⟨rfl, (Below.refl _ w).alloc (Nat.le_refl _) _⟩

/-- Big answers; and if it answers 'no', there are no more than 1000 entries. -/
def BigPost (n : Nat) (e : Ending) : Prop := ∃ B, e = .returned (.bool B) ∧ (B = false → (n : Int) ≤ 1000)
theorem bigPost_true (n : Nat) : BigPost n (.returned (.bool true)) := ⟨true, rfl, fun h => by cases h⟩
theorem bigPost_any (n : Nat) (h : (n : Int) ≤ 1000) (B : Bool) : BigPost n (.returned (.bool B)) := ⟨B, rfl, fun _ => h⟩

set_option maxHeartbeats 2000000 in
set_option maxRecDepth 100000 in
theorem big_c (s : Sv) (b off : Nat) (css : List (List Value)) (w : World) (h : (s.n : Int) ≤ 1000 → Lg w s b off css ∧ ∀ j, j < css.length → IsC css[j]!) :
    Calls Try.prog 9 #[.agg s.cells, .slice none 0 0] w fun e w' => BigPost s.n e ∧ Below w.heap.size w w' := by
  have H := Aside0.mk h
  clear h
  obtain ⟨t, v, si, st, Va, Vn, Vc, La, Ln, Lc, d, A, n, cap, Ga, Gn, Gc⟩ := s
  unfold Sv.cells
  dsimp only at H ⊢
  by_cases g1 : (n : Int) > 1000
  · go_enter Try.func9, Try.ntmps9
    go_wp2
    go_ret
    exact ⟨bigPost_true _, (Below.refl _ w).alloc (Nat.le_refl _) _⟩
  by_cases g2 : (Gn : Int) > 1000
  · go_enter Try.func9, Try.ntmps9
    go_wp2
    go_ret
    exact ⟨bigPost_true _, (Below.refl _ w).alloc (Nat.le_refl _) _⟩
  by_cases g3 : (Vn : Int) > 5000
  · go_enter Try.func9, Try.ntmps9
    go_wp2
    go_ret
    exact ⟨bigPost_true _, ((Below.refl _ w).alloc (Nat.le_refl _) _).alloc (by simp) _⟩
  by_cases g4 : (Ln : Int) > 5000
  · go_enter Try.func9, Try.ntmps9
    go_wp2
    go_ret
    exact ⟨bigPost_true _, ((Below.refl _ w).alloc (Nat.le_refl _) _).alloc (by simp) _⟩
  obtain ⟨hL, hC⟩ := H.out (by omega)
  have hn := hL.n
  dsimp only at hn
  subst hn
  clear H
  have HL := Aside0.mk hL
  have HC := Aside0.mk hC
  clear hL hC
  have G1 : Aside0 ((css.length : Int) ≤ 1000) := ⟨by omega⟩
  go_enter Try.func9, Try.ntmps9
  go_wp2
  obtain ⟨W0, hW0⟩ : ∃ W0, ((w.alloc (.cells #[.int .i64 t, .int .i64 v, .int .i64 si, .int .i64 st, .slice Va Vn Vc, .slice La Ln Lc, .string d, .slice A css.length cap, .slice Ga Gn Gc] 30)).alloc (.cells #[.slice Va Vn Vc, .slice La Ln Lc] 24)) = W0 := ⟨_, rfl⟩
  have hb0 : Below w.heap.size w W0 := by rw [← hW0]; exact ((Below.refl _ w).alloc (Nat.le_refl _) _).alloc (by simp) _
  have hc7 : W0.cell? ⟨w.heap.size, 7, none⟩ = some (.slice A css.length cap) := by rw [← hW0]; simp
  have hs0 : w.heap.size < W0.heap.size := by rw [← hW0]; simp; omega
  rw [hW0]
  clear hW0
  go_loopg [5, 6] css.length (fun gg s5 s6 wr => ∃ (kk : Nat) (x : Int), kk ≤ css.length ∧ css.length - kk ≤ gg ∧ s5 = .int .i64 x ∧ s6 = .int .i64 kk ∧ Aside (Below W0.heap.size W0 wr))
  case atStart => exact ⟨0, 0, by omega, by omega, rfl, rfl, Below.refl _ _⟩
  case round =>
    obtain ⟨kk, x, hk, hg, rfl, rfl, B⟩ := hrel
    have hc7' : wr.cell? ⟨w.heap.size, 7, none⟩ = some (.slice A css.length cap) := (B.out.cell (p := ⟨w.heap.size, 7, none⟩) hs0).trans hc7
    by_cases hlt : kk < css.length ∧ x ≤ 5000
    · obtain ⟨hlt, hx5⟩ := hlt
      have hltz : (kk : Int) < (css.length : Int) := by omega
      obtain rfl := HL.out.A (by omega)
      have hrg := ((HL.out.below hb0).below B.out).row kk hlt
      obtain ⟨⟨A1, n1, c1, e1⟩, A2, n2, c2, e2⟩ := HC.out kk hlt
      have k1 : wr.cell? ⟨b, off + kk * 43 + 41, none⟩ = some (.slice A1 n1 c1) := hrg 41 _ e1
      have k2 : wr.cell? ⟨b, off + kk * 43 + 42, none⟩ = some (.slice A2 n2 c2) := hrg 42 _ e2
      clear hrg e1 e2
      go_wp2
      go_region
      go_wp2
      all_goals go_roundg (css.length - (kk + 1))
      all_goals first | exact ⟨kk + 1, _, by omega, by omega, rfl, by go_num, B.out.drew⟩ | omega
    · have hb := hb0.trans (B.out.mono hb0.size)
      have hout : ¬ ((kk : Int) < (css.length : Int)) ∨ ((kk : Int) < (css.length : Int) ∧ ¬ x ≤ 5000) := by
        by_cases g : kk < css.length
        · exact .inr ⟨by omega, fun h => hlt ⟨g, h⟩⟩
        · exact .inl (by omega)
      clear hlt
      rcases hout with g | ⟨g, g'⟩
      · go_wp2
        go_loopg [5, 7] 0 (fun gg s5 s7 wr2 => s5 = .int .i64 x ∧ s7 = .int .i64 0 ∧ wr2 = wr)
        case atStart => exact ⟨rfl, rfl, rfl⟩
        case round =>
          obtain ⟨rfl, rfl, rfl⟩ := hrel
          go_wp2
          go_ret
          exact ⟨bigPost_any _ G1.out _, hb⟩
      · go_wp2
        go_loopg [5, 7] 0 (fun gg s5 s7 wr2 => s5 = .int .i64 x ∧ s7 = .int .i64 0 ∧ wr2 = wr)
        case atStart => exact ⟨rfl, rfl, rfl⟩
        case round =>
          obtain ⟨rfl, rfl, rfl⟩ := hrel
          go_wp2
          go_ret
          exact ⟨bigPost_any _ G1.out _, hb⟩
end Go.Proofs.Ytpjachbmllklgaa.Rng
end
section
/- The document's L. -/
namespace Go.Proofs.Ytpjachbmllklgaa.Rng
open Go.RowKit Go.Proofs.YtpjachbmllklgaaW.PrintWords
set_option linter.unusedVariables false
set_option linter.unusedSimpArgs false
attribute [local go_sem] Oper.semAt_some

theorem flat_get : ∀ (css : List (List Value)) (h : ∀ c ∈ css, c.length = 43) (j i : Nat), j < css.length → i < 43 → css.flatten[j * 43 + i]? = css[j]![i]?
  | [], _, j, i, hj, _ => absurd hj (Nat.not_lt_zero _)
  | c :: css, h, 0, i, _, hi => by
    have hc := h c (by simp)
    rw [List.flatten_cons, List.getElem?_append_left (by omega)]
    simp
  | c :: css, h, j + 1, i, hj, hi => by
    have hc := h c (by simp)
    rw [List.flatten_cons, List.getElem?_append_right (by omega), show (j + 1) * 43 + i - c.length = j * 43 + i by omega, flat_get css (fun c hc => h c (by simp [hc])) j i (by simpa using hj) hi]
    simp
theorem row_flat {W : World} {b : Nat} {css : List (List Value)} {t : TypeId} {fr : Nat × Nat} (hb : W.heap[b]? = some (.cells css.flatten.toArray t fr)) (h : ∀ c ∈ css, c.length = 43) : Row W b 0 css := by
  intro j hj i v hi
  have hl : css[j]!.length = 43 := h _ (by rw [getElem!_pos css j hj]; exact List.getElem_mem hj)
  have hi2 : i < 43 := by have := (List.getElem?_eq_some_iff.1 hi).1; omega
  have := flat_get css h j i hj hi2
  simp only [World.cell?, hb, Nat.zero_add, List.getElem?_toArray]
  rw [this]
  exact hi
/-- An entry that bears a number and a term alone. -/
def ent (i t : Int) : List Value := [.int .i64 i, .int .i64 t, .int .i64 0, .int .i64 0, .int .i64 0, .int .i64 0, .string ⟨#[]⟩, .string ⟨#[]⟩, .int .i64 0] ++ List.replicate 32 (.int .u8 0) ++ [.slice none 0 0, .slice none 0 0]
theorem ent_isE (i t : Int) : IsE (ent i t) := ⟨rfl, fun u hu => by
  simp only [ent, List.mem_append, List.mem_cons, List.mem_replicate, List.not_mem_nil, or_false] at hu
  rcases hu with ((rfl | rfl | rfl | rfl | rfl | rfl | rfl | rfl | rfl) | ⟨_, rfl⟩) | (rfl | rfl) <;> rfl, rfl, rfl⟩
theorem ent_isC (i t : Int) : IsC (ent i t) := ⟨⟨none, 0, 0, rfl⟩, none, 0, 0, rfl⟩
theorem ent_it (i t : Int) : itOf (ent i t) = (i, t) := rfl
def oneE : List (List Value) := [ent 3 1, ent 4 2, ent 5 2]
def oneSv (b : Nat) : Sv := ⟨0, 0, 2, 1, none, 0, 0, none, 0, 0, ⟨#[]⟩, some ⟨b, 0, none⟩, 3, 3, none, 0, 0⟩
theorem oneE_all (P : List Value → Prop) (h : ∀ i t, P (ent i t)) : ∀ j, j < oneE.length → P oneE[j]! := by
  intro j hj
  have : j < 3 := hj
  have : j = 0 ∨ j = 1 ∨ j = 2 := by omega
  rcases this with rfl | rfl | rfl
  · exact h 3 1
  · exact h 4 2
  · exact h 5 2
theorem one_lg {W : World} {b : Nat} {t : TypeId} {fr : Nat × Nat} (hb : W.heap[b]? = some (.cells oneE.flatten.toArray t fr)) : Lg W (oneSv b) b 0 oneE := by
  refine ⟨rfl, fun _ => rfl, row_flat hb ?_, oneE_all _ ent_isE, ?_, by decide, .inl (Array.getElem?_eq_some_iff.1 hb).1⟩
  · intro c hc
    simp only [oneE, List.mem_cons, List.not_mem_nil, or_false] at hc
    rcases hc with rfl | rfl | rfl <;> rfl
  · intro j hj
    have : j < 3 := hj
    have : j = 0 ∨ j = 1 ∨ j = 2 := by omega
    rcases this with rfl | rfl | rfl <;> decide

set_option maxHeartbeats 2000000 in
set_option maxRecDepth 100000 in
theorem one_c (w : World) :
    Calls Try.prog 42 #[] w fun e w' => ∃ b, e = .returned (.agg (oneSv b).cells) ∧ Below w.heap.size w w' ∧ Lg w' (oneSv b) b 0 oneE := by
  have hi30 : ∀ cells : Array Value, cells.size = 9 → (Try.prog.info? 30).map (·.size) = some cells.size := fun c hc => by rw [hc]; exact size30
  go_enter Try.func42, Try.ntmps42
  go_wp2
  refine bodyPost_ret (results_cell_row rfl _ _ w.heap.size 30 _ (0, 0) _ rfl ((heap_alloc_old _ _ _ (by simp)).trans (heap_alloc_new w _)) Try.underlying30 rfl (hi30 _ rfl)) rfl ?_
  refine ⟨w.heap.size + 1, rfl, ((Below.refl _ w).alloc (Nat.le_refl _) _).alloc (by simp) _, ?_⟩
  have := heap_alloc_new (w.alloc (.cells #[.int .i64 0, .int .i64 0, .int .i64 2, .int .i64 1, .slice none 0 0, .slice none 0 0, .string ⟨#[]⟩, .slice (some ⟨w.heap.size + 1, 0, none⟩) 3 3, .slice none 0 0] 30)) (.cells oneE.flatten.toArray 59)
  rw [World.size_alloc] at this
  exact one_lg this
end Go.Proofs.Ytpjachbmllklgaa.Rng
end
section
/- What the document's L answers: asks. -/
namespace Go.Proofs.Ytpjachbmllklgaa.Rng
open Go.RowKit Go.Proofs.YtpjachbmllklgaaW.PrintWords
set_option linter.unusedVariables false
set_option linter.unusedSimpArgs false
attribute [local go_sem] Oper.semAt_some

theorem one_check (b : Nat) : checkB (oneSv b).si (its oneE) = true := by
  show checkB 2 (its oneE) = true
  decide
theorem one_sound (b : Nat) : (oneSv b).sound oneE = oneSv b ∧ soundE (oneSv b) oneE = oneE := by
  unfold Sv.sound soundE
  rw [one_check]
  exact ⟨rfl, rfl⟩
theorem one_last_c (b : Nat) (w : World) (h : Lg w (oneSv b) b 0 oneE) : Calls Try.prog 11 #[.agg (oneSv b).cells] w fun e w' => e = .returned (.tuple #[.int .i64 5, .int .i64 2]) ∧ Below w.heap.size w w' := by
  have := last_c (oneSv b) b 0 oneE w h
  rw [(one_sound b).1, (one_sound b).2] at this
  exact this
theorem one_term_c (b : Nat) (w : World) (h : Lg w (oneSv b) b 0 oneE) (i : Int) (hi : -9223372036854775808 ≤ i ∧ i ≤ 9223372036854775807) (t : Int) (ok : Bool) (hv : termV 2 1 (its oneE) i = (t, ok)) :
    Calls Try.prog 13 #[.agg (oneSv b).cells, .int .i64 i] w fun e w' => e = .returned (.tuple #[.int .i64 t, .bool ok]) ∧ Below w.heap.size w w' := by
  have := term_c (oneSv b) b 0 oneE w h i hi
  rw [(one_sound b).1, (one_sound b).2] at this
  have e : termV (oneSv b).si (oneSv b).st (its oneE) i = (t, ok) := hv
  rw [e] at this
  exact this
theorem one_check_c (b : Nat) (w : World) (h : Lg w (oneSv b) b 0 oneE) : Calls Try.prog 10 #[.agg (oneSv b).cells] w fun e w' => e = .returned (.int .i64 0) ∧ Below w.heap.size w w' := by
  have := check_c (oneSv b) b 0 oneE w h
  rw [one_check b] at this
  exact this

set_option maxHeartbeats 2000000 in
set_option maxRecDepth 100000 in
theorem asks_c (w : World) : Calls Try.prog 15 #[] w fun e w' => e = .returned (.bool true) ∧ Below w.heap.size w w' := by
  have e42 : ∀ args w, (callFunc 42 args).run Try.prog w = .ok (.enter 42 args) w := enters_of Try.func42 (by kernel_rfl) rfl
  have e11 : ∀ args w, (callFunc 11 args).run Try.prog w = .ok (.enter 11 args) w := enters_of Try.func11 (by kernel_rfl) rfl
  have e13 : ∀ args w, (callFunc 13 args).run Try.prog w = .ok (.enter 13 args) w := enters_of Try.func13 (by kernel_rfl) rfl
  have e10 : ∀ args w, (callFunc 10 args).run Try.prog w = .ok (.enter 10 args) w := enters_of Try.func10 (by kernel_rfl) rfl
  go_enter Try.func15, Try.ntmps15
  go_wp2_with fail
  refine (one_c w).mono ?_
  rintro e w1 ⟨b1, rfl, hb1, hL1⟩
  have q1 : Below w.heap.size w w1 := hb1
  clear hb1
  go_wp2_with fail
  refine (one_last_c b1 w1 hL1).mono ?_
  rintro e w2 ⟨rfl, hb2⟩
  have q2 : Below w.heap.size w w2 := q1.trans (hb2.mono q1.size)
  clear hb2 q1 hL1
  go_wp2_with fail
  refine (one_c w2).mono ?_
  rintro e w3 ⟨b3, rfl, hb3, hL3⟩
  have q3 : Below w.heap.size w w3 := q2.trans (hb3.mono q2.size)
  clear hb3 q2
  go_wp2_with fail
  refine (one_term_c b3 w3 hL3 2 (by decide) 1 true (by decide)).mono ?_
  rintro e w4 ⟨rfl, hb4⟩
  have q4 : Below w.heap.size w w4 := q3.trans (hb4.mono q3.size)
  clear hb4 q3 hL3
  go_wp2_with fail
  refine (one_c w4).mono ?_
  rintro e w5 ⟨b5, rfl, hb5, hL5⟩
  have q5 : Below w.heap.size w w5 := q4.trans (hb5.mono q4.size)
  clear hb5 q4
  go_wp2_with fail
  refine (one_term_c b5 w5 hL5 1 (by decide) 0 false (by decide)).mono ?_
  rintro e w6 ⟨rfl, hb6⟩
  have q6 : Below w.heap.size w w6 := q5.trans (hb6.mono q5.size)
  clear hb6 q5 hL5
  go_wp2_with fail
  refine (one_c w6).mono ?_
  rintro e w7 ⟨b7, rfl, hb7, hL7⟩
  have q7 : Below w.heap.size w w7 := q6.trans (hb7.mono q6.size)
  clear hb7 q6
  go_wp2_with fail
  refine (one_check_c b7 w7 hL7).mono ?_
  rintro e w8 ⟨rfl, hb8⟩
  have q8 : Below w.heap.size w w8 := q7.trans (hb8.mono q7.size)
  clear hb8 q7 hL7
  go_wp2
  go_ret
  exact ⟨rfl, q8⟩
end Go.Proofs.Ytpjachbmllklgaa.Rng
end
