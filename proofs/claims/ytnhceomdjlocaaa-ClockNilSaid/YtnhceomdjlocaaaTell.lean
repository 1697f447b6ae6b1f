/- (*clock.pair).tell: what a tick leaves of a pair. -/
import Derived.Test.YtnhceomdjlocaaaPAllx0
import Derived.WalkSpells
import Derived.WalkMore
import Derived.Outline
import Derived.BigRegion
namespace Go.Proofs.Ytnhceomdjlocaaa.Clock
open Go.RowKit Go.Proofs.YtnhceomdjlocaaaW.PrintWords Go.Proofs.YtnhceomdjlocaaaW.PrintLast Go.Proofs.YtnhceomdjlocaaaW.PrintMore
attribute [local go_sem] max2_int min2_int max_two min_two max_three min_three max_four min_four
set_option linter.unusedVariables false
set_option linter.unusedSimpArgs false

/-- How the clocks of two go. -/
structure PairS where
  x : Int
  y : Int
  xd : Bool
  yd : Bool
  a : Int
  b : Int
  l : Int
  o : Int
  u : Bool
def Small (p : PairS) : Prop := (1 ≤ p.x ∧ p.x ≤ 7) ∧ (1 ≤ p.y ∧ p.y ≤ 7) ∧ (0 ≤ p.a ∧ p.a ≤ 1000000) ∧ (0 ≤ p.b ∧ p.b ≤ 1000000) ∧ (-3000000 ≤ p.l ∧ p.l ≤ 0) ∧ (-3000000 ≤ p.o ∧ p.o ≤ 0)
def cellsP (p : PairS) : List Value := [.int .i64 p.x, .int .i64 p.y, .bool p.xd, .bool p.yd, .int .i64 p.a, .int .i64 p.b, .int .i64 p.l, .int .i64 p.o, .bool p.u]
/-- What a tick, or a stop, leaves. -/
def tellP (p : PairS) (n : Int) : PairS :=
  if n = -p.x then { p with xd := !p.xd, a := 0, b := 0, l := 0, o := 0 }
  else if n = -p.y then { p with yd := !p.yd, a := 0, b := 0, l := 0, o := 0 }
  else if p.xd || p.yd then p
  else
    let a := if n = p.x then p.a + 1 else p.a
    let b := if n = p.x then p.b else if n = p.y then p.b + 1 else p.b
    { p with a := a, b := b, u := p.u || decide (a - 2 * b - p.l > 2) || decide (b - 2 * a - p.o > 2), l := mn p.l (a - 2 * b), o := mn p.o (b - 2 * a) }

/-- A pair's cells from off on in block b. -/
def At (w : World) (b off : Nat) (p : PairS) : Prop := ∃ cur : Array Value, w.heap[b]? = some (.cells cur 49 (0, 0)) ∧ ∀ j v, (cellsP p)[j]? = some v → cur[off + j]? = some v
/-- Only the pair's cells have turned. -/
def Only (w w' : World) (b off : Nat) : Prop := w'.os = w.os ∧ w'.tape = w.tape ∧ w'.output = w.output ∧ w'.heap.size = w.heap.size ∧ (∀ k, k ≠ b → w'.heap[k]? = w.heap[k]?) ∧
  ∃ c c' : Array Value, w.heap[b]? = some (.cells c 49 (0, 0)) ∧ w'.heap[b]? = some (.cells c' 49 (0, 0)) ∧ c'.size = c.size ∧ ∀ i, (i < off ∨ off + 9 ≤ i) → c'[i]? = c[i]?

set_option maxHeartbeats 8000000 in
set_option maxRecDepth 100000 in
theorem tell_x (b off : Nat) (p : PairS) (w : World) (hs : Small p)
    (c0 : w.cell? ⟨b, off, none⟩ = some (.int .i64 p.x)) (c1 : w.cell? ⟨b, off + 1, none⟩ = some (.int .i64 p.y)) (c2 : w.cell? ⟨b, off + 2, none⟩ = some (.bool p.xd)) (c3 : w.cell? ⟨b, off + 3, none⟩ = some (.bool p.yd))
    (c4 : w.cell? ⟨b, off + 4, none⟩ = some (.int .i64 p.a)) (c5 : w.cell? ⟨b, off + 5, none⟩ = some (.int .i64 p.b)) (c6 : w.cell? ⟨b, off + 6, none⟩ = some (.int .i64 p.l)) (c7 : w.cell? ⟨b, off + 7, none⟩ = some (.int .i64 p.o)) (c8 : w.cell? ⟨b, off + 8, none⟩ = some (.bool p.u))
    (f0 : ∀ j, w.frozen? ⟨b, j, none⟩ = false) :
    Calls Try.prog 27 #[.pointer (some ⟨b, off, none⟩), .int .i64 (-p.x)] w fun e w' => e = .returned (.tuple #[]) ∧ w' = (((((w.setCell ⟨b, off + 2, none⟩ (.bool (!p.xd))).setCell ⟨b, off + 4, none⟩ (.int .i64 0)).setCell ⟨b, off + 5, none⟩ (.int .i64 0)).setCell ⟨b, off + 6, none⟩ (.int .i64 0)).setCell ⟨b, off + 7, none⟩ (.int .i64 0)) := by
  obtain ⟨⟨h0, h1⟩, ⟨h2, h3⟩, _⟩ := hs
  have f2 := f0 (off + 2); have f4 := f0 (off + 4); have f5 := f0 (off + 5); have f6 := f0 (off + 6); have f7 := f0 (off + 7)
  clear f0
  go_enter Try.func27, Try.ntmps27
  go_wp2
  refine bodyPost_ret (results_none rfl _ _ _) rfl ?_
  exact ⟨rfl, rfl⟩
set_option maxHeartbeats 8000000 in
set_option maxRecDepth 100000 in
theorem tell_y (b off : Nat) (p : PairS) (w : World) (hs : Small p) (hne : ¬ -p.y = -p.x)
    (c0 : w.cell? ⟨b, off, none⟩ = some (.int .i64 p.x)) (c1 : w.cell? ⟨b, off + 1, none⟩ = some (.int .i64 p.y)) (c2 : w.cell? ⟨b, off + 2, none⟩ = some (.bool p.xd)) (c3 : w.cell? ⟨b, off + 3, none⟩ = some (.bool p.yd))
    (c4 : w.cell? ⟨b, off + 4, none⟩ = some (.int .i64 p.a)) (c5 : w.cell? ⟨b, off + 5, none⟩ = some (.int .i64 p.b)) (c6 : w.cell? ⟨b, off + 6, none⟩ = some (.int .i64 p.l)) (c7 : w.cell? ⟨b, off + 7, none⟩ = some (.int .i64 p.o)) (c8 : w.cell? ⟨b, off + 8, none⟩ = some (.bool p.u))
    (f0 : ∀ j, w.frozen? ⟨b, j, none⟩ = false) :
    Calls Try.prog 27 #[.pointer (some ⟨b, off, none⟩), .int .i64 (-p.y)] w fun e w' => e = .returned (.tuple #[]) ∧ w' = (((((w.setCell ⟨b, off + 3, none⟩ (.bool (!p.yd))).setCell ⟨b, off + 4, none⟩ (.int .i64 0)).setCell ⟨b, off + 5, none⟩ (.int .i64 0)).setCell ⟨b, off + 6, none⟩ (.int .i64 0)).setCell ⟨b, off + 7, none⟩ (.int .i64 0)) := by
  obtain ⟨⟨h0, h1⟩, ⟨h2, h3⟩, _⟩ := hs
  have f2 := f0 (off + 3); have f4 := f0 (off + 4); have f5 := f0 (off + 5); have f6 := f0 (off + 6); have f7 := f0 (off + 7)
  clear f0
  go_enter Try.func27, Try.ntmps27
  go_wp2
  refine bodyPost_ret (results_none rfl _ _ _) rfl ?_
  exact ⟨rfl, rfl⟩
set_option maxHeartbeats 8000000 in
set_option maxRecDepth 100000 in
theorem tell_down (b off : Nat) (p : PairS) (n : Int) (w : World) (hs : Small p) (hx : ¬ n = -p.x) (hy : ¬ n = -p.y) (hd : p.xd = true ∨ (p.xd = false ∧ p.yd = true))
    (c0 : w.cell? ⟨b, off, none⟩ = some (.int .i64 p.x)) (c1 : w.cell? ⟨b, off + 1, none⟩ = some (.int .i64 p.y)) (c2 : w.cell? ⟨b, off + 2, none⟩ = some (.bool p.xd)) (c3 : w.cell? ⟨b, off + 3, none⟩ = some (.bool p.yd))
    (c4 : w.cell? ⟨b, off + 4, none⟩ = some (.int .i64 p.a)) (c5 : w.cell? ⟨b, off + 5, none⟩ = some (.int .i64 p.b)) (c6 : w.cell? ⟨b, off + 6, none⟩ = some (.int .i64 p.l)) (c7 : w.cell? ⟨b, off + 7, none⟩ = some (.int .i64 p.o)) (c8 : w.cell? ⟨b, off + 8, none⟩ = some (.bool p.u))
    (f0 : ∀ j, w.frozen? ⟨b, j, none⟩ = false) :
    Calls Try.prog 27 #[.pointer (some ⟨b, off, none⟩), .int .i64 n] w fun e w' => e = .returned (.tuple #[]) ∧ w' = w := by
  obtain ⟨⟨h0, h1⟩, ⟨h2, h3⟩, _⟩ := hs
  clear f0
  rcases hd with hd | ⟨hd, hd2⟩
  · rw [hd] at c2
    clear hd
    go_enter Try.func27, Try.ntmps27
    go_wp2
    refine bodyPost_ret (results_none rfl _ _ _) rfl ?_
    exact ⟨rfl, rfl⟩
  · rw [hd] at c2
    rw [hd2] at c3
    clear hd hd2
    go_enter Try.func27, Try.ntmps27
    go_wp2
    refine bodyPost_ret (results_none rfl _ _ _) rfl ?_
    exact ⟨rfl, rfl⟩
set_option maxHeartbeats 8000000 in
set_option maxRecDepth 100000 in
theorem tell_up_x (b off : Nat) (p : PairS) (n : Int) (w : World) (hs : Small p) (hx : ¬ n = -p.x) (hy : ¬ n = -p.y) (hd : p.xd = false) (hd2 : p.yd = false) (hn : n = p.x) (U : Bool) (hU : (p.u || decide ((p.a + 1 - 2 * p.b) - p.l > 2) || decide ((p.b - 2 * (p.a + 1)) - p.o > 2)) = U)
    (c0 : w.cell? ⟨b, off, none⟩ = some (.int .i64 p.x)) (c1 : w.cell? ⟨b, off + 1, none⟩ = some (.int .i64 p.y)) (c2 : w.cell? ⟨b, off + 2, none⟩ = some (.bool p.xd)) (c3 : w.cell? ⟨b, off + 3, none⟩ = some (.bool p.yd))
    (c4 : w.cell? ⟨b, off + 4, none⟩ = some (.int .i64 p.a)) (c5 : w.cell? ⟨b, off + 5, none⟩ = some (.int .i64 p.b)) (c6 : w.cell? ⟨b, off + 6, none⟩ = some (.int .i64 p.l)) (c7 : w.cell? ⟨b, off + 7, none⟩ = some (.int .i64 p.o)) (c8 : w.cell? ⟨b, off + 8, none⟩ = some (.bool p.u))
    (f0 : ∀ j, w.frozen? ⟨b, j, none⟩ = false) :
    Calls Try.prog 27 #[.pointer (some ⟨b, off, none⟩), .int .i64 n] w fun e w' => e = .returned (.tuple #[]) ∧ ∃ m, w' = ((((w.setCell ⟨b, off + 4, none⟩ (.int .i64 (p.a + 1))).setCell ⟨b, off + 8, none⟩ (.bool U)).setCell ⟨b, off + 6, none⟩ (.int .i64 (mn p.l (p.a + 1 - 2 * p.b)))).setCell ⟨b, off + 7, none⟩ (.int .i64 (mn p.o (p.b - 2 * (p.a + 1))))).drewN m := by
  obtain ⟨⟨h0, h1⟩, ⟨h2, h3⟩, ⟨h4, h5⟩, ⟨h6, h7⟩, ⟨h8, h9⟩, ⟨h10, h11⟩⟩ := hs
  have f2 := f0 (off + 4); have f4 := f0 (off + 5); have f5 := f0 (off + 6); have f6 := f0 (off + 7); have f7 := f0 (off + 8)
  clear f0
  rw [hd] at c2
  rw [hd2] at c3
  clear hd hd2
  have HU := Aside0.mk hU
  clear hU
  unfold mn
  by_cases hu : p.u = true
  · have hU2 : U = true := by rw [← HU.out, hu]; rfl
    subst hU2
    clear HU
    rw [hu] at c8
    clear hu
    go_enter Try.func27, Try.ntmps27
    go_wp2
    go_quiet (fail)
    go_wp2
    go_region
    go_wp2
    all_goals first | go_end0 | ((try simp only [Exit.inBlock, Exit.then]); refine bodyPost_ret (results_none rfl _ _ _) rfl ?_)
    all_goals exact ⟨rfl, nq + 1, rfl⟩
  · have hu2 : p.u = false := by simpa using hu
    rw [hu2] at c8 HU
    clear hu hu2
    by_cases t1 : (p.a + 1 - 2 * p.b) - p.l > 2
    · have hU2 : U = true := by rw [← HU.out, decide_eq_true t1]; rfl
      subst hU2
      clear HU
      go_enter Try.func27, Try.ntmps27
      go_wp2
      go_quiet (fail)
      go_wp2
      go_region
      go_wp2
      all_goals first | go_end0 | ((try simp only [Exit.inBlock, Exit.then]); refine bodyPost_ret (results_none rfl _ _ _) rfl ?_)
      all_goals exact ⟨rfl, nq + 1, rfl⟩
    · by_cases t2 : (p.b - 2 * (p.a + 1)) - p.o > 2
      · have hU2 : U = true := by rw [← HU.out, decide_eq_true t2]; simp
        subst hU2
        clear HU
        go_enter Try.func27, Try.ntmps27
        go_wp2
        go_quiet (fail)
        go_wp2
        go_region
        go_wp2
        all_goals first | go_end0 | ((try simp only [Exit.inBlock, Exit.then]); refine bodyPost_ret (results_none rfl _ _ _) rfl ?_)
        all_goals exact ⟨rfl, nq + 1, rfl⟩
      · have hU2 : U = false := by rw [← HU.out, decide_eq_false t1, decide_eq_false t2]; rfl
        subst hU2
        clear HU
        go_enter Try.func27, Try.ntmps27
        go_wp2
        go_quiet (fail)
        go_wp2
        go_region
        go_wp2
        all_goals first | go_end0 | ((try simp only [Exit.inBlock, Exit.then]); refine bodyPost_ret (results_none rfl _ _ _) rfl ?_)
        all_goals refine ⟨rfl, nq + 1, ?_⟩
        all_goals rw [show decide (2 < p.a + 1 - 2 * p.b - p.l) = false from decide_eq_false (by omega), show decide (2 < p.b - 2 * (p.a + 1) - p.o) = false from decide_eq_false (by omega)]
        all_goals rfl
set_option maxHeartbeats 8000000 in
set_option maxRecDepth 100000 in
theorem tell_up_y (b off : Nat) (p : PairS) (n : Int) (w : World) (hs : Small p) (hx : ¬ n = -p.x) (hy : ¬ n = -p.y) (hd : p.xd = false) (hd2 : p.yd = false) (hn : ¬ n = p.x) (hn2 : n = p.y) (U : Bool) (hU : (p.u || decide ((p.a - 2 * (p.b + 1)) - p.l > 2) || decide ((p.b + 1 - 2 * p.a) - p.o > 2)) = U)
    (c0 : w.cell? ⟨b, off, none⟩ = some (.int .i64 p.x)) (c1 : w.cell? ⟨b, off + 1, none⟩ = some (.int .i64 p.y)) (c2 : w.cell? ⟨b, off + 2, none⟩ = some (.bool p.xd)) (c3 : w.cell? ⟨b, off + 3, none⟩ = some (.bool p.yd))
    (c4 : w.cell? ⟨b, off + 4, none⟩ = some (.int .i64 p.a)) (c5 : w.cell? ⟨b, off + 5, none⟩ = some (.int .i64 p.b)) (c6 : w.cell? ⟨b, off + 6, none⟩ = some (.int .i64 p.l)) (c7 : w.cell? ⟨b, off + 7, none⟩ = some (.int .i64 p.o)) (c8 : w.cell? ⟨b, off + 8, none⟩ = some (.bool p.u))
    (f0 : ∀ j, w.frozen? ⟨b, j, none⟩ = false) :
    Calls Try.prog 27 #[.pointer (some ⟨b, off, none⟩), .int .i64 n] w fun e w' => e = .returned (.tuple #[]) ∧ ∃ m, w' = ((((w.setCell ⟨b, off + 5, none⟩ (.int .i64 (p.b + 1))).setCell ⟨b, off + 8, none⟩ (.bool U)).setCell ⟨b, off + 6, none⟩ (.int .i64 (mn p.l (p.a - 2 * (p.b + 1))))).setCell ⟨b, off + 7, none⟩ (.int .i64 (mn p.o (p.b + 1 - 2 * p.a)))).drewN m := by
  obtain ⟨⟨h0, h1⟩, ⟨h2, h3⟩, ⟨h4, h5⟩, ⟨h6, h7⟩, ⟨h8, h9⟩, ⟨h10, h11⟩⟩ := hs
  have f2 := f0 (off + 4); have f4 := f0 (off + 5); have f5 := f0 (off + 6); have f6 := f0 (off + 7); have f7 := f0 (off + 8)
  clear f0
  rw [hd] at c2
  rw [hd2] at c3
  clear hd hd2
  have HU := Aside0.mk hU
  clear hU
  unfold mn
  by_cases hu : p.u = true
  · have hU2 : U = true := by rw [← HU.out, hu]; rfl
    subst hU2
    clear HU
    rw [hu] at c8
    clear hu
    go_enter Try.func27, Try.ntmps27
    go_wp2
    go_quiet (fail)
    go_wp2
    go_region
    go_wp2
    all_goals first | go_end0 | ((try simp only [Exit.inBlock, Exit.then]); refine bodyPost_ret (results_none rfl _ _ _) rfl ?_)
    all_goals exact ⟨rfl, nq + 1, rfl⟩
  · have hu2 : p.u = false := by simpa using hu
    rw [hu2] at c8 HU
    clear hu hu2
    by_cases t1 : (p.a - 2 * (p.b + 1)) - p.l > 2
    · have hU2 : U = true := by rw [← HU.out, decide_eq_true t1]; rfl
      subst hU2
      clear HU
      go_enter Try.func27, Try.ntmps27
      go_wp2
      go_quiet (fail)
      go_wp2
      go_region
      go_wp2
      all_goals first | go_end0 | ((try simp only [Exit.inBlock, Exit.then]); refine bodyPost_ret (results_none rfl _ _ _) rfl ?_)
      all_goals exact ⟨rfl, nq + 1, rfl⟩
    · by_cases t2 : (p.b + 1 - 2 * p.a) - p.o > 2
      · have hU2 : U = true := by rw [← HU.out, decide_eq_true t2]; simp
        subst hU2
        clear HU
        go_enter Try.func27, Try.ntmps27
        go_wp2
        go_quiet (fail)
        go_wp2
        go_region
        go_wp2
        all_goals first | go_end0 | ((try simp only [Exit.inBlock, Exit.then]); refine bodyPost_ret (results_none rfl _ _ _) rfl ?_)
        all_goals exact ⟨rfl, nq + 1, rfl⟩
      · have hU2 : U = false := by rw [← HU.out, decide_eq_false t1, decide_eq_false t2]; rfl
        subst hU2
        clear HU
        go_enter Try.func27, Try.ntmps27
        go_wp2
        go_quiet (fail)
        go_wp2
        go_region
        go_wp2
        all_goals first | go_end0 | ((try simp only [Exit.inBlock, Exit.then]); refine bodyPost_ret (results_none rfl _ _ _) rfl ?_)
        all_goals refine ⟨rfl, nq + 1, ?_⟩
        all_goals rw [show decide (2 < p.a - 2 * (p.b + 1) - p.l) = false from decide_eq_false (by omega), show decide (2 < p.b + 1 - 2 * p.a - p.o) = false from decide_eq_false (by omega)]
        all_goals rfl
set_option maxHeartbeats 8000000 in
set_option maxRecDepth 100000 in
theorem tell_up_n (b off : Nat) (p : PairS) (n : Int) (w : World) (hs : Small p) (hx : ¬ n = -p.x) (hy : ¬ n = -p.y) (hd : p.xd = false) (hd2 : p.yd = false) (hn : ¬ n = p.x) (hn2 : ¬ n = p.y) (U : Bool) (hU : (p.u || decide ((p.a - 2 * p.b) - p.l > 2) || decide ((p.b - 2 * p.a) - p.o > 2)) = U)
    (c0 : w.cell? ⟨b, off, none⟩ = some (.int .i64 p.x)) (c1 : w.cell? ⟨b, off + 1, none⟩ = some (.int .i64 p.y)) (c2 : w.cell? ⟨b, off + 2, none⟩ = some (.bool p.xd)) (c3 : w.cell? ⟨b, off + 3, none⟩ = some (.bool p.yd))
    (c4 : w.cell? ⟨b, off + 4, none⟩ = some (.int .i64 p.a)) (c5 : w.cell? ⟨b, off + 5, none⟩ = some (.int .i64 p.b)) (c6 : w.cell? ⟨b, off + 6, none⟩ = some (.int .i64 p.l)) (c7 : w.cell? ⟨b, off + 7, none⟩ = some (.int .i64 p.o)) (c8 : w.cell? ⟨b, off + 8, none⟩ = some (.bool p.u))
    (f0 : ∀ j, w.frozen? ⟨b, j, none⟩ = false) :
    Calls Try.prog 27 #[.pointer (some ⟨b, off, none⟩), .int .i64 n] w fun e w' => e = .returned (.tuple #[]) ∧ ∃ m, w' = ((((w).setCell ⟨b, off + 8, none⟩ (.bool U)).setCell ⟨b, off + 6, none⟩ (.int .i64 (mn p.l (p.a - 2 * p.b)))).setCell ⟨b, off + 7, none⟩ (.int .i64 (mn p.o (p.b - 2 * p.a)))).drewN m := by
  obtain ⟨⟨h0, h1⟩, ⟨h2, h3⟩, ⟨h4, h5⟩, ⟨h6, h7⟩, ⟨h8, h9⟩, ⟨h10, h11⟩⟩ := hs
  have f2 := f0 (off + 4); have f4 := f0 (off + 5); have f5 := f0 (off + 6); have f6 := f0 (off + 7); have f7 := f0 (off + 8)
  clear f0
  rw [hd] at c2
  rw [hd2] at c3
  clear hd hd2
  have HU := Aside0.mk hU
  clear hU
  unfold mn
  by_cases hu : p.u = true
  · have hU2 : U = true := by rw [← HU.out, hu]; rfl
    subst hU2
    clear HU
    rw [hu] at c8
    clear hu
    go_enter Try.func27, Try.ntmps27
    go_wp2
    go_quiet (fail)
    go_wp2
    go_region
    go_wp2
    all_goals first | go_end0 | ((try simp only [Exit.inBlock, Exit.then]); refine bodyPost_ret (results_none rfl _ _ _) rfl ?_)
    all_goals exact ⟨rfl, nq + 1, rfl⟩
  · have hu2 : p.u = false := by simpa using hu
    rw [hu2] at c8 HU
    clear hu hu2
    by_cases t1 : (p.a - 2 * p.b) - p.l > 2
    · have hU2 : U = true := by rw [← HU.out, decide_eq_true t1]; rfl
      subst hU2
      clear HU
      go_enter Try.func27, Try.ntmps27
      go_wp2
      go_quiet (fail)
      go_wp2
      go_region
      go_wp2
      all_goals first | go_end0 | ((try simp only [Exit.inBlock, Exit.then]); refine bodyPost_ret (results_none rfl _ _ _) rfl ?_)
      all_goals exact ⟨rfl, nq + 1, rfl⟩
    · by_cases t2 : (p.b - 2 * p.a) - p.o > 2
      · have hU2 : U = true := by rw [← HU.out, decide_eq_true t2]; simp
        subst hU2
        clear HU
        go_enter Try.func27, Try.ntmps27
        go_wp2
        go_quiet (fail)
        go_wp2
        go_region
        go_wp2
        all_goals first | go_end0 | ((try simp only [Exit.inBlock, Exit.then]); refine bodyPost_ret (results_none rfl _ _ _) rfl ?_)
        all_goals exact ⟨rfl, nq + 1, rfl⟩
      · have hU2 : U = false := by rw [← HU.out, decide_eq_false t1, decide_eq_false t2]; rfl
        subst hU2
        clear HU
        go_enter Try.func27, Try.ntmps27
        go_wp2
        go_quiet (fail)
        go_wp2
        go_region
        go_wp2
        all_goals first | go_end0 | ((try simp only [Exit.inBlock, Exit.then]); refine bodyPost_ret (results_none rfl _ _ _) rfl ?_)
        all_goals refine ⟨rfl, nq + 1, ?_⟩
        all_goals rw [show decide (2 < p.a - 2 * p.b - p.l) = false from decide_eq_false (by omega), show decide (2 < p.b - 2 * p.a - p.o) = false from decide_eq_false (by omega)]
        all_goals rfl
end Go.Proofs.Ytnhceomdjlocaaa.Clock
