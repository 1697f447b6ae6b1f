/- A watch as it lies, and what Ticks and Alike tell of it. -/
import Derived.Test.YtnhceomdjlocaaaGens
import Derived.Test.YtnhceomdjlocaaaTell2
import Derived.Test.YtnhceomdjlocaaaLocks
import Derived.Conc.MuLone
import Derived.StillTailTactics
namespace Go.Proofs.Ytnhceomdjlocaaa.Clock
open Go.RowKit Go.Lib Go.MuLone Go.Proofs.YtnhceomdjlocaaaW.PrintWords Go.Proofs.YtnhceomdjlocaaaW.PrintLast Go.Proofs.YtnhceomdjlocaaaW.PrintMore
set_option linter.unusedVariables false
set_option linter.unusedSimpArgs false

/-- Where a watch lies. -/
structure Wa where
  bw : Nat
  bn : Nat
  bt : Nat
  bp : Nat
  cn : Nat
  cp : Nat
  pa : Option Addr
def Wa.cells (a : Wa) (n m : Nat) : Array Value := #[.slice (some ⟨a.bn, 0, none⟩) n a.cn, .slice (some ⟨a.bt, 0, none⟩) n n, .int .i32 0, .int .u32 0, .slice a.pa m a.cp]
/-- A watch of nodes ns, of so many ticks ts, and pairs ps. -/
structure IsW (w : World) (a : Wa) (ns ts : List Int) (ps : List PairS) : Prop where
  hw : w.heap[a.bw]? = some (.cells (a.cells ns.length ps.length) 47 (0, 0))
  hn : ∃ c, w.heap[a.bn]? = some (.cells c 3 (0, 0)) ∧ ∀ j, j < ns.length → c[j]? = some (.int .i64 ns[j]!)
  ht : ∃ c, w.heap[a.bt]? = some (.cells c 54 (0, 0)) ∧ ∀ j, j < ns.length → c[j]? = some (.int .i64 ts[j]!)
  tl : ts.length = ns.length
  hp : 0 < ps.length → a.pa = some ⟨a.bp, 0, none⟩ ∧ ∃ c, w.heap[a.bp]? = some (.cells c 49 (0, 0)) ∧ ∀ j, j < ps.length → Nine c (j * 9) ps[j]!
theorem heap_lt {w : World} {b : Nat} {o : Obj} (h : w.heap[b]? = some o) : b < w.heap.size := (Array.getElem?_eq_some_iff.1 h).1
theorem IsW.below {w w' : World} {a : Wa} {ns ts : List Int} {ps : List PairS} (h : IsW w a ns ts ps) (hb : Below w.heap.size w w') : IsW w' a ns ts ps := by
  obtain ⟨c1, h1, k1⟩ := h.hn
  obtain ⟨c2, h2, k2⟩ := h.ht
  refine ⟨(hb.block _ (heap_lt h.hw)).trans h.hw, ⟨c1, (hb.block _ (heap_lt h1)).trans h1, k1⟩, ⟨c2, (hb.block _ (heap_lt h2)).trans h2, k2⟩, h.tl, fun g => ?_⟩
  obtain ⟨e, c3, h3, k3⟩ := h.hp g
  exact ⟨e, c3, (hb.block _ (heap_lt h3)).trans h3, k3⟩
theorem IsW.c0 {w : World} {a : Wa} {ns ts : List Int} {ps : List PairS} (h : IsW w a ns ts ps) : w.cell? ⟨a.bw, 0, none⟩ = some (.slice (some ⟨a.bn, 0, none⟩) ns.length a.cn) := by simp [World.cell?, h.hw, Wa.cells]
theorem IsW.c1 {w : World} {a : Wa} {ns ts : List Int} {ps : List PairS} (h : IsW w a ns ts ps) : w.cell? ⟨a.bw, 1, none⟩ = some (.slice (some ⟨a.bt, 0, none⟩) ns.length ns.length) := by simp [World.cell?, h.hw, Wa.cells]
theorem IsW.c2 {w : World} {a : Wa} {ns ts : List Int} {ps : List PairS} (h : IsW w a ns ts ps) : w.cell? ⟨a.bw, 2, none⟩ = some (.int .i32 0) := by simp [World.cell?, h.hw, Wa.cells]
theorem IsW.c4 {w : World} {a : Wa} {ns ts : List Int} {ps : List PairS} (h : IsW w a ns ts ps) : w.cell? ⟨a.bw, 4, none⟩ = some (.slice a.pa ps.length a.cp) := by simp [World.cell?, h.hw, Wa.cells]
theorem IsW.f2 {w : World} {a : Wa} {ns ts : List Int} {ps : List PairS} (h : IsW w a ns ts ps) : w.frozen? ⟨a.bw, 2, none⟩ = false := by simp [World.frozen?, h.hw]
theorem IsW.nc {w : World} {a : Wa} {ns ts : List Int} {ps : List PairS} (h : IsW w a ns ts ps) : ∀ j, j < ns.length → w.cell? ⟨a.bn, j, none⟩ = some (.int .i64 ns[j]!) := fun j hj => by
  obtain ⟨c, h1, k1⟩ := h.hn
  simp [World.cell?, h1, k1 j hj]
theorem IsW.tc {w : World} {a : Wa} {ns ts : List Int} {ps : List PairS} (h : IsW w a ns ts ps) : ∀ j, j < ns.length → w.cell? ⟨a.bt, j, none⟩ = some (.int .i64 ts[j]!) := fun j hj => by
  obtain ⟨c, h1, k1⟩ := h.ht
  simp [World.cell?, h1, k1 j hj]

/-- The first that is so, or none. -/
theorem first_or (p : Int → Bool) : ∀ ns : List Int, (∃ j, j < ns.length ∧ p ns[j]! = true ∧ ∀ i, i < j → p ns[i]! = false) ∨ ∀ j, j < ns.length → p ns[j]! = false
  | [] => .inr (fun j h => absurd h (Nat.not_lt_zero _))
  | n :: ns => by
    by_cases h : p n = true
    · exact .inl ⟨0, by simp, by simpa using h, fun i hi => absurd hi (Nat.not_lt_zero _)⟩
    · have h : p n = false := by simpa using h
      rcases first_or p ns with ⟨j, h1, h2, h3⟩ | h1
      · refine .inl ⟨j + 1, by simpa using h1, by simpa using h2, fun i hi => ?_⟩
        cases i with
        | zero => simpa using h
        | succ i => simpa using h3 i (by omega)
      · refine .inr fun j hj => ?_
        cases j with
        | zero => simpa using h
        | succ j => simpa using h1 j (by simpa using hj)

/-- Ticks of a node. -/
theorem ticks_hit (a : Wa) (ns ts : List Int) (ps : List PairS) (w : World) (x : Int) (j : Nat) (h : IsW w a ns ts ps) (hl : ns.length ≤ 1000) (hj : j < ns.length) (hx : x = ns[j]!) (hno : ∀ i, i < j → ¬ x = ns[i]!) :
    Calls Try.prog 16 #[.pointer (some ⟨a.bw, 0, none⟩), .int .i64 x] w fun e w' => e = .returned (.int .i64 ts[j]!) ∧ ∃ q, w' = w.drewN q := by
  have e0 := h.c0; have e1 := h.c1; have tc := h.tc j hj
  have e30 : ∀ args w, (callFunc 30 args).run Try.prog w = .ok (.enter 30 args) w := enters_of Try.func30 (by kernel_rfl) rfl
  have hcall := idxI ns x a.bn a.cn w j h.nc (by omega) (fun i g1 g2 g3 => by
      rcases Nat.lt_trichotomy i j with k | k | k
      · exact absurd g2 (hno i k)
      · rw [k]
      · exact absurd hx (g3 j k)) (fun g => absurd hx (g j hj))
  have hj1 : (j : Int) < (ns.length : Int) := by omega
  clear hno h hx
  generalize ts[j]! = t at *
  generalize ns.length = n at *
  go_enter Try.func16, Try.ntmps16
  go_wp2_with (first | (go_at_fn 30; refine hcall.mono ?_; rintro e w' ⟨rfl, q, rfl⟩) | (go_at_call 31; refine (load64 a.bt j t (w.drewN q) tc).mono ?_; rintro e w' ⟨rfl, rfl⟩))
  go_ret
  exact ⟨rfl, q, rfl⟩
theorem ticks_miss (a : Wa) (ns ts : List Int) (ps : List PairS) (w : World) (x : Int) (h : IsW w a ns ts ps) (hl : ns.length ≤ 1000) (hno : ∀ i, i < ns.length → ¬ x = ns[i]!) :
    Calls Try.prog 16 #[.pointer (some ⟨a.bw, 0, none⟩), .int .i64 x] w fun e w' => e = .returned (.int .i64 0) ∧ ∃ q, w' = w.drewN q := by
  have e0 := h.c0
  have e30 : ∀ args w, (callFunc 30 args).run Try.prog w = .ok (.enter 30 args) w := enters_of Try.func30 (by kernel_rfl) rfl
  have hcall := idxI ns x a.bn a.cn w (-1) h.nc (by omega) (fun i g1 g2 g3 => absurd g2 (hno i g1)) (fun g => rfl)
  clear hno h
  generalize ns.length = n at *
  go_enter Try.func16, Try.ntmps16
  go_wp2_with (first | (go_at_fn 30; refine hcall.mono ?_; rintro e w' ⟨rfl, q, rfl⟩))
  go_ret
  exact ⟨rfl, q, rfl⟩
theorem ticks_nil (x : Int) (w : World) :
    Calls Try.prog 16 #[.pointer none, .int .i64 x] w fun e w' => e = .returned (.int .i64 0) ∧ w' = w := by
  go_enter Try.func16, Try.ntmps16
  go_wp2
  go_ret
  exact ⟨rfl, rfl⟩
theorem alike_nil (w : World) :
    Calls Try.prog 15 #[.pointer none] w fun e w' => e = .returned (.bool false) ∧ w' = w := by
  go_enter_defers Try.func15, Try.ntmps15
  go_wp2
  exact ⟨_, results_tmp rfl _ _ _, rfl, rfl⟩

theorem IsW.held {w : World} {a : Wa} {ns ts : List Int} {ps : List PairS} (h : IsW w a ns ts ps) : (w.setCell ⟨a.bw, 2, none⟩ (.int .i32 1)).heap[a.bw]? = some (.cells ((a.cells ns.length ps.length).setIfInBounds 2 (.int .i32 1)) 47 (0, 0)) := by
  simp [World.setCell, Array.getElem?_modify, h.hw]
theorem alike_any (a : Wa) (ns ts : List Int) (ps : List PairS) (w : World) (h : IsW w a ns ts ps) (hl : ps.length ≤ 1000) :
    Calls Try.prog 15 #[.pointer (some ⟨a.bw, 0, none⟩)] w fun e w' => e = .returned (.bool (!ps.any (·.u))) ∧ Below w.heap.size w w' := by
  have e4 := h.c4; have e2 := h.c2; have f2 := h.f2
  have hlt := heap_lt h.hw
  have e28 : ∀ args w, (callFunc 28 args).run Try.prog w = .ok (.enter 28 args) w := enters_of Try.func28 (by kernel_rfl) rfl
  generalize hw1 : w.setCell ⟨a.bw, 2, none⟩ (.int .i32 1) = w1
  have s4 : w1.cell? ⟨a.bw, 4, none⟩ = some (.slice a.pa ps.length a.cp) := by
    subst hw1; exact (World.cell?_setCell_other _ ⟨a.bw, 2, none⟩ ⟨a.bw, 4, none⟩ _ (by simp)).trans e4
  have hsz : w1.heap.size = w.heap.size := by subst hw1; simp [World.setCell]
  have hoth : ∀ k, k ≠ a.bw → w1.heap[k]? = w.heap[k]? := fun k hk => by subst hw1; exact Below.heap_setCell w _ _ k hk
  have hbw : w1.heap[a.bw]? = some (.cells ((a.cells ns.length ps.length).setIfInBounds 2 (.int .i32 1)) 47 (0, 0)) := by subst hw1; exact h.held
  have hos : w1.os = w.os ∧ w1.tape = w.tape ∧ w1.output = w.output := by subst hw1; exact ⟨rfl, rfl, rfl⟩
  have hcall : Calls Try.prog 28 #[.slice a.pa ps.length a.cp, .func (.func 29) #[] #[]] w1 fun e w' => e = .returned (.bool (ps.any (·.u))) ∧ Below w1.heap.size w1 w' := by
    rcases Nat.eq_zero_or_pos ps.length with h0 | h0
    · rw [h0]
      have : ps = [] := List.length_eq_zero_iff.1 h0
      subst this
      exact (containsP_empty _ _ _).mono fun e w' ⟨h1, h2⟩ => ⟨h1, h2 ▸ Below.refl _ _⟩
    · obtain ⟨hpa, c, hc, hnine⟩ := h.hp h0
      rw [hpa]
      have hne : a.bp ≠ a.bw := fun e => by rw [e, h.hw] at hc; simp at hc
      have hc1 : w1.heap[a.bp]? = some (.cells c 49 (0, 0)) := (hoth _ hne).trans hc
      refine containsP ps a.bp a.cp w1 (heap_lt hc1) (by omega) (fun j hj i v hi => ?_)
      obtain ⟨d0, d1, d2, d3, d4, d5, d6, d7, d8⟩ := hnine j hj
      have cl : ∀ k, w1.cell? ⟨a.bp, k, none⟩ = c[k]? := fun k => by simp [World.cell?, hc1]
      rw [cl, Nat.zero_add]
      unfold cellsP at hi
      match i, hi with
      | 0, hi => rw [← hi]; exact d0
      | 1, hi => rw [← hi]; exact d1
      | 2, hi => rw [← hi]; exact d2
      | 3, hi => rw [← hi]; exact d3
      | 4, hi => rw [← hi]; exact d4
      | 5, hi => rw [← hi]; exact d5
      | 6, hi => rw [← hi]; exact d6
      | 7, hi => rw [← hi]; exact d7
      | 8, hi => rw [← hi]; exact d8
      | i + 9, hi => simp at hi
  have HH := Aside0.mk h
  have HOTH := Aside0.mk hoth
  have HBW := Aside0.mk hbw
  clear h hoth hbw
  generalize hany : ps.any (·.u) = r at *
  have HA := Aside0.mk hany
  clear hany
  generalize hpl : ps.length = m at *
  go_enter_defers Try.func15, Try.ntmps15
  go_wp2_with (first | (go_at_call 25; refine (lock_free Try.muLib ⟨a.bw, 2, none⟩ _ e2 f2).mono ?_; rintro e w' ⟨rfl, rfl⟩; rw [hw1]) | (go_at_fn 28; refine hcall.mono ?_; rintro e w' ⟨rfl, hb⟩))
  have hw'b : w'.heap[a.bw]? = some (.cells ((a.cells ns.length m).setIfInBounds 2 (.int .i32 1)) 47 (0, 0)) := (hb.block _ (by rw [hsz]; exact hlt)).trans HBW.out
  refine leaves_cons (f := 26) (args := #[.pointer (some ⟨a.bw, 2, none⟩)]) (by simp) (by simp [go_sem]) ?_
  refine (unlock_deferred Try.muLib ⟨a.bw, 2, none⟩ .returning _ ?_ ?_).mono ?_
  · simp [World.cell?, hw'b, Wa.cells]
  · simp [World.frozen?, hw'b]
  rintro e u' w'' ⟨rfl, rfl, rfl⟩
  refine ⟨_, results_tmp rfl _ _ _, rfl, ?_⟩
  refine ⟨hb.os.trans hos.1, hb.tape.trans hos.2.1, hb.output.trans hos.2.2, by have := hb.size; simp [World.setCell]; omega, fun k hk => ?_⟩
  by_cases e : k = a.bw
  · subst e
    have h1 := HH.out.hw
    rw [h1, hpl]
    simp [World.setCell, Array.getElem?_modify, hw'b, Wa.cells]
  · rw [Below.heap_setCell w' ⟨a.bw, 2, none⟩ _ k e, hb.block k (by omega)]
    exact HOTH.out k e
end Go.Proofs.Ytnhceomdjlocaaa.Clock
