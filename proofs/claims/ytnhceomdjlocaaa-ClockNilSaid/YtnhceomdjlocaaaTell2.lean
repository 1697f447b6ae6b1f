/- (*clock.pair).tell, in one statement. -/
import Derived.Test.YtnhceomdjlocaaaTell
namespace Go.Proofs.Ytnhceomdjlocaaa.Clock
open Go.RowKit Go.Proofs.YtnhceomdjlocaaaW.PrintWords Go.Proofs.YtnhceomdjlocaaaW.PrintLast Go.Proofs.YtnhceomdjlocaaaW.PrintMore
set_option linter.unusedVariables false
set_option linter.unusedSimpArgs false

/-- Only the cells of block b turn: to c. -/
structure Chg (w w' : World) (b : Nat) (c : Array Value) (t : TypeId) : Prop where
  os : w'.os = w.os
  tape : w'.tape = w.tape
  output : w'.output = w.output
  size : w'.heap.size = w.heap.size
  other : ∀ k, k ≠ b → w'.heap[k]? = w.heap[k]?
  cells : w'.heap[b]? = some (.cells c t (0, 0))

theorem Chg.refl {w : World} {b : Nat} {c : Array Value} {t : TypeId} (h : w.heap[b]? = some (.cells c t (0, 0))) : Chg w w b c t := ⟨rfl, rfl, rfl, rfl, fun _ _ => rfl, h⟩
theorem Chg.set {w w' : World} {b : Nat} {c : Array Value} {t : TypeId} (h : Chg w w' b c t) (k : Nat) (v : Value) : Chg w (w'.setCell ⟨b, k, none⟩ v) b (c.setIfInBounds k v) t :=
  ⟨h.os, h.tape, h.output, by simp [World.setCell, h.size], fun i hi => by rw [Below.heap_setCell w' ⟨b, k, none⟩ v i hi]; exact h.other i hi,
   by simp [World.setCell, Array.getElem?_modify, h.cells]⟩
theorem Chg.drewN {w w' : World} {b : Nat} {c : Array Value} {t : TypeId} (h : Chg w w' b c t) (m : Nat) : Chg w (w'.drewN m) b c t := ⟨h.os, h.tape, h.output, h.size, h.other, h.cells⟩
theorem Chg.trans {w w' w'' : World} {b : Nat} {c c' : Array Value} {t : TypeId} (h : Chg w w' b c t) (k : Chg w' w'' b c' t) : Chg w w'' b c' t :=
  ⟨k.os.trans h.os, k.tape.trans h.tape, k.output.trans h.output, k.size.trans h.size, fun i hi => (k.other i hi).trans (h.other i hi), k.cells⟩

/-- The nine cells from off on. -/
def Nine (c : Array Value) (off : Nat) (p : PairS) : Prop :=
  c[off]? = some (.int .i64 p.x) ∧ c[off + 1]? = some (.int .i64 p.y) ∧ c[off + 2]? = some (.bool p.xd) ∧ c[off + 3]? = some (.bool p.yd) ∧ c[off + 4]? = some (.int .i64 p.a) ∧ c[off + 5]? = some (.int .i64 p.b) ∧ c[off + 6]? = some (.int .i64 p.l) ∧ c[off + 7]? = some (.int .i64 p.o) ∧ c[off + 8]? = some (.bool p.u)

/-- What a tick does to a pair. -/
theorem tell_any (b off : Nat) (p : PairS) (n : Int) (w : World) (c : Array Value) (hs : Small p)
    (hb : w.heap[b]? = some (.cells c 49 (0, 0))) (h9 : Nine c off p) :
    Calls Try.prog 27 #[.pointer (some ⟨b, off, none⟩), .int .i64 n] w fun e w' => e = .returned (.tuple #[]) ∧ ∃ c', Chg w w' b c' 49 ∧ c'.size = c.size ∧ Nine c' off (tellP p n) ∧ ∀ i, (i < off ∨ off + 9 ≤ i) → c'[i]? = c[i]? := by
  obtain ⟨d0, d1, d2, d3, d4, d5, d6, d7, d8⟩ := h9
  have cl : ∀ k, w.cell? ⟨b, k, none⟩ = c[k]? := fun k => by simp [World.cell?, hb]
  have f0 : ∀ j, w.frozen? ⟨b, j, none⟩ = false := fun j => by simp [World.frozen?, hb]
  have c0 := (cl off).trans d0; have c1 := (cl _).trans d1; have c2 := (cl _).trans d2; have c3 := (cl _).trans d3; have c4 := (cl _).trans d4
  have c5 := (cl _).trans d5; have c6 := (cl _).trans d6; have c7 := (cl _).trans d7; have c8 := (cl _).trans d8
  have s8 : off + 8 < c.size := (Array.getElem?_eq_some_iff.1 d8).1
  have s2 : off + 2 < c.size := by omega
  have s3 : off + 3 < c.size := by omega
  have s4 : off + 4 < c.size := by omega
  have s5 : off + 5 < c.size := by omega
  have s6 : off + 6 < c.size := by omega
  have s7 : off + 7 < c.size := by omega
  have g2 := Option.some.inj ((Array.getElem?_eq_getElem s2).symm.trans d2)
  have g3 := Option.some.inj ((Array.getElem?_eq_getElem s3).symm.trans d3)
  have g4 := Option.some.inj ((Array.getElem?_eq_getElem s4).symm.trans d4)
  have g5 := Option.some.inj ((Array.getElem?_eq_getElem s5).symm.trans d5)
  have g6 := Option.some.inj ((Array.getElem?_eq_getElem s6).symm.trans d6)
  have g7 := Option.some.inj ((Array.getElem?_eq_getElem s7).symm.trans d7)
  have g8 := Option.some.inj ((Array.getElem?_eq_getElem s8).symm.trans d8)
  by_cases hx : n = -p.x
  · subst hx
    refine (tell_x b off p w hs c0 c1 c2 c3 c4 c5 c6 c7 c8 f0).mono ?_
    rintro e w' ⟨rfl, rfl⟩
    refine ⟨rfl, _, ((((Chg.refl hb).set _ _).set _ _).set _ _).set _ _ |>.set _ _, by simp, ?_, ?_⟩
    · simp only [tellP, if_true, Nine, Array.getElem?_setIfInBounds, Array.size_setIfInBounds]
      refine ⟨?_, ?_, ?_, ?_, ?_, ?_, ?_, ?_, ?_⟩ <;> simp [d0, d1, d2, d3, d4, d5, d6, d7, d8, s2, s3, s4, s5, s6, s7, s8, g2, g3, g4, g5, g6, g7, g8]
    · intro i hi
      simp only [Array.getElem?_setIfInBounds, Array.size_setIfInBounds]
      repeat (first | rw [if_neg (by omega)] | rfl)
  by_cases hy : n = -p.y
  · subst hy
    refine (tell_y b off p w hs hx c0 c1 c2 c3 c4 c5 c6 c7 c8 f0).mono ?_
    rintro e w' ⟨rfl, rfl⟩
    refine ⟨rfl, _, ((((Chg.refl hb).set _ _).set _ _).set _ _).set _ _ |>.set _ _, by simp, ?_, ?_⟩
    · simp only [tellP, if_true, if_neg hx, Nine, Array.getElem?_setIfInBounds, Array.size_setIfInBounds]
      refine ⟨?_, ?_, ?_, ?_, ?_, ?_, ?_, ?_, ?_⟩ <;> simp [d0, d1, d2, d3, d4, d5, d6, d7, d8, s2, s3, s4, s5, s6, s7, s8, g2, g3, g4, g5, g6, g7, g8]
    · intro i hi
      simp only [Array.getElem?_setIfInBounds, Array.size_setIfInBounds]
      repeat (first | rw [if_neg (by omega)] | rfl)
  by_cases hd : p.xd = true ∨ (p.xd = false ∧ p.yd = true)
  · refine (tell_down b off p n w hs hx hy hd c0 c1 c2 c3 c4 c5 c6 c7 c8 f0).mono ?_
    rintro e w' ⟨rfl, rfl⟩
    refine ⟨rfl, c, Chg.refl hb, rfl, ?_, fun _ _ => rfl⟩
    have : tellP p n = p := by
      have h2 : (p.xd || p.yd) = true := by rcases hd with h | ⟨_, h⟩ <;> simp [h]
      simp only [tellP, if_neg hx, if_neg hy, h2, if_true]
    rw [this]; exact ⟨d0, d1, d2, d3, d4, d5, d6, d7, d8⟩
  have hd1 : p.xd = false := by
    cases h : p.xd
    · rfl
    · exact absurd (Or.inl h) hd
  have hd2 : p.yd = false := by
    cases h : p.yd
    · rfl
    · exact absurd (Or.inr ⟨hd1, h⟩) hd
  by_cases hn : n = p.x
  · skip
    refine (tell_up_x b off p n w hs hx hy hd1 hd2 hn _ rfl c0 c1 c2 c3 c4 c5 c6 c7 c8 f0).mono ?_
    rintro e w' ⟨rfl, m, rfl⟩
    refine ⟨rfl, _, (((((Chg.refl hb).set _ _).set _ _).set _ _).set _ _).drewN m, by simp, ?_, ?_⟩
    · simp only [tellP, if_neg hx, if_neg hy, hd1, hd2, if_pos hn, Bool.or_false, Bool.false_eq_true, if_false, if_true, Nine, Array.getElem?_setIfInBounds, Array.size_setIfInBounds]
      refine ⟨?_, ?_, ?_, ?_, ?_, ?_, ?_, ?_, ?_⟩ <;> simp [d0, d1, d2, d3, d4, d5, d6, d7, d8, s2, s3, s4, s5, s6, s7, s8, g2, g3, g4, g5, g6, g7, g8, hd1, hd2]
    · intro i hi
      simp only [Array.getElem?_setIfInBounds, Array.size_setIfInBounds]
      repeat (first | rw [if_neg (by omega)] | rfl)
  by_cases hn2 : n = p.y
  · skip
    refine (tell_up_y b off p n w hs hx hy hd1 hd2 hn hn2 _ rfl c0 c1 c2 c3 c4 c5 c6 c7 c8 f0).mono ?_
    rintro e w' ⟨rfl, m, rfl⟩
    refine ⟨rfl, _, (((((Chg.refl hb).set _ _).set _ _).set _ _).set _ _).drewN m, by simp, ?_, ?_⟩
    · simp only [tellP, if_neg hx, if_neg hy, hd1, hd2, if_neg hn, if_pos hn2, Bool.or_false, Bool.false_eq_true, if_false, if_true, Nine, Array.getElem?_setIfInBounds, Array.size_setIfInBounds]
      refine ⟨?_, ?_, ?_, ?_, ?_, ?_, ?_, ?_, ?_⟩ <;> simp [d0, d1, d2, d3, d4, d5, d6, d7, d8, s2, s3, s4, s5, s6, s7, s8, g2, g3, g4, g5, g6, g7, g8, hd1, hd2]
    · intro i hi
      simp only [Array.getElem?_setIfInBounds, Array.size_setIfInBounds]
      repeat (first | rw [if_neg (by omega)] | rfl)
  · skip
    refine (tell_up_n b off p n w hs hx hy hd1 hd2 hn hn2 _ rfl c0 c1 c2 c3 c4 c5 c6 c7 c8 f0).mono ?_
    rintro e w' ⟨rfl, m, rfl⟩
    refine ⟨rfl, _, ((((Chg.refl hb).set _ _).set _ _).set _ _).drewN m, by simp, ?_, ?_⟩
    · simp only [tellP, if_neg hx, if_neg hy, hd1, hd2, if_neg hn, if_neg hn2, Bool.or_false, Bool.false_eq_true, if_false, if_true, Nine, Array.getElem?_setIfInBounds, Array.size_setIfInBounds]
      refine ⟨?_, ?_, ?_, ?_, ?_, ?_, ?_, ?_, ?_⟩ <;> simp [d0, d1, d2, d3, d4, d5, d6, d7, d8, s2, s3, s4, s5, s6, s7, s8, g2, g3, g4, g5, g6, g7, g8, hd1, hd2]
    · intro i hi
      simp only [Array.getElem?_setIfInBounds, Array.size_setIfInBounds]
      repeat (first | rw [if_neg (by omega)] | rfl)
end Go.Proofs.Ytnhceomdjlocaaa.Clock
