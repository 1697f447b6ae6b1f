/- Loads and stores of wide values, in a walk and in a fenced one. -/
import Derived.Deep.MidRow
import Derived.OwnWalkIn
namespace Go.Proofs.Ytpjachbmllklgaa.Rng
set_option linter.unusedVariables false
variable {F : Fence} {n : Nat} {P : Program}
theorem wpListIn_load_mid {ops : Array Oper} {rest : List Oper} {o : Oper} {a : Act} {w : World} {Q : Exit → Act → World → Prop} (hgd : o.guard = none) (ty : TypeId) (x : Operand) (ho : o.op = .load ty x)
    (b off : Nat) (hx : a.eval x = .pointer (some ⟨b, off, none⟩)) (cs : List Value) (d : TypeDesc) (hc : w.rangeAt b off cs)
    (hu : P.underlying ty = some d) (hd : d.isRow = true) (hi : (P.info? ty).map (·.size) = some cs.length)
    (h : wpListIn F n P ops Q rest (a.put o.dst (.agg cs.toArray)) w) : wpListIn F n P ops Q (o :: rest) a w := by
  refine wpListIn_plain hgd fun K hK' => ?_
  have hr := run_loadAt_mid (P := P) w b off ty cs d hc hu hd hi
  unfold Oper.wpIn
  refine ⟨?_, ?_⟩
  · simp [Oper.about, ho, Sem.run_pure]
  · rw [Oper.semAt_plain F _ _ (by rw [ho]; intro c hc'; cases hc')]
    simp only [execOp, ho, hx]
    simp only [Sem.run_bind, hr, Result.andThen_ok, Sem.run_pure]
    exact hK' _ _ h
theorem setRow_alloc (w : World) (old cs : Array Value) (t : TypeId) : (w.alloc (.cells old t (0, 0))).setRow w.heap.size cs = w.alloc (.cells cs t (0, 0)) := by
  unfold World.setRow
  show ({ w with heap := (w.heap.push (.cells old t (0, 0))).modify w.heap.size _ } : World) = { w with heap := w.heap.push (.cells cs t (0, 0)) }
  congr 1
  apply Array.ext_getElem?
  intro i
  rw [Array.getElem?_modify, Array.getElem?_push, Array.getElem?_push]
  by_cases h : i = w.heap.size
  · simp [h]
  · rw [if_neg h, if_neg h, if_neg (Ne.symm h)]
theorem wpList_store_new {ops : Array Oper} {rest : List Oper} {o : Oper} {a : Act} {W : World} {Q : Exit → Act → World → Prop} (hgd : o.guard = none) (ty : TypeId) (x y : Operand) (ho : o.op = .store ty x y)
    (cells old : Array Value) (t : TypeId) (hx : a.eval x = .pointer (some ⟨W.heap.size, 0, none⟩)) (hy : a.eval y = .agg cells)
    (hi : (P.info? ty).map (·.size) = some cells.size) (hold : old.size = cells.size) (h1 : cells.all (·.oneCell') = true)
    (h : wpList P ops Q rest (a.put o.dst undef) (W.alloc (.cells cells t (0, 0)))) : wpList P ops Q (o :: rest) a (W.alloc (.cells old t (0, 0))) :=
  wpList_store_row hgd ty x y ho W.heap.size cells hx hy t old (heap_alloc_new W _) hi hold h1 (by rw [setRow_alloc]; exact h)
theorem wpListIn_store_new {ops : Array Oper} {rest : List Oper} {o : Oper} {a : Act} {W : World} {Q : Exit → Act → World → Prop} (hgd : o.guard = none) (ty : TypeId) (x y : Operand) (ho : o.op = .store ty x y)
    (cells old : Array Value) (t : TypeId) (hx : a.eval x = .pointer (some ⟨W.heap.size, 0, none⟩)) (hy : a.eval y = .agg cells)
    (hi : (P.info? ty).map (·.size) = some cells.size) (hold : old.size = cells.size) (h1 : cells.all (·.oneCell') = true)
    (h : wpListIn F n P ops Q rest (a.put o.dst undef) (W.alloc (.cells cells t (0, 0)))) : wpListIn F n P ops Q (o :: rest) a (W.alloc (.cells old t (0, 0))) := by
  refine wpListIn_plain hgd fun K hK' => ?_
  have hr := run_storeVar_row (P := P) (W.alloc (.cells old t (0, 0))) W.heap.size t ty old cells (heap_alloc_new W _) hi hold h1
  rw [setRow_alloc] at hr
  unfold Oper.wpIn
  refine ⟨?_, ?_⟩
  · simp [Oper.about, ho, Sem.run_pure]
  · rw [Oper.semAt_plain F _ _ (by rw [ho]; intro c hc'; cases hc')]
    simp only [execOp, ho, hx, hy, Instr.storeAt, Instr.sureAddr]
    simp only [Sem.run_bind, Sem.run_pure, hr, Result.andThen_ok]
    exact hK' _ _ h
end Go.Proofs.Ytpjachbmllklgaa.Rng
