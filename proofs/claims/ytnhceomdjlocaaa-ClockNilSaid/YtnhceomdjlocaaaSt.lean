/- ClockWatches, walked. -/
import Derived.Test.YtnhceomdjlocaaaWatched
namespace Go.Proofs.Ytnhceomdjlocaaa.Clock
open Go.RowKit Go.Lib Go.Proofs.Ytnhceomdjlocaaa.PAll Go.Proofs.YtnhceomdjlocaaaW.PrintWords Go.Proofs.YtnhceomdjlocaaaW.PrintLast Go.Proofs.YtnhceomdjlocaaaW.PrintMore
set_option linter.unusedVariables false
set_option linter.unusedSimpArgs false

/-- The world in the midst of ClockWatches. -/
structure St (w wr : World) (a : Wa) (ns toldW toldR : List Int) (g7 c7 : Nat) (v8 : Value) : Prop where
  bel : Below w.heap.size w wr
  wt : Wt wr a ns toldW
  own : wr.ownsRow w.heap.size 3 1 (.slice (some ⟨g7, 0, none⟩) ns.length c7) ns.length (nums .i64 ns)
  tld : wr.ownsRow w.heap.size 3 1 v8 toldR.length (nums .i64 toldR)
  ne1 : some a.bn ≠ v8.ownBlock
  ne2 : some g7 ≠ v8.ownBlock
section
variable {w wr w' : World} {a : Wa} {ns toldW toldR : List Int} {g7 c7 : Nat} {v8 : Value}
theorem St.below (h : St w wr a ns toldW toldR g7 c7 v8) (hb : Below wr.heap.size wr w') : St w w' a ns toldW toldR g7 c7 v8 :=
  ⟨h.bel.trans (hb.mono h.bel.size), h.wt.below hb, pw_own_below h.own hb, pw_own_below h.tld hb, h.ne1, h.ne2⟩
theorem own_typed_move {e : TypeId} {base n : Nat} {v : Value} {xs : List Value} (h : wr.ownsRow base e 1 v n xs) (h1 : e ≠ 54) (h2 : e ≠ 49) (hf : ∀ (k : Nat) (c : Array Value) (t : TypeId), wr.heap[k]? = some (Obj.cells c t (0, 0)) → t ≠ 54 → t ≠ 49 → w'.heap[k]? = wr.heap[k]?) : w'.ownsRow base e 1 v n xs := by
  refine own_move h (fun k hk => ?_)
  obtain ⟨cells, hc⟩ := own_typed h k hk
  exact hf k cells e hc h1 h2
theorem St.tell {t2 : List Int} (h : St w wr a ns toldW toldR g7 c7 v8) (ha : a.above w.heap.size) (hw : Wt w' a ns t2) (hb : ∀ n0, n0 ≤ wr.heap.size → a.above n0 → Below n0 wr w') (hf : ∀ (k : Nat) (c : Array Value) (t : TypeId), wr.heap[k]? = some (Obj.cells c t (0, 0)) → t ≠ 54 → t ≠ 49 → w'.heap[k]? = wr.heap[k]?) : St w w' a ns t2 toldR g7 c7 v8 :=
  ⟨h.bel.trans (hb _ h.bel.size ha), hw, own_typed_move h.own (by decide) (by decide) hf, own_typed_move h.tld (by decide) (by decide) hf, h.ne1, h.ne2⟩
/-- A watch lives on where a row of numbers is written that is not its own. -/
theorem Wt.grown {row : Option Nat} (h : Wt wr a ns toldW) (hg : wr.grownBy w' row) (hr : ∀ k, row = some k → ∃ c, wr.heap[k]? = some (.cells c 3 (0, 0))) (hn : some a.bn ≠ row) : Wt w' a ns toldW := by
  obtain ⟨c1, h1, k1⟩ := IsW.hn h
  obtain ⟨c2, h2, k2⟩ := IsW.ht h
  have key : ∀ (k : Nat) (c : Array Value) (t : TypeId), wr.heap[k]? = some (.cells c t (0, 0)) → t ≠ 3 → some k ≠ row := fun k c t hk ht e => by
    obtain ⟨c3, h3⟩ := hr k e.symm
    rw [hk] at h3
    simp at h3
    exact ht h3.2
  refine ⟨(hg.block _ (heap_lt (IsW.hw h)) (key _ _ _ (IsW.hw h) (by decide))).trans (IsW.hw h), ⟨c1, (hg.block _ (heap_lt h1) hn).trans h1, k1⟩, ⟨c2, (hg.block _ (heap_lt h2) (key _ _ _ h2 (by decide))).trans h2, k2⟩, IsW.tl h, fun g => ?_⟩
  obtain ⟨e, c3, h3, k3⟩ := IsW.hp h g
  exact ⟨e, c3, (hg.block _ (heap_lt h3) (key _ _ _ h3 (by decide))).trans h3, k3⟩
theorem St.push {v1 : Value} {x : Int} (h : St w wr a ns toldW toldR g7 c7 v8) (hb : Below w.heap.size w w') (hg : wr.grownBy w' v8.ownBlock) (ho : w'.ownsRow w.heap.size 3 1 v1 (toldR ++ [x]).length (nums .i64 (toldR ++ [x])))
    (hat : v1.ownBlock = v8.ownBlock ∨ ∃ b, v1.ownBlock = some b ∧ wr.heap.size ≤ b) : St w w' a ns toldW (toldR ++ [x]) g7 c7 v1 := by
  have hbn : a.bn < wr.heap.size := by obtain ⟨c, k, _⟩ := IsW.hn h.wt; exact heap_lt k
  have hg7 : g7 < wr.heap.size := own_lt h.own g7 rfl
  refine ⟨hb, h.wt.grown hg (fun k hk => own_typed h.tld k hk) h.ne1, own_other h.own hg (.inr h.ne2), ho, ?_, ?_⟩
  · rcases hat with e | ⟨b, e, hb⟩
    · rw [e]; exact h.ne1
    · rw [e]; simp; omega
  · rcases hat with e | ⟨b, e, hb⟩
    · rw [e]; exact h.ne2
    · rw [e]; simp; omega
end
theorem own_form8 {W : World} {base : Nat} {v : Value} {xs : List Int} (h : W.ownsRow base 3 1 v xs.length (nums .i64 xs)) : ∃ A c, v = .slice A xs.length c ∧ xs.length ≤ c ∧ Kd.C (Kd.int .i64) W A xs.length xs := by
  obtain ⟨A, c, rfl, hr⟩ := own_reads h
  refine ⟨A, c, rfl, ?_, Kd.C_of_reads (d := (0 : Int)) (h1 := fun _ => rfl) hr⟩
  rcases h.2 with ⟨e, h0⟩ | ⟨g, cap, cur, e, _, _, hc, _⟩
  · omega
  · injection e with _ _ e3
    omega
/-- A node's tick or its stop, as the law asks it. -/
theorem inN_in (ns : List Int) (x : Int) (hn : goN 0 ns = true) (hx : -9223372036854775808 ≤ x ∧ x ≤ 9223372036854775807) : inN ns x = (ns.any (fun z => decide (z = x)) || (decide (x < 0) && ns.any (fun z => decide (z = wrap64 (-x))))) := by
  have hb : ∀ z ∈ ns, 1 ≤ z ∧ z ≤ 7 := fun z hz => by
    obtain ⟨j, hj, rfl⟩ := List.mem_iff_getElem.1 hz
    have := goN_get ns 0 hn j hj
    rw [getElem!_pos ns j hj] at this
    omega
  have hw : x ≠ -9223372036854775808 → wrap64 (-x) = -x := fun h => wrap_id (by omega) (by omega)
  have hw2 : x = -9223372036854775808 → wrap64 (-x) = x := fun h => by unfold wrap64; omega
  rw [Bool.eq_iff_iff]
  simp only [inN, isN, List.any_eq_true, Bool.or_eq_true, Bool.and_eq_true, beq_iff_eq, decide_eq_true_eq]
  constructor
  · rintro ⟨z, hz, h | h⟩
    · exact .inl ⟨z, hz, h⟩
    · have := hb z hz
      exact .inr ⟨by omega, z, hz, by rw [hw (by omega)]; omega⟩
  · rintro (⟨z, hz, h⟩ | ⟨h1, z, hz, h⟩)
    · exact ⟨z, hz, .inl h⟩
    · have := hb z hz
      refine ⟨z, hz, .inr ?_⟩
      by_cases g : x = -9223372036854775808
      · rw [hw2 g] at h; omega
      · rw [hw g] at h; omega
theorem tickOf_own (ns told : List Int) (j : Nat) (hj : j < ns.length) : tickOf ns told ns[j]! = ticksS ns[j]! 0 told := by
  unfold tickOf
  rw [if_pos]
  rw [List.any_eq_true]
  exact ⟨ns[j], List.getElem_mem hj, by rw [getElem!_pos ns j hj]; simp⟩
theorem tickOf_none (ns told : List Int) (hn : goN 0 ns = true) (x : Int) (hx : x = 0 ∨ x = 8) : tickOf ns told x = 0 := by
  unfold tickOf
  rw [if_neg]
  rw [List.any_eq_true]
  rintro ⟨z, hz, e⟩
  obtain ⟨j, hj, rfl⟩ := List.mem_iff_getElem.1 hz
  have := goN_get ns 0 hn j hj
  rw [getElem!_pos ns j hj] at this
  have e := of_decide_eq_true e
  omega
end Go.Proofs.Ytnhceomdjlocaaa.Clock
