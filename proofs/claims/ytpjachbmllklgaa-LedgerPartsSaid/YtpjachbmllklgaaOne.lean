/- The document's L. -/
import Derived.Test.YtpjachbmllklgaaBig
namespace Go.Proofs.Ytpjachbmllklgaa.Rng
open Go.RowKit Go.Proofs.YtpjachbmllklgaaW.PrintWords
set_option linter.unusedVariables false
set_option linter.unusedSimpArgs false
attribute [local go_sem] Oper.semAt_some

theorem flat_get : ∀ (css : List (List Value)) (h : ∀ c ∈ css, c.length = 43) (j i : Nat), j < css.length → i < 43 → css.flatten[j * 43 + i]? = css[j]![i]?
  | [], _, j, i, hj, _ => absurd hj (Nat.not_lt_zero _)
  | c :: css, h, 0, i, _, hi => by
    have hc := h c (by simp)
    rw [List.flatten_cons, List.getElem?_append_left (by omega)]
    simp
  | c :: css, h, j + 1, i, hj, hi => by
    have hc := h c (by simp)
    rw [List.flatten_cons, List.getElem?_append_right (by omega), show (j + 1) * 43 + i - c.length = j * 43 + i by omega, flat_get css (fun c hc => h c (by simp [hc])) j i (by simpa using hj) hi]
    simp
theorem row_flat {W : World} {b : Nat} {css : List (List Value)} {t : TypeId} {fr : Nat × Nat} (hb : W.heap[b]? = some (.cells css.flatten.toArray t fr)) (h : ∀ c ∈ css, c.length = 43) : Row W b 0 css := by
  intro j hj i v hi
  have hl : css[j]!.length = 43 := h _ (by rw [getElem!_pos css j hj]; exact List.getElem_mem hj)
  have hi2 : i < 43 := by have := (List.getElem?_eq_some_iff.1 hi).1; omega
  have := flat_get css h j i hj hi2
  simp only [World.cell?, hb, Nat.zero_add, List.getElem?_toArray]
  rw [this]
  exact hi
/-- An entry that bears a number and a term alone. -/
def ent (i t : Int) : List Value := [.int .i64 i, .int .i64 t, .int .i64 0, .int .i64 0, .int .i64 0, .int .i64 0, .string ⟨#[]⟩, .string ⟨#[]⟩, .int .i64 0] ++ List.replicate 32 (.int .u8 0) ++ [.slice none 0 0, .slice none 0 0]
theorem ent_isE (i t : Int) : IsE (ent i t) := ⟨rfl, fun u hu => by
  simp only [ent, List.mem_append, List.mem_cons, List.mem_replicate, List.not_mem_nil, or_false] at hu
  rcases hu with ((rfl | rfl | rfl | rfl | rfl | rfl | rfl | rfl | rfl) | ⟨_, rfl⟩) | (rfl | rfl) <;> rfl, rfl, rfl⟩
theorem ent_isC (i t : Int) : IsC (ent i t) := ⟨⟨none, 0, 0, rfl⟩, none, 0, 0, rfl⟩
theorem ent_it (i t : Int) : itOf (ent i t) = (i, t) := rfl
def oneE : List (List Value) := [ent 3 1, ent 4 2, ent 5 2]
def oneSv (b : Nat) : Sv := ⟨0, 0, 2, 1, none, 0, 0, none, 0, 0, ⟨#[]⟩, some ⟨b, 0, none⟩, 3, 3, none, 0, 0⟩
theorem oneE_all (P : List Value → Prop) (h : ∀ i t, P (ent i t)) : ∀ j, j < oneE.length → P oneE[j]! := by
  intro j hj
  have : j < 3 := hj
  have : j = 0 ∨ j = 1 ∨ j = 2 := by omega
  rcases this with rfl | rfl | rfl
  · exact h 3 1
  · exact h 4 2
  · exact h 5 2
theorem one_lg {W : World} {b : Nat} {t : TypeId} {fr : Nat × Nat} (hb : W.heap[b]? = some (.cells oneE.flatten.toArray t fr)) : Lg W (oneSv b) b 0 oneE := by
  refine ⟨rfl, fun _ => rfl, row_flat hb ?_, oneE_all _ ent_isE, ?_, by decide, .inl (Array.getElem?_eq_some_iff.1 hb).1⟩
  · intro c hc
    simp only [oneE, List.mem_cons, List.not_mem_nil, or_false] at hc
    rcases hc with rfl | rfl | rfl <;> rfl
  · intro j hj
    have : j < 3 := hj
    have : j = 0 ∨ j = 1 ∨ j = 2 := by omega
    rcases this with rfl | rfl | rfl <;> decide

set_option maxHeartbeats 2000000 in
set_option maxRecDepth 100000 in
theorem one_c (w : World) :
    Calls Try.prog 42 #[] w fun e w' => ∃ b, e = .returned (.agg (oneSv b).cells) ∧ Below w.heap.size w w' ∧ Lg w' (oneSv b) b 0 oneE := by
  have hi30 : ∀ cells : Array Value, cells.size = 9 → (Try.prog.info? 30).map (·.size) = some cells.size := fun c hc => by rw [hc]; exact size30
  go_enter Try.func42, Try.ntmps42
  go_wp2
  refine bodyPost_ret (results_cell_row rfl _ _ w.heap.size 30 _ (0, 0) _ rfl ((heap_alloc_old _ _ _ (by simp)).trans (heap_alloc_new w _)) Try.underlying30 rfl (hi30 _ rfl)) rfl ?_
  refine ⟨w.heap.size + 1, rfl, ((Below.refl _ w).alloc (Nat.le_refl _) _).alloc (by simp) _, ?_⟩
  have := heap_alloc_new (w.alloc (.cells #[.int .i64 0, .int .i64 0, .int .i64 2, .int .i64 1, .slice none 0 0, .slice none 0 0, .string ⟨#[]⟩, .slice (some ⟨w.heap.size + 1, 0, none⟩) 3 3, .slice none 0 0] 30)) (.cells oneE.flatten.toArray 59)
  rw [World.size_alloc] at this
  exact one_lg this
end Go.Proofs.Ytpjachbmllklgaa.Rng
