/- A watch of nodes that was told ticks: New, Tell, Alike and Ticks, each by one contract. -/
import Derived.Test.YtnhceomdjlocaaaPure2
namespace Go.Proofs.Ytnhceomdjlocaaa.Clock
open Go.RowKit Go.Lib Go.Proofs.Ytnhceomdjlocaaa.PAll Go.Proofs.YtnhceomdjlocaaaW.PrintWords Go.Proofs.YtnhceomdjlocaaaW.PrintLast Go.Proofs.YtnhceomdjlocaaaW.PrintMore
set_option linter.unusedVariables false
set_option linter.unusedSimpArgs false

/-- A watch of ns that was told so. -/
def Wt (w : World) (a : Wa) (ns told : List Int) : Prop := IsW w a ns (tsOf ns told) (psOf ns told)
/-- It lies above. -/
def Wa.above (a : Wa) (n0 : Nat) : Prop := n0 ≤ a.bw ∧ n0 ≤ a.bn ∧ n0 ≤ a.bt ∧ n0 ≤ a.bp
theorem pairsTo_few (ns : List Int) (h : ns.length ≤ 7) : ∀ i, (pairsTo ns i).length ≤ i * 7
  | 0 => by simp [pairsTo]
  | i + 1 => by
    have := pairsTo_few ns h i
    simp only [pairsTo, List.length_append, List.length_map, List.length_take]
    omega
theorem psOf_few (ns told : List Int) (h : ns.length ≤ 7) : (psOf ns told).length ≤ 49 := by
  rw [psOf_length]
  have := pairsTo_few ns h ns.length
  have h2 : ns.length * 7 ≤ 7 * 7 := Nat.mul_le_mul_right _ h
  omega
theorem flat_get : ∀ (ps : List PairS) (j i : Nat), j < ps.length → i < 9 → (ps.flatMap cellsP)[j * 9 + i]? = (cellsP ps[j]!)[i]?
  | p :: ps, 0, i, _, hi => by
    rw [List.flatMap_cons, List.getElem?_append_left (by rw [cellsP_length]; omega)]
    simp
  | p :: ps, j + 1, i, hj, hi => by
    rw [List.flatMap_cons, List.getElem?_append_right (by rw [cellsP_length]; omega), cellsP_length, show (j + 1) * 9 + i - 9 = j * 9 + i by omega, flat_get ps j i (by simpa using hj) hi]
    simp
theorem nine_of {c : Array Value} {off : Nat} {p : PairS} (h : ∀ i, i < 9 → c[off + i]? = (cellsP p)[i]?) : Nine c off p :=
  ⟨by simpa [cellsP] using h 0 (by omega), by simpa [cellsP] using h 1 (by omega), by simpa [cellsP] using h 2 (by omega), by simpa [cellsP] using h 3 (by omega), by simpa [cellsP] using h 4 (by omega), by simpa [cellsP] using h 5 (by omega), by simpa [cellsP] using h 6 (by omega), by simpa [cellsP] using h 7 (by omega), by simpa [cellsP] using h 8 (by omega)⟩
theorem psOf_nil (ns : List Int) : psOf ns [] = pairsTo ns ns.length := by simp [psOf]
theorem tsOf_nil (ns : List Int) (j : Nat) (h : j < ns.length) : (tsOf ns [])[j]! = 0 := by rw [tsOf_get ns [] j h]; rfl
/-- What New has made is a watch. -/
theorem Nl.watch {w W : World} {bw bn bt cn : Nat} {ns : List Int} {v : Value} (h : Nl w W bw bn bt cn ns.length ns v (pairsTo ns ns.length)) : ∃ a : Wa, a.bw = bw ∧ a.above w.heap.size ∧ Wt W a ns [] := by
  have ht : ∃ c, W.heap[bt]? = some (.cells c 54 (0, 0)) ∧ ∀ j, j < ns.length → c[j]? = some (.int .i64 (tsOf ns [])[j]!) := ⟨_, h.ht, fun j hj => by rw [tsOf_nil ns j hj]; exact madeCells_get _ _ hj⟩
  rcases h.own with ⟨hx, ⟨rfl, h0⟩ | ⟨g, cap, cur, rfl, hb, hg, hc, hm, hsz, htake⟩⟩
  · refine ⟨⟨bw, bn, bt, w.heap.size, cn, 0, none⟩, rfl, ⟨h.bw_ge, h.bn_ge, h.bt_ge, Nat.le_refl _⟩, ⟨?_, h.hn, ht, by simp [tsOf], fun k => ?_⟩⟩
    · rw [psOf_nil, h0]; exact h.hw
    · rw [psOf_nil] at k; omega
  · refine ⟨⟨bw, bn, bt, g, cn, cap, some ⟨g, 0, none⟩⟩, rfl, ⟨h.bw_ge, h.bn_ge, h.bt_ge, hb⟩, ⟨?_, h.hn, ht, by simp [tsOf], fun k => ⟨rfl, cur, hg, fun j hj => ?_⟩⟩⟩
    · rw [psOf_nil]; exact h.hw
    · rw [psOf_nil] at hj ⊢
      refine nine_of (fun i hi => ?_)
      have h1 := flat_get (pairsTo ns ns.length) j i hj hi
      rw [← h1, ← htake, List.getElem?_take_of_lt (by omega), Array.getElem?_toList]

/-- New: a watch that was told nothing. -/
theorem new_c (A0 : Option Addr) (c0 : Nat) (ns : List Int) (w : World) (hr0 : Kd.C (Kd.int .i64) w A0 ns.length ns) (hc0 : ns.length ≤ c0) (h : nodesB ns = true) :
    Calls Try.prog 11 #[.slice A0 ns.length c0] w fun e w' => ∃ a : Wa, e = .returned (.tuple #[.pointer (some ⟨a.bw, 0, none⟩), .int .i64 0]) ∧ Below w.heap.size w w' ∧ a.above w.heap.size ∧ Wt w' a ns [] := by
  obtain ⟨hg, hl0⟩ := nodesB_iff.1 h
  have hl := goN_length ns 0 hg (by omega)
  obtain ⟨k, hk⟩ := (nodes_code ns (by omega)).rounds
  refine (new_ok k A0 c0 ns w hr0 hc0 (hk.trans (by rw [h])) hl0 (by omega)).mono ?_
  rintro e w' ⟨a, rfl, hb, v, hN⟩
  obtain ⟨a2, e2, h2, h3⟩ := hN.watch
  exact ⟨a2, by rw [e2], hb, h2, h3⟩
/-- New: no nodes. -/
theorem new_bad (A0 : Option Addr) (c0 : Nat) (ns : List Int) (w : World) (hr0 : Kd.C (Kd.int .i64) w A0 ns.length ns) (hc0 : ns.length ≤ c0) (hl : ns.length ≤ 1000000) (h : nodesB ns = false) :
    Calls Try.prog 11 #[.slice A0 ns.length c0] w fun e w' => e = .returned (.tuple #[.pointer none, .int .i64 1]) ∧ Below w.heap.size w w' := by
  obtain ⟨k, hk⟩ := (nodes_code ns hl).rounds
  have hk : clock_nodes.f k ns = some false := hk.trans (by rw [h])
  have e19 : ∀ args w, (callFunc 19 args).run Try.prog w = .ok (.enter 19 args) w := enters_of Try.func19 (by kernel_rfl) rfl
  have hcn := clock_nodes.calls k A0 c0 ns false w hr0 hc0 hk
  go_enter Try.func11, Try.ntmps11
  go_wp2_with fail
  refine hcn.mono ?_
  rintro e w1 ⟨rfl, q, rfl⟩
  go_wp2
  go_ret2
  exact ⟨rfl, pw_below_drewN (Below.refl _ w) q⟩
theorem inN_true {ns : List Int} {x : Int} (h : inN ns x = true) : ∃ j, j < ns.length ∧ isN x ns[j]! = true ∧ ∀ i, i < j → isN x ns[i]! = false := by
  rcases first_or (isN x) ns with h1 | h1
  · exact h1
  · exfalso
    obtain ⟨n, hn, hx⟩ := List.any_eq_true.1 h
    obtain ⟨j, hj, rfl⟩ := List.mem_iff_getElem.1 hn
    have := h1 j hj
    rw [getElem!_pos ns j hj, hx] at this
    cases this
theorem inN_no {ns : List Int} {x : Int} (h : inN ns x = false) : ∀ i, i < ns.length → isN x ns[i]! = false := fun i hi => by
  rw [getElem!_pos ns i hi]
  simp only [inN, List.any_eq_false] at h
  simpa using h _ (List.getElem_mem hi)
/-- What a watch was told, with one more. -/
def more (ns told : List Int) (x : Int) : List Int := if inN ns x then told ++ [x] else told
theorem tell_c (a : Wa) (ns told : List Int) (w : World) (x : Int) (hn : nodesB ns = true) (h : Wt w a ns told) (ht : told.length ≤ 100000) :
    Calls Try.prog 13 #[.pointer (some ⟨a.bw, 0, none⟩), .int .i64 x] w fun e w' => e = .returned (.int .i64 (if inN ns x then 0 else 1)) ∧ Wt w' a ns (more ns told x) ∧ (∀ n0, n0 ≤ w.heap.size → a.above n0 → Below n0 w w') ∧ ∀ (k : Nat) (c : Array Value) (t : TypeId), w.heap[k]? = some (Obj.cells c t (0, 0)) → t ≠ 54 → t ≠ 49 → w'.heap[k]? = w.heap[k]? := by
  obtain ⟨hg, hl0⟩ := nodesB_iff.1 hn
  have hl := goN_length ns 0 hg (by omega)
  have hN : ∀ j, j < ns.length → 1 ≤ ns[j]! ∧ ns[j]! ≤ 7 := fun j hj => by have := goN_get ns 0 hg j hj; omega
  unfold more
  cases hx : inN ns x with
  | false =>
    refine (tell_no a ns _ _ w x h (by omega) hN (inN_no hx)).mono ?_
    rintro e w' ⟨rfl, hb⟩
    exact ⟨rfl, h.below hb, fun n0 h0 _ => hb.mono h0, fun k c t hk _ _ => hb.block k (heap_lt hk)⟩
  | true =>
    obtain ⟨j, hj, h1, h2⟩ := inN_true hx
    have hps := psOf_few ns told (by omega)
    refine (tell_yes a ns _ _ w x j h (by omega) (by omega) hN ?_ (psOf_small ns told hg (by omega)) hj h1 h2).mono ?_
    · rw [tsOf_get ns told j hj]
      have := ticksS_bound ns[j]! told 0 (by omega)
      omega
    rintro e w' ⟨rfl, hw, hb, hfr⟩
    rw [tsOf_snoc ns told x hg j hj h1, ← psOf_snoc] at hw
    exact ⟨rfl, hw, fun n0 h0 h3 => hb n0 h0 h3.1 h3.2.2.1 h3.2.2.2, hfr⟩
/-- Whether a watch's clocks go alike. -/
theorem alike_c (a : Wa) (ns told : List Int) (w : World) (hn : nodesB ns = true) (h : Wt w a ns told) :
    Calls Try.prog 15 #[.pointer (some ⟨a.bw, 0, none⟩)] w fun e w' => e = .returned (.bool (allTwo ns told ns.length)) ∧ Wt w' a ns told ∧ Below w.heap.size w w' := by
  obtain ⟨hg, hl0⟩ := nodesB_iff.1 hn
  have hl := goN_length ns 0 hg (by omega)
  have hps := psOf_few ns told (by omega)
  refine (alike_any a ns _ _ w h (by omega)).mono ?_
  rintro e w' ⟨rfl, hb⟩
  exact ⟨by rw [psOf_alike ns told hg], h.below hb, hb⟩
/-- The ticks that a watch tells. -/
def tickOf (ns told : List Int) (x : Int) : Int := if ns.any (fun n => decide (n = x)) then ticksS x 0 told else 0
theorem ticks_q (a : Wa) (ns told : List Int) (w : World) (x : Int) (hn : nodesB ns = true) (h : Wt w a ns told) :
    Calls Try.prog 16 #[.pointer (some ⟨a.bw, 0, none⟩), .int .i64 x] w fun e w' => e = .returned (.int .i64 (tickOf ns told x)) ∧ ∃ q, w' = w.drewN q := by
  obtain ⟨hg, hl0⟩ := nodesB_iff.1 hn
  have hl := goN_length ns 0 hg (by omega)
  unfold tickOf
  cases hx : ns.any (fun n => decide (n = x)) with
  | false =>
    refine (ticks_miss a ns _ _ w x h (by omega) (fun i hi e => ?_)).mono ?_
    · rw [List.any_eq_false] at hx
      have := hx _ (List.getElem_mem hi)
      rw [getElem!_pos ns i hi] at e
      exact this (by simp [e])
    rintro e w' ⟨rfl, q, rfl⟩
    exact ⟨rfl, q, rfl⟩
  | true =>
    rcases first_or (fun n => decide (n = x)) ns with ⟨j, hj, h1, h2⟩ | h1
    · have h1 : ns[j]! = x := by simpa using h1
      refine (ticks_hit a ns _ _ w x j h (by omega) hj h1.symm (fun i hi e => ?_)).mono ?_
      · have := h2 i hi
        rw [← e] at this
        simp at this
      rintro e w' ⟨rfl, q, rfl⟩
      exact ⟨by rw [tsOf_get ns told j hj, h1]; rfl, q, rfl⟩
    · exfalso
      obtain ⟨n, hm, h3⟩ := List.any_eq_true.1 hx
      obtain ⟨j, hj, rfl⟩ := List.mem_iff_getElem.1 hm
      have := h1 j hj
      rw [getElem!_pos ns j hj, h3] at this
      cases this
theorem ticks_c (a : Wa) (ns told : List Int) (w : World) (x : Int) (hn : nodesB ns = true) (h : Wt w a ns told) :
    Calls Try.prog 16 #[.pointer (some ⟨a.bw, 0, none⟩), .int .i64 x] w fun e w' => e = .returned (.int .i64 (tickOf ns told x)) ∧ Wt w' a ns told ∧ Below w.heap.size w w' := by
  refine (ticks_q a ns told w x hn h).mono ?_
  rintro e w' ⟨rfl, q, rfl⟩
  have hb := pw_below_drewN (Below.refl w.heap.size w) q
  exact ⟨rfl, IsW.below h hb, hb⟩
end Go.Proofs.Ytnhceomdjlocaaa.Clock
