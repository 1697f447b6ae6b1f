/- How a log ends. -/
import Derived.Test.YtpjachbmllklgaaSnd
namespace Go.Proofs.Ytpjachbmllklgaa.Rng
open Go.RowKit Go.Shelf Go.Proofs.YtpjachbmllklgaaW.PrintWords
set_option linter.unusedVariables false
set_option linter.unusedSimpArgs false

theorem down_c (s : Sv) (w : World) : Calls Try.prog 39 #[.agg s.cells] w fun e w' => e = .returned (.func (.func 64) #[] #[.pointer (some ⟨w.heap.size, 0, none⟩)]) ∧ w' = w.alloc (.cells s.cells 30) := by
  obtain ⟨t, v, si, st, Va, Vn, Vc, La, Ln, Lc, d, A, n, cap, Ga, Gn, Gc⟩ := s
  unfold Sv.cells
  go_enter Try.func39, Try.ntmps39
  go_wp2
  go_ret
  exact ⟨rfl, rfl⟩
/-- The first of the numbers and terms, the last one first. -/
def lastV (s : Sv) (css : List (List Value)) : Int × Int := match css.length with
  | 0 => (s.si, s.st)
  | m + 1 => itOf css[m]!
theorem dn_last (s : Sv) (css : List (List Value)) : ∃ rest, dn css (s.si, s.st) css.length = lastV s css :: rest := by
  unfold lastV dn
  cases css.length with
  | zero => exact ⟨[], rfl⟩
  | succ m => exact ⟨_, rfl⟩
attribute [local go_sem] Oper.semAt_some
/-- Two boxes, side by side, are stored to. -/
theorem two_sets {n0 : Nat} {w Y : World} (hb : Below n0 w Y) (p : Nat) (hp : n0 ≤ p) (u1 u2 y1 y2 : Value) (h1 : Y.heap[p]? = some (.cells #[u1] 3 (0, 0))) (h2 : Y.heap[p + 1]? = some (.cells #[u2] 3 (0, 0))) :
    Below n0 w ((Y.setCell ⟨p, 0, none⟩ y1).setCell ⟨p + 1, 0, none⟩ y2) ∧ ((Y.setCell ⟨p, 0, none⟩ y1).setCell ⟨p + 1, 0, none⟩ y2).heap.size = Y.heap.size ∧
    ((Y.setCell ⟨p, 0, none⟩ y1).setCell ⟨p + 1, 0, none⟩ y2).heap[p]? = some (.cells #[y1] 3 (0, 0)) ∧ ((Y.setCell ⟨p, 0, none⟩ y1).setCell ⟨p + 1, 0, none⟩ y2).heap[p + 1]? = some (.cells #[y2] 3 (0, 0)) ∧
    ∀ k, k ≠ p → k ≠ p + 1 → ((Y.setCell ⟨p, 0, none⟩ y1).setCell ⟨p + 1, 0, none⟩ y2).heap[k]? = Y.heap[k]? := by
  refine ⟨(hb.setCell (p := ⟨p, 0, none⟩) hp _).setCell (p := ⟨p + 1, 0, none⟩) (by show n0 ≤ p + 1; omega) _, by simp [World.setCell], ?_, ?_, fun k k1 k2 => by rw [Below.heap_setCell _ _ _ _ (show k ≠ p + 1 by omega), Below.heap_setCell _ _ _ _ k1]⟩
  · rw [Below.heap_setCell _ _ _ _ (show p ≠ p + 1 by omega)]
    simp [World.setCell, Array.getElem?_modify, h1]
  · have k1 : (Y.setCell ⟨p, 0, none⟩ y1).heap[p + 1]? = some (.cells #[u2] 3 (0, 0)) := (Below.heap_setCell _ _ _ _ (show p + 1 ≠ p by omega)).trans h2
    show ((Y.setCell ⟨p, 0, none⟩ y1).heap.modify (p + 1) _)[p + 1]? = _
    rw [Array.getElem?_modify, if_pos rfl, k1]
    rfl
theorem results_2c {fn : Func} {p q : Tmp} (h : fn.results = #[.cell p 3, .cell q 3]) (tmps : Array Value) (w : World) (g k : Nat) (t1 t2 : TypeId) (x y : Int)
    (hp : tmps.getD p undef = .pointer (some ⟨g, 0, none⟩)) (hq : tmps.getD q undef = .pointer (some ⟨k, 0, none⟩))
    (hg : w.heap[g]? = some (.cells #[.int .i64 x] t1 (0, 0))) (hk : w.heap[k]? = some (.cells #[.int .i64 y] t2 (0, 0))) :
    (results fn tmps).run Try.prog w = .ok (.tuple #[.int .i64 x, .int .i64 y]) w := by
  have hp' : tmps[p]?.getD undef = .pointer (some ⟨g, 0, none⟩) := by simpa using hp
  have hq' : tmps[q]?.getD undef = .pointer (some ⟨k, 0, none⟩) := by simpa using hq
  have c1 : w.cell? ⟨g, 0, none⟩ = some (.int .i64 x) := by simp [World.cell?, hg]
  have c2 : w.cell? ⟨k, 0, none⟩ = some (.int .i64 y) := by simp [World.cell?, hk]
  simp [results, h, hp', hq', asAddr, go_sem, c1, c2]

set_option maxHeartbeats 8000000 in
set_option maxRecDepth 100000 in
theorem last_c (s : Sv) (b off : Nat) (css : List (List Value)) (w : World) (h : Lg w s b off css) :
    Calls Try.prog 11 #[.agg s.cells] w fun e w' => e = .returned (.tuple #[.int .i64 (lastV (s.sound css) (soundE s css)).1, .int .i64 (lastV (s.sound css) (soundE s css)).2]) ∧ Below w.heap.size w w' := by
  generalize hx : lastV (s.sound css) (soundE s css) = x
  have X := Aside0.mk hx
  clear hx
  obtain ⟨x1, x2⟩ := x
  dsimp only
  refine (callsIn_wide (n := 9)).1 ?_
  refine callsIn_of_wp_marks Try.func11 rfl trivial ?_ rfl
  simp only [Try.ntmps11, List.size_toArray, List.length_cons, List.length_nil, Nat.reduceAdd, Nat.reduceSub, Array.replicate_succ, Array.replicate_zero, List.push_toArray, List.append_toArray, List.nil_append, List.cons_append]
  have hcl : s.cells = #[.int .i64 s.t, .int .i64 s.v, .int .i64 s.si, .int .i64 s.st, .slice s.Va s.Vn s.Vc, .slice s.La s.Ln s.Lc, .string s.d, .slice s.A s.n s.cap, .slice s.Ga s.Gn s.Gc] := rfl
  rw [hcl]
  clear hcl
  gi_wp2
  obtain ⟨W0, hW0⟩ : ∃ W0, (((w.alloc (.cells #[.int .i64 s.t, .int .i64 s.v, .int .i64 s.si, .int .i64 s.st, .slice s.Va s.Vn s.Vc, .slice s.La s.Ln s.Lc, .string s.d, .slice s.A s.n s.cap, .slice s.Ga s.Gn s.Gc] 30)).alloc (.cells #[.int .i64 0] 3)).alloc (.cells #[.int .i64 0] 3)) = W0 := ⟨_, rfl⟩
  have hb0 : Below w.heap.size w W0 := by rw [← hW0]; exact (((Below.refl _ w).alloc (Nat.le_refl _) _).alloc (by simp) _).alloc (by simp; omega) _
  have hs0 : W0.heap.size = w.heap.size + 3 := by rw [← hW0]; simp
  have hbi : W0.heap[w.heap.size + 1]? = some (.cells #[.int .i64 0] 3 (0, 0)) := by
    rw [← hW0, heap_alloc_old _ _ _ (by simp)]
    have := heap_alloc_new (w.alloc (.cells #[.int .i64 s.t, .int .i64 s.v, .int .i64 s.si, .int .i64 s.st, .slice s.Va s.Vn s.Vc, .slice s.La s.Ln s.Lc, .string s.d, .slice s.A s.n s.cap, .slice s.Ga s.Gn s.Gc] 30)) (.cells #[.int .i64 0] 3)
    rwa [World.size_alloc] at this
  have hbt : W0.heap[w.heap.size + 2]? = some (.cells #[.int .i64 0] 3 (0, 0)) := by
    rw [← hW0]
    have := heap_alloc_new ((w.alloc (.cells #[.int .i64 s.t, .int .i64 s.v, .int .i64 s.si, .int .i64 s.st, .slice s.Va s.Vn s.Vc, .slice s.La s.Ln s.Lc, .string s.d, .slice s.A s.n s.cap, .slice s.Ga s.Gn s.Gc] 30)).alloc (.cells #[.int .i64 0] 3)) (.cells #[.int .i64 0] 3)
    rwa [World.size_alloc, World.size_alloc] at this
  rw [hW0]
  clear hW0
  have hL0 := h.below hb0
  refine ⟨trivial, CallsIn.mono (callsIn_wide.2 (sound_c s b off css W0 hL0)) ?_⟩
  rintro e w2 ⟨rfl, hb2⟩
  have hL2 := (hL0.below hb2).sound
  have hemp : soundE s css ≠ [] → b < w.heap.size := fun g => by
    rcases h.b with k | k
    · exact k
    · exfalso; apply g; unfold soundE; rw [k]; split <;> rfl
  clear hL0 h
  generalize s.sound css = s2 at *
  generalize soundE s css = css2 at *
  have hsz2 : w.heap.size + 3 ≤ w2.heap.size := by have := hb2.size; omega
  have hbi2 := (hb2.block (w.heap.size + 1) (by omega)).trans hbi
  have hbt2 := (hb2.block (w.heap.size + 2) (by omega)).trans hbt
  have hbw2 : Below w.heap.size w w2 := hb0.trans (hb2.mono hb0.size)
  clear hb0 hb2 hbi hbt hs0
  gi_wp2
  refine ⟨trivial, CallsIn.mono (callsIn_wide.2 (down_c s2 w2)) ?_⟩
  rintro e w' ⟨rfl, rfl⟩
  have hcs : s2.cells = #[.int .i64 s2.t, .int .i64 s2.v, .int .i64 s2.si, .int .i64 s2.st, .slice s2.Va s2.Vn s2.Vc, .slice s2.La s2.Ln s2.Lc, .string s2.d, .slice s2.A s2.n s2.cap, .slice s2.Ga s2.Gn s2.Gc] := rfl
  obtain ⟨W3, hW3⟩ : ∃ W3, w2.alloc (.cells s2.cells 30) = W3 := ⟨_, rfl⟩
  have hb3 : Below w2.heap.size w2 W3 := by rw [← hW3]; exact (Below.refl _ w2).alloc (Nat.le_refl _) _
  have hs3 : W3.heap.size = w2.heap.size + 1 := by rw [← hW3]; simp
  have hbox3 : W3.heap[w2.heap.size]? = some (.cells s2.cells 30 (0, 0)) := by rw [← hW3]; exact heap_alloc_new w2 _
  rw [hW3]
  clear hW3
  rw [hcs] at hbox3
  have hL3 := hL2.below hb3
  have hbi3 := (hb3.block (w.heap.size + 1) (by omega)).trans hbi2
  have hbt3 := (hb3.block (w.heap.size + 2) (by omega)).trans hbt2
  have hbw3 : Below w.heap.size w W3 := hbw2.trans (hb3.mono hbw2.size)
  obtain ⟨b2, hb2lt, hbni, hbnt, hA2, hrow2⟩ : ∃ b2, b2 < W3.heap.size ∧ b2 ≠ w.heap.size + 1 ∧ b2 ≠ w.heap.size + 2 ∧ (0 < css2.length → s2.A = some ⟨b2, off, none⟩) ∧ Row W3 b2 off css2 := by
    by_cases g : css2 = []
    · exact ⟨w2.heap.size, by omega, by omega, by omega, fun k => by rw [g] at k; simp at k, fun j hj => by rw [g] at hj; simp at hj⟩
    · have := hemp g
      exact ⟨b, by omega, by omega, by omega, hL3.A, hL3.row⟩
  clear hL2 hemp hb3 hbi2 hbt2 hbw2 hcs
  have hE3 := hL3.e
  have hlen3 := hL3.len
  have hn3 := hL3.n
  clear hL3
  gi_wp2
  refine wpIn_rangeFunc_st (gf := 64) (lb := #[.pointer (some ⟨w2.heap.size, 0, none⟩)]) (encs := fun x : Int × Int => #[.int .i64 x.1, .int .i64 x.2]) rfl (enters_of Try.func64 (by kernel_rfl) rfl)
    (down_steps 8 (by omega) w2.heap.size b2 off s2.cap s2.A css2 s2.si s2.st hA2 hE3 hlen3) (fun _ => rfl)
    ⟨⟨by simp [World.cell?, hbox3, hn3], by simp [World.cell?, hbox3], by simp [World.cell?, hbox3]⟩, hrow2⟩
    (fun Y Z hY hu => ⟨⟨by have := hu w2.heap.size (.inl rfl); simpa [World.cell?, this] using hY.1.1, by have := hu w2.heap.size (.inl rfl); simpa [World.cell?, this] using hY.1.2.1, by have := hu w2.heap.size (.inl rfl); simpa [World.cell?, this] using hY.1.2.2⟩, hY.2.same (hu b2 (.inr rfl))⟩)
    (fun k hk => by rcases hk with rfl | rfl <;> omega)
    (fun (pre : List (Int × Int)) (Y : World) => pre = [] ∧ Y.heap[w.heap.size + 1]? = some (.cells #[.int .i64 0] 3 (0, 0)) ∧ Y.heap[w.heap.size + 2]? = some (.cells #[.int .i64 0] 3 (0, 0)) ∧ Below w.heap.size w Y)
    (fun (c : Code) (pre : List (Int × Int)) (Y : World) => c = .exit 0 ∧ ∃ y : Int × Int, pre = [y] ∧ Y.heap[w.heap.size + 1]? = some (.cells #[.int .i64 y.1] 3 (0, 0)) ∧ Y.heap[w.heap.size + 2]? = some (.cells #[.int .i64 y.2] 3 (0, 0)) ∧ Below w.heap.size w Y)
    (fun pre Y Z hY hb => ⟨hY.1, (hb.block _ (by omega)).trans hY.2.1, (hb.block _ (by omega)).trans hY.2.2.1, hY.2.2.2.trans (hb.mono (by omega))⟩)
    (fun c pre Y Z hY hb => by
      obtain ⟨e, y, e2, k1, k2, k3⟩ := hY
      exact ⟨e, y, e2, (hb.block _ (by omega)).trans k1, (hb.block _ (by omega)).trans k2, k3.trans (hb.mono (by omega))⟩)
    ⟨rfl, hbi3, hbt3, hbw3⟩ ?round ?done ?stop
  case round =>
    rintro pre y rest Y hxs ⟨rfl, hYi, hYt, hYb⟩ hHold hltY
    obtain ⟨y1, y2⟩ := y
    dsimp only
    have c1 : Y.cell? ⟨w.heap.size + 1, 0, none⟩ = some (.int .i64 0) := by simp [World.cell?, hYi]
    have c2 : Y.cell? ⟨w.heap.size + 1 + 1, 0, none⟩ = some (.int .i64 0) := by simp [World.cell?, hYt]
    have f1 : Y.frozen? ⟨w.heap.size + 1, 0, none⟩ = false := by simp [World.frozen?, hYi]
    have f2 : Y.frozen? ⟨w.heap.size + 1 + 1, 0, none⟩ = false := by simp [World.frozen?, hYt]
    clear hHold
    gi_wp2
    obtain ⟨hZb, hZs, hZi, hZt, hZo⟩ := two_sets hYb (w.heap.size + 1) (by omega) _ _ (.int .i64 y1) (.int .i64 y2) hYi hYt
    generalize ((Y.setCell ⟨w.heap.size + 1, 0, none⟩ (.int .i64 y1)).setCell ⟨w.heap.size + 1 + 1, 0, none⟩ (.int .i64 y2)) = Z at *
    refine ⟨⟨by omega, fun k h1 h2 => hZo k (by omega) (by omega), fun k hk => by rcases hk with rfl | rfl <;> exact hZo _ (by omega) (by omega)⟩, fun V hbV hsV hoV => ?_⟩
    gi_wp2
    exact ⟨Kp.refl _ _ _, rfl, (y1, y2), rfl, (hbV.block _ (by omega)).trans hZi, (hbV.block _ (by omega)).trans hZt, hZb.trans (hbV.mono (by omega))⟩
  case done =>
    rintro Y ⟨e, _⟩ _ _ _
    exfalso
    simp [dn] at e
  case stop =>
    rintro c pre y rest Y hxs ⟨rfl, y', hy', hYi, hYt, hYb⟩ hltY hD
    obtain ⟨rest', hd⟩ := dn_last s2 css2
    rw [X.out] at hd
    have hyx : y' = (x1, x2) := by
      cases pre with
      | nil =>
        simp only [List.nil_append, List.cons.injEq, and_true] at hy'
        rw [hd] at hxs
        simp only [List.nil_append, List.cons.injEq] at hxs
        rw [← hy', ← hxs.1]
      | cons p pre => simp at hy'
    subst hyx
    dsimp only at hYi hYt
    have c1 : Y.cell? ⟨w.heap.size + 1, 0, none⟩ = some (.int .i64 x1) := by simp [World.cell?, hYi]
    have c2 : Y.cell? ⟨w.heap.size + 1 + 1, 0, none⟩ = some (.int .i64 x2) := by simp [World.cell?, hYt]
    have f1 : Y.frozen? ⟨w.heap.size + 1, 0, none⟩ = false := by simp [World.frozen?, hYi]
    have f2 : Y.frozen? ⟨w.heap.size + 1 + 1, 0, none⟩ = false := by simp [World.frozen?, hYt]
    clear hd hy' hxs
    gi_wp2
    gi_region
    obtain ⟨hZb, hZs, hZi, hZt, hZo⟩ := two_sets hYb (w.heap.size + 1) (by omega) _ _ (.int .i64 x1) (.int .i64 x2) hYi hYt
    have hDZ := (hZo W3.heap.size (by omega) (by omega)).trans hD
    generalize ((Y.setCell ⟨w.heap.size + 1, 0, none⟩ (.int .i64 x1)).setCell ⟨w.heap.size + 1 + 1, 0, none⟩ (.int .i64 x2)) = Z at *
    have hD' : Z.drew.heap[W3.heap.size]? = some (.deferred (some [])) := hDZ
    rename_i K hK
    refine hK _ _ ?_
    gi_wp2
    refine ⟨by simp, .inl ⟨_, _, rfl, run_takeDeferred hD', ?_⟩⟩
    refine ⟨_, results_2c rfl _ _ (w.heap.size + 1) (w.heap.size + 1 + 1) 3 3 x1 x2 rfl rfl ((World.putObj_heap_other (by omega)).trans hZi) ((World.putObj_heap_other (by omega)).trans hZt), rfl, ?_⟩
    exact hZb.drew.trans (below_putObj (by omega) _ hD')
end Go.Proofs.Ytpjachbmllklgaa.Rng
