/- The term of a number: ledger.Term. -/
import Derived.Test.YtpjachbmllklgaaLast
namespace Go.Proofs.Ytpjachbmllklgaa.Rng
open Go.RowKit Go.Proofs.YtpjachbmllklgaaW.PrintWords
set_option linter.unusedVariables false
set_option linter.unusedSimpArgs false
attribute [local go_sem] Oper.semAt_some

/-- The term of a number in a log that goes on. -/
def termV (si st : Int) (l : List (Int × Int)) (index : Int) : Int × Bool :=
  if index = si then (st, true) else if si < index ∧ index ≤ si + l.length then ((l[(index - si - 1).toNat]!).2, true) else (0, false)
theorem sound_si (s : Sv) (css : List (List Value)) : 0 ≤ (s.sound css).si ∧ (s.sound css).si ≤ 900000000 ∧ (soundE s css).length ≤ 9000 ∧ goesB (s.sound css).si (its (soundE s css)) = true := by
  unfold Sv.sound soundE
  cases h : checkB s.si (its css) with
  | true =>
    simp only [checkB, Bool.and_eq_true, decide_eq_true_eq, its_length] at h
    exact ⟨h.1.1.1, h.1.1.2, h.1.2, h.2⟩
  | false => simp [Sv.none, its, goesB]
theorem cells_eq (s : Sv) : s.cells = #[.int .i64 s.t, .int .i64 s.v, .int .i64 s.si, .int .i64 s.st, .slice s.Va s.Vn s.Vc, .slice s.La s.Ln s.Lc, .string s.d, .slice s.A s.n s.cap, .slice s.Ga s.Gn s.Gc] := rfl

theorem size_setRow (w : World) (g : Nat) (cs : Array Value) : (w.setRow g cs).heap.size = w.heap.size := by simp [World.setRow]
/-- A box is stored to as a whole: the world behind it by what is known of it. -/
theorem wpList_store_box {P : Program} {ops : Array Oper} {rest : List Oper} {o : Oper} {a : Act} {W : World} {Q : Exit → Act → World → Prop} (hgd : o.guard = none) (ty : TypeId) (x y : Operand) (ho : o.op = .store ty x y)
    (g : Nat) (cells old : Array Value) (t : TypeId) (hx : a.eval x = .pointer (some ⟨g, 0, none⟩)) (hy : a.eval y = .agg cells) (hg : W.heap[g]? = some (.cells old t (0, 0)))
    (hi : (P.info? ty).map (·.size) = some cells.size) (hold : old.size = cells.size) (h1 : cells.all (·.oneCell') = true)
    (h : ∀ W3 : World, W3.heap[g]? = some (.cells cells t (0, 0)) → (∀ k, k ≠ g → W3.heap[k]? = W.heap[k]?) → Below g W W3 → W3.heap.size = W.heap.size → wpList P ops Q rest (a.put o.dst undef) W3) : wpList P ops Q (o :: rest) a W :=
  wpList_store_row hgd ty x y ho g cells hx hy t old hg hi hold h1
    (h _ (setRow_heap W g old cells t (0, 0) hg) (fun k hk => setRow_other W g k cells hk) (below_setRow (Below.refl g W) g (Nat.le_refl _) cells) (size_setRow W g cells))

set_option maxHeartbeats 8000000 in
set_option maxRecDepth 100000 in
theorem term_c (s : Sv) (b off : Nat) (css : List (List Value)) (w : World) (h : Lg w s b off css) (index : Int) (hr : -9223372036854775808 ≤ index ∧ index ≤ 9223372036854775807) :
    Calls Try.prog 13 #[.agg s.cells, .int .i64 index] w fun e w' => e = .returned (.tuple #[.int .i64 (termV (s.sound css).si (s.sound css).st (its (soundE s css)) index).1, .bool (termV (s.sound css).si (s.sound css).st (its (soundE s css)) index).2]) ∧ Below w.heap.size w w' := by
  generalize hx : termV (s.sound css).si (s.sound css).st (its (soundE s css)) index = x
  have X := Aside0.mk hx
  clear hx
  obtain ⟨x1, x2⟩ := x
  dsimp only
  have H := Aside0.mk h
  clear h
  have hi30 : ∀ cells : Array Value, cells.size = 9 → (Try.prog.info? 30).map (·.size) = some cells.size := fun c hc => by rw [hc]; exact size30
  rw [cells_eq]
  go_enter Try.func13, Try.ntmps13
  go_wp2_with fail
  rw [← cells_eq]
  have hb0 : Below w.heap.size w (w.alloc (.cells s.cells 30)) := (Below.refl _ w).alloc (Nat.le_refl _) _
  have hs0 : (w.alloc (.cells s.cells 30)).heap.size = w.heap.size + 1 := by simp
  have hbox := heap_alloc_new w (.cells s.cells 30)
  generalize w.alloc (.cells s.cells 30) = W0 at hb0 hs0 hbox ⊢
  have hL0 := H.out.below hb0
  refine (sound_c s b off css W0 hL0).mono ?_
  rintro e w2 ⟨rfl, hb2⟩
  have hL2 := (hL0.below hb2).sound
  obtain ⟨hsi0, hsi1, hlen2, hgo⟩ := sound_si s css
  have hemp : soundE s css ≠ [] → b < w.heap.size := fun g => by
    rcases H.out.b with k | k
    · exact k
    · exfalso; apply g; unfold soundE; rw [k]; split <;> rfl
  clear hL0 H
  have hbox2 := (hb2.block w.heap.size (by omega)).trans hbox
  have hsz2 : w.heap.size < w2.heap.size := by have := hb2.size; omega
  have hbw2 : Below w.heap.size w w2 := hb0.trans (hb2.mono hb0.size)
  generalize s.sound css = s2 at *
  generalize soundE s css = css2 at *
  clear hb2 hb0 hbox hs0
  have hrow2 := hL2.row
  have hE2 := hL2.e
  have hA2 := hL2.A
  have hn2 := hL2.n
  clear hL2
  rw [cells_eq s2]
  go_wp2_with (refine wpList_store_box rfl 30 (.tmp 2) (.tmp 8) rfl w.heap.size _ _ 30 rfl rfl hbox2 (hi30 _ rfl) rfl (by simp [Value.oneCell']) ?_)
  intro W3 hg3 ho3 hb3 hs3
  have c2 : W3.cell? ⟨w.heap.size, 2, none⟩ = some (.int .i64 s2.si) := by simp [World.cell?, hg3]
  have c3 : W3.cell? ⟨w.heap.size, 3, none⟩ = some (.int .i64 s2.st) := by simp [World.cell?, hg3]
  have c7 : W3.cell? ⟨w.heap.size, 7, none⟩ = some (.slice s2.A css2.length s2.cap) := by simp [World.cell?, hg3, hn2]
  have hbw3 : Below w.heap.size w W3 := hbw2.trans hb3
  have HE := Aside0.mk hE2
  have HG := Aside0.mk hgo
  have HR : Aside0 (css2 ≠ [] → Row W3 b off css2) := ⟨fun g => hrow2.same (ho3 b (by have := hemp g; omega))⟩
  have HA := Aside0.mk hA2
  clear hE2 hgo hrow2 ho3 hg3 hb3 hemp hA2 hbox2 hi30 hbw2
  by_cases g0 : index = s2.si
  · subst g0
    have hw : wrap64 (s2.si - s2.si) = 0 := by unfold wrap64; omega
    have hX := X.out
    unfold termV at hX
    rw [if_pos rfl] at hX
    have X2 := Aside0.mk hX
    clear hX
    go_wp2
    refine bodyPost_ret (results_tmp2 rfl _ _ _) rfl ?_
    have hX := X2.out
    simp only [Prod.mk.injEq] at hX
    refine ⟨?_, hbw3⟩
    rw [← hX.1, ← hX.2]
    rfl
  by_cases g1 : s2.si < index ∧ index ≤ s2.si + css2.length
  · obtain ⟨j, hj⟩ : ∃ j : Nat, index = s2.si + 1 + j := ⟨(index - s2.si - 1).toNat, by omega⟩
    have hX := X.out
    unfold termV at hX
    rw [if_neg g0, if_pos (by rw [its_length]; exact g1), show (index - s2.si - 1).toNat = j by omega, its_get css2 j (by omega)] at hX
    simp only [Prod.mk.injEq] at hX
    have hlt : (j : Int) < (css2.length : Int) := by omega
    have hne : css2 ≠ [] := fun e => by rw [e] at hlt; simp at hlt; omega
    have hrow := HR.out hne j (by omega)
    have hEj := HE.out j (by omega)
    obtain hA := HA.out (by omega)
    rw [hA] at c7
    have cj : W3.cell? ⟨b, off + j * 43 + 1, none⟩ = some (.int .i64 (itOf css2[j]!).2) := hrow 1 _ hEj.i1
    rw [hX.1, show off + j * 43 + 1 = off + ((index - s2.si).toNat - 1) * 43 + 1 by rw [show (index - s2.si).toNat - 1 = j by omega]] at cj
    have n1 : ¬ (index - s2.si = 0) := by omega
    have n2 : ¬ (index - s2.si < 0) := by omega
    have n3 : ¬ (index - s2.si > (css2.length : Int)) := by omega
    have n4 : ¬ (index < 0) := by omega
    have X2 := Aside0.mk hX.2
    clear hX hrow hEj hA HG hlt hne hj
    go_wp2
    refine bodyPost_ret (results_tmp2 rfl _ _ _) rfl ?_
    refine ⟨?_, hbw3⟩
    rw [← X2.out]
    rfl
  have hX := X.out
  unfold termV at hX
  rw [if_neg g0, if_neg (by rw [its_length]; exact g1)] at hX
  have X2 := Aside0.mk hX
  clear hX
  have fin : Ending.returned (Value.tuple #[.int .i64 0, .bool false]) = Ending.returned (Value.tuple #[.int .i64 x1, .bool x2]) := by
    have hX := X2.out
    simp only [Prod.mk.injEq] at hX
    rw [← hX.1, ← hX.2]
  have n1 : ¬ (wrap64 (index - s2.si) = 0) := by unfold wrap64; omega
  by_cases g2 : wrap64 (index - s2.si) < 0
  · go_wp2
    refine bodyPost_ret (results_tmp2 rfl _ _ _) rfl ?_
    exact ⟨fin, hbw3⟩
  · have g3 : wrap64 (index - s2.si) > (css2.length : Int) := by unfold wrap64 at *; omega
    go_wp2
    refine bodyPost_ret (results_tmp2 rfl _ _ _) rfl ?_
    exact ⟨fin, hbw3⟩
end Go.Proofs.Ytpjachbmllklgaa.Rng
