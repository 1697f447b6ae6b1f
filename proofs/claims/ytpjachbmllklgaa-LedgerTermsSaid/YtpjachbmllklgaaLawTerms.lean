/- LedgerTerms, walked. -/
import Derived.Test.YtpjachbmllklgaaAsks
namespace Go.Proofs.Ytpjachbmllklgaa.Rng
open Go.RowKit Go.Proofs.YtpjachbmllklgaaW.PrintWords
set_option linter.unusedVariables false
set_option linter.unusedSimpArgs false
attribute [local go_sem] Oper.semAt_some

set_option maxHeartbeats 2000000 in
set_option maxRecDepth 100000 in
theorem terms_law (s : Sv) (b off : Nat) (css : List (List Value)) (w : World) (h : (s.n : Int) ≤ 1000 → Lg w s b off css ∧ ∀ j, j < css.length → IsC css[j]!) (index : Int) (hr : -9223372036854775808 ≤ index ∧ index ≤ 9223372036854775807) :
    Calls Try.prog 3 #[.agg s.cells, .int .i64 index] w fun e w' => e = .returned (.bool true) ∧ Below w.heap.size w w' := by
  have e9 : ∀ args w, (callFunc 9 args).run Try.prog w = .ok (.enter 9 args) w := enters_of Try.func9 (by kernel_rfl) rfl
  have e10 : ∀ args w, (callFunc 10 args).run Try.prog w = .ok (.enter 10 args) w := enters_of Try.func10 (by kernel_rfl) rfl
  have e11 : ∀ args w, (callFunc 11 args).run Try.prog w = .ok (.enter 11 args) w := enters_of Try.func11 (by kernel_rfl) rfl
  have e12 : ∀ args w, (callFunc 12 args).run Try.prog w = .ok (.enter 12 args) w := enters_of Try.func12 (by kernel_rfl) rfl
  have e13 : ∀ args w, (callFunc 13 args).run Try.prog w = .ok (.enter 13 args) w := enters_of Try.func13 (by kernel_rfl) rfl
  have e14 : ∀ args w, (callFunc 14 args).run Try.prog w = .ok (.enter 14 args) w := enters_of Try.func14 (by kernel_rfl) rfl
  have e15 : ∀ args w, (callFunc 15 args).run Try.prog w = .ok (.enter 15 args) w := enters_of Try.func15 (by kernel_rfl) rfl
  have e16 : ∀ args w, (callFunc 16 args).run Try.prog w = .ok (.enter 16 args) w := enters_of Try.func16 (by kernel_rfl) rfl
  obtain ⟨⟨n1, t1⟩, hlv⟩ : ∃ x, lastV (s.sound css) (soundE s css) = x := ⟨_, rfl⟩
  obtain ⟨⟨v1, ok1⟩, htv⟩ : ∃ x, termV (s.sound css).si (s.sound css).st (its (soundE s css)) index = x := ⟨_, rfl⟩
  obtain ⟨cb, hcb⟩ : ∃ x, checkB s.si (its css) = x := ⟨_, rfl⟩
  obtain ⟨ev, hev⟩ : ∃ x : Int, (if cb = true then (0 : Int) else 1) = x := ⟨_, rfl⟩
  have EV := Aside0.mk hev
  have C10 : Aside0 (∀ W, Lg W s b off css → Calls Try.prog 10 #[.agg s.cells] W fun e w' => e = .returned (.int .i64 ev) ∧ Below W.heap.size W w') := ⟨fun W hW => by have := check_c s b off css W hW; rw [hcb, hev] at this; exact this⟩
  have C11 : Aside0 (∀ W, Lg W s b off css → Calls Try.prog 11 #[.agg s.cells] W fun e w' => e = .returned (.tuple #[.int .i64 n1, .int .i64 t1]) ∧ Below W.heap.size W w') := ⟨fun W hW => by have := last_c s b off css W hW; rw [hlv] at this; exact this⟩
  have C12 : Aside0 (∀ W, Lg W s b off css → Calls Try.prog 12 #[.agg s.cells] W fun e w' => e = .returned (.tuple #[.int .i64 n1, .int .i64 t1]) ∧ Below W.heap.size W w') := ⟨fun W hW => by have := rlast_c s b off css W hW; rw [hlv] at this; exact this⟩
  have C13 : Aside0 (∀ W, Lg W s b off css → Calls Try.prog 13 #[.agg s.cells, .int .i64 index] W fun e w' => e = .returned (.tuple #[.int .i64 v1, .bool ok1]) ∧ Below W.heap.size W w') := ⟨fun W hW => by have := term_c s b off css W hW index hr; rw [htv] at this; exact this⟩
  have C14 : Aside0 (∀ W, Lg W s b off css → Calls Try.prog 14 #[.agg s.cells, .int .i64 index] W fun e w' => e = .returned (.tuple #[.int .i64 v1, .bool ok1]) ∧ Below W.heap.size W w') := ⟨fun W hW => by have := rterm_c s b off css W hW index hr; rw [htv] at this; exact this⟩
  have C16 : Aside0 (∀ W, Lg W s b off css → Calls Try.prog 16 #[.agg s.cells] W fun e w' => e = .returned (.bool cb) ∧ Below W.heap.size W w') := ⟨fun W hW => by have := on_c s b off css W hW; rw [hcb] at this; exact this⟩
  clear hlv htv hcb hev
  have H := Aside0.mk h
  clear h
  have hi30 : ∀ cells : Array Value, cells.size = 9 → (Try.prog.info? 30).map (·.size) = some cells.size := fun c hc => by rw [hc]; exact size30
  rw [cells_eq]
  go_enter Try.func3, Try.ntmps3
  go_wp2_with fail
  rw [← cells_eq]
  have q0 : Below w.heap.size w (w.alloc (.cells s.cells 30)) := (Below.refl _ w).alloc (Nat.le_refl _) _
  have hs0 : w.heap.size < (w.alloc (.cells s.cells 30)).heap.size := by simp
  have k0 := heap_alloc_new w (.cells s.cells 30)
  generalize w.alloc (.cells s.cells 30) = W0 at q0 hs0 k0 ⊢
  have H0 : Aside0 ((s.n : Int) ≤ 1000 → Lg W0 s b off css ∧ ∀ j, j < css.length → IsC css[j]!) := ⟨fun g => ⟨(H.out g).1.below q0, (H.out g).2⟩⟩
  clear H
  refine (big_c s b off css W0 H0.out).mono ?_
  rintro e w1 ⟨⟨B, rfl, hB⟩, hb⟩
  have hs1 : w.heap.size < w1.heap.size := Nat.lt_of_lt_of_le hs0 hb.size
  have k1 := (hb.block w.heap.size hs0).trans k0
  have q1 : Below w.heap.size w w1 := q0.trans (hb.mono q0.size)
  have H1 : Aside0 ((s.n : Int) ≤ 1000 → Lg w1 s b off css) := ⟨fun g => (H0.out g).1.below hb⟩
  clear H0 hb q0 k0 hs0
  cases B with
  | true =>
    go_wp2
    go_ret
    exact ⟨rfl, q1⟩
  | false =>
    have L1 := Aside0.mk (H1.out (hB rfl))
    clear H1 hB
    go_wp2_with (refine wpList_load_row rfl 30 (.tmp 2) rfl w.heap.size rfl 30 _ (0, 0) _ k1 Try.underlying30 rfl (hi30 _ rfl) ?_)
    refine (C10.out w1 L1.out).mono ?_
    rintro e w2 ⟨rfl, hb⟩
    have hs2 : w.heap.size < w2.heap.size := Nat.lt_of_lt_of_le hs1 hb.size
    have k2 := (hb.block w.heap.size hs1).trans k1
    have q2 : Below w.heap.size w w2 := q1.trans (hb.mono q1.size)
    have L2 := Aside0.mk (L1.out.below hb)
    clear L1 hb q1 k1 hs1
    go_wp2_with (refine wpList_load_row rfl 30 (.tmp 2) rfl w.heap.size rfl 30 _ (0, 0) _ k2 Try.underlying30 rfl (hi30 _ rfl) ?_)
    refine (C11.out w2 L2.out).mono ?_
    rintro e w3 ⟨rfl, hb⟩
    have hs3 : w.heap.size < w3.heap.size := Nat.lt_of_lt_of_le hs2 hb.size
    have k3 := (hb.block w.heap.size hs2).trans k2
    have q3 : Below w.heap.size w w3 := q2.trans (hb.mono q2.size)
    have L3 := Aside0.mk (L2.out.below hb)
    clear L2 hb q2 k2 hs2
    go_wp2_with (refine wpList_load_row rfl 30 (.tmp 2) rfl w.heap.size rfl 30 _ (0, 0) _ k3 Try.underlying30 rfl (hi30 _ rfl) ?_)
    refine (C12.out w3 L3.out).mono ?_
    rintro e w4 ⟨rfl, hb⟩
    have hs4 : w.heap.size < w4.heap.size := Nat.lt_of_lt_of_le hs3 hb.size
    have k4 := (hb.block w.heap.size hs3).trans k3
    have q4 : Below w.heap.size w w4 := q3.trans (hb.mono q3.size)
    have L4 := Aside0.mk (L3.out.below hb)
    clear L3 hb q3 k3 hs3
    go_wp2_with (refine wpList_load_row rfl 30 (.tmp 2) rfl w.heap.size rfl 30 _ (0, 0) _ k4 Try.underlying30 rfl (hi30 _ rfl) ?_)
    refine (C13.out w4 L4.out).mono ?_
    rintro e w5 ⟨rfl, hb⟩
    have hs5 : w.heap.size < w5.heap.size := Nat.lt_of_lt_of_le hs4 hb.size
    have k5 := (hb.block w.heap.size hs4).trans k4
    have q5 : Below w.heap.size w w5 := q4.trans (hb.mono q4.size)
    have L5 := Aside0.mk (L4.out.below hb)
    clear L4 hb q4 k4 hs4
    go_wp2_with (refine wpList_load_row rfl 30 (.tmp 2) rfl w.heap.size rfl 30 _ (0, 0) _ k5 Try.underlying30 rfl (hi30 _ rfl) ?_)
    refine (C14.out w5 L5.out).mono ?_
    rintro e w6 ⟨rfl, hb⟩
    have hs6 : w.heap.size < w6.heap.size := Nat.lt_of_lt_of_le hs5 hb.size
    have k6 := (hb.block w.heap.size hs5).trans k5
    have q6 : Below w.heap.size w w6 := q5.trans (hb.mono q5.size)
    have L6 := Aside0.mk (L5.out.below hb)
    clear L5 hb q5 k5 hs5
    go_wp2_with fail
    refine (asks_c w6).mono ?_
    rintro e w7 ⟨rfl, hb⟩
    have hs7 : w.heap.size < w7.heap.size := Nat.lt_of_lt_of_le hs6 hb.size
    have k7 := (hb.block w.heap.size hs6).trans k6
    have q7 : Below w.heap.size w w7 := q6.trans (hb.mono q6.size)
    have L7 := Aside0.mk (L6.out.below hb)
    clear L6 hb q6 k6 hs6
    rw [cells_eq] at k7
    have c0 : w7.cell? ⟨w.heap.size, 0, none⟩ = some (.int .i64 s.t) := by simp [World.cell?, k7]
    have c1 : w7.cell? ⟨w.heap.size, 1, none⟩ = some (.int .i64 s.v) := by simp [World.cell?, k7]
    have c2 : w7.cell? ⟨w.heap.size, 2, none⟩ = some (.int .i64 s.si) := by simp [World.cell?, k7]
    have c3 : w7.cell? ⟨w.heap.size, 3, none⟩ = some (.int .i64 s.st) := by simp [World.cell?, k7]
    have c4 : w7.cell? ⟨w.heap.size, 4, none⟩ = some (.slice s.Va s.Vn s.Vc) := by simp [World.cell?, k7]
    have c5 : w7.cell? ⟨w.heap.size, 5, none⟩ = some (.slice s.La s.Ln s.Lc) := by simp [World.cell?, k7]
    have c6 : w7.cell? ⟨w.heap.size, 6, none⟩ = some (.string s.d) := by simp [World.cell?, k7]
    have c7 : w7.cell? ⟨w.heap.size, 7, none⟩ = some (.slice s.A s.n s.cap) := by simp [World.cell?, k7]
    have c8 : w7.cell? ⟨w.heap.size, 8, none⟩ = some (.slice s.Ga s.Gn s.Gc) := by simp [World.cell?, k7]
    have hC := C16.out w7 L7.out
    rw [cells_eq] at hC
    have HC := Aside0.mk hC
    clear hC k7 L7 C16 C10 C11 C12 C13 C14
    cases cb with
    | true =>
      obtain rfl : (0 : Int) = ev := EV.out
      go_wp2_with fail
      refine HC.out.mono ?_
      rintro e w8 ⟨rfl, hb⟩
      go_wp2
      go_ret
      exact ⟨rfl, q7.trans (hb.mono q7.size)⟩
    | false =>
      obtain rfl : (1 : Int) = ev := EV.out
      go_wp2_with fail
      refine HC.out.mono ?_
      rintro e w8 ⟨rfl, hb⟩
      go_wp2
      go_ret
      exact ⟨rfl, q7.trans (hb.mono q7.size)⟩
end Go.Proofs.Ytpjachbmllklgaa.Rng
