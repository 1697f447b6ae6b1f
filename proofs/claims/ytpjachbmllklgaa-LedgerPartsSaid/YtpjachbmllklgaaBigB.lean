/- What is looked at: Big, and what holds then. -/
import Derived.Test.YtpjachbmllklgaaPrt
namespace Go.Proofs.Ytpjachbmllklgaa.Rng
open Go.RowKit Go.Proofs.YtpjachbmllklgaaW.PrintWords Go.Proofs.Ytpjachbmllklgaa.Kinds
set_option linter.unusedVariables false
set_option linter.unusedSimpArgs false
attribute [local go_sem] Oper.semAt_some

/-- Big answers; and what holds if it answers 'no'. -/
structure Small (s : Sv) (xs : List Ent) : Prop where
  n : (s.n : Int) ≤ 1000
  g : (s.Gn : Int) ≤ 1000
  v : (s.Vn : Int) ≤ 5000
  l : (s.Ln : Int) ≤ 5000
  c : ∀ j, j < xs.length → xs[j]!.2.2.2.2.1.length ≤ 5000 ∧ xs[j]!.2.2.2.2.2.length ≤ 5000
def BigPost2 (s : Sv) (xs : List Ent) (e : Ending) : Prop := ∃ B, e = .returned (.bool B) ∧ (B = false → Small s xs)
theorem bigPost2_true (s : Sv) (xs : List Ent) : BigPost2 s xs (.returned (.bool true)) := ⟨true, rfl, fun h => by cases h⟩
theorem bigPost2_any (s : Sv) (xs : List Ent) (B : Bool) (h : B = false → Small s xs) : BigPost2 s xs (.returned (.bool B)) := ⟨B, rfl, h⟩
/-- The councils of entries, as they lie. -/
def IsCX (css : List (List Value)) (xs : List Ent) : Prop := css.length = xs.length ∧ ∀ j, j < css.length → ∃ A c B d, css[j]![41]? = some (.slice A xs[j]!.2.2.2.2.1.length c) ∧ css[j]![42]? = some (.slice B xs[j]!.2.2.2.2.2.length d)

set_option maxHeartbeats 2000000 in
set_option maxRecDepth 100000 in
theorem big2_c (s : Sv) (b off : Nat) (css : List (List Value)) (xs : List Ent) (w : World) (h : (s.n : Int) ≤ 1000 → Lg w s b off css ∧ IsCX css xs) :
    Calls Try.prog 9 #[.agg s.cells, .slice none 0 0] w fun e w' => BigPost2 s xs e ∧ Below w.heap.size w w' := by
  have H := Aside0.mk h
  clear h
  obtain ⟨t, v, si, st, Va, Vn, Vc, La, Ln, Lc, d, A, n, cap, Ga, Gn, Gc⟩ := s
  unfold Sv.cells
  dsimp only at H ⊢
  by_cases g1 : (n : Int) > 1000
  · go_enter Try.func9, Try.ntmps9
    go_wp2
    go_ret
    exact ⟨bigPost2_true _ _, (Below.refl _ w).alloc (Nat.le_refl _) _⟩
  by_cases g2 : (Gn : Int) > 1000
  · go_enter Try.func9, Try.ntmps9
    go_wp2
    go_ret
    exact ⟨bigPost2_true _ _, (Below.refl _ w).alloc (Nat.le_refl _) _⟩
  by_cases g3 : (Vn : Int) > 5000
  · go_enter Try.func9, Try.ntmps9
    go_wp2
    go_ret
    exact ⟨bigPost2_true _ _, ((Below.refl _ w).alloc (Nat.le_refl _) _).alloc (by simp) _⟩
  by_cases g4 : (Ln : Int) > 5000
  · go_enter Try.func9, Try.ntmps9
    go_wp2
    go_ret
    exact ⟨bigPost2_true _ _, ((Below.refl _ w).alloc (Nat.le_refl _) _).alloc (by simp) _⟩
  obtain ⟨hL, hC⟩ := H.out (by omega)
  have hn := hL.n
  dsimp only at hn
  subst hn
  clear H
  have HL := Aside0.mk hL
  have HC := Aside0.mk hC
  clear hL hC
  have G1 : Aside0 ((css.length : Int) ≤ 1000 ∧ (Gn : Int) ≤ 1000 ∧ (Vn : Int) ≤ 5000 ∧ (Ln : Int) ≤ 5000) := ⟨by omega⟩
  go_enter Try.func9, Try.ntmps9
  go_wp2
  obtain ⟨W0, hW0⟩ : ∃ W0, ((w.alloc (.cells #[.int .i64 t, .int .i64 v, .int .i64 si, .int .i64 st, .slice Va Vn Vc, .slice La Ln Lc, .string d, .slice A css.length cap, .slice Ga Gn Gc] 30)).alloc (.cells #[.slice Va Vn Vc, .slice La Ln Lc] 24)) = W0 := ⟨_, rfl⟩
  have hb0 : Below w.heap.size w W0 := by rw [← hW0]; exact ((Below.refl _ w).alloc (Nat.le_refl _) _).alloc (by simp) _
  have hc7 : W0.cell? ⟨w.heap.size, 7, none⟩ = some (.slice A css.length cap) := by rw [← hW0]; simp
  have hs0 : w.heap.size < W0.heap.size := by rw [← hW0]; simp; omega
  rw [hW0]
  clear hW0
  go_loopg [5, 6] css.length (fun gg s5 s6 wr => ∃ (kk : Nat) (x : Int), kk ≤ css.length ∧ css.length - kk ≤ gg ∧ s5 = .int .i64 x ∧ s6 = .int .i64 kk ∧ Aside (Below W0.heap.size W0 wr) ∧ 0 ≤ x ∧ Aside (x ≤ 5000 → ∀ j, j < kk → xs[j]!.2.2.2.2.1.length ≤ 5000 ∧ xs[j]!.2.2.2.2.2.length ≤ 5000))
  case atStart => exact ⟨0, 0, by omega, by omega, rfl, rfl, Below.refl _ _, by omega, fun _ j hj => absurd hj (Nat.not_lt_zero _)⟩
  case round =>
    obtain ⟨kk, x, hk, hg, rfl, rfl, B, hx0, XC⟩ := hrel
    have hc7' : wr.cell? ⟨w.heap.size, 7, none⟩ = some (.slice A css.length cap) := (B.out.cell (p := ⟨w.heap.size, 7, none⟩) hs0).trans hc7
    by_cases hlt : kk < css.length ∧ x ≤ 5000
    · obtain ⟨hlt, hx5⟩ := hlt
      have hltz : (kk : Int) < (css.length : Int) := by omega
      obtain rfl := HL.out.A (by omega)
      have hrg := ((HL.out.below hb0).below B.out).row kk hlt
      obtain ⟨A1, c1, A2, c2, e1, e2⟩ := HC.out.2 kk hlt
      generalize hn1 : xs[kk]!.2.2.2.2.1.length = n1 at e1
      generalize hn2 : xs[kk]!.2.2.2.2.2.length = n2 at e2
      have N12 : Aside0 (xs[kk]!.2.2.2.2.1.length = n1 ∧ xs[kk]!.2.2.2.2.2.length = n2) := ⟨hn1, hn2⟩
      clear hn1 hn2
      have XS : Aside0 (∀ x', x' ≤ 5000 → x' ≥ x + (if 5001 < (n1 : Int) then 5001 else (n1 : Int)) + (if 5001 < (n2 : Int) then 5001 else (n2 : Int)) → ∀ j, j < kk + 1 → xs[j]!.2.2.2.2.1.length ≤ 5000 ∧ xs[j]!.2.2.2.2.2.length ≤ 5000) := ⟨fun x' h1 h2 j hj => by
        have hm1 : (0 : Int) ≤ (if 5001 < (n1 : Int) then 5001 else (n1 : Int)) := by split <;> omega
        have hm2 : (0 : Int) ≤ (if 5001 < (n2 : Int) then 5001 else (n2 : Int)) := by split <;> omega
        by_cases e : j = kk
        · subst e
          rw [N12.out.1, N12.out.2]
          constructor
          · split at h2 <;> omega
          · split at h2 <;> split at h2 <;> omega
        · exact XC.out hx5 j (by omega)⟩
      have k1 : wr.cell? ⟨b, off + kk * 43 + 41, none⟩ = some (.slice A1 n1 c1) := hrg 41 _ e1
      have k2 : wr.cell? ⟨b, off + kk * 43 + 42, none⟩ = some (.slice A2 n2 c2) := hrg 42 _ e2
      clear hrg e1 e2
      go_wp2
      go_region
      go_wp2
      all_goals go_roundg (css.length - (kk + 1))
      all_goals first | omega | exact ⟨kk + 1, _, by omega, by omega, rfl, by go_num, B.out.drew, by omega, fun h => XS.out _ h (by (repeat' split) <;> omega)⟩
    · have hb := hb0.trans (B.out.mono hb0.size)
      have hout : ¬ ((kk : Int) < (css.length : Int)) ∨ ((kk : Int) < (css.length : Int) ∧ ¬ x ≤ 5000) := by
        by_cases g : kk < css.length
        · exact .inr ⟨by omega, fun h => hlt ⟨g, h⟩⟩
        · exact .inl (by omega)
      clear hlt
      have FIN : Aside0 (x ≤ 5000 → ∀ j, j < xs.length → xs[j]!.2.2.2.2.1.length ≤ 5000 ∧ xs[j]!.2.2.2.2.2.length ≤ 5000) := ⟨fun hx j hj => by
        have := HC.out.1
        exact XC.out hx j (by omega)⟩
      rcases hout with g | ⟨g, g'⟩
      · go_wp2
        go_loopg [5, 7] 0 (fun gg s5 s7 wr2 => s5 = .int .i64 x ∧ s7 = .int .i64 0 ∧ wr2 = wr)
        case atStart => exact ⟨rfl, rfl, rfl⟩
        case round =>
          obtain ⟨rfl, rfl, rfl⟩ := hrel
          go_wp2
          go_ret
          exact ⟨bigPost2_any _ _ _ (fun hB => ⟨G1.out.1, G1.out.2.1, G1.out.2.2.1, G1.out.2.2.2, fun j hj => FIN.out (by (simp at hB) <;> omega) j hj⟩), hb⟩
      · go_wp2
        go_loopg [5, 7] 0 (fun gg s5 s7 wr2 => s5 = .int .i64 x ∧ s7 = .int .i64 0 ∧ wr2 = wr)
        case atStart => exact ⟨rfl, rfl, rfl⟩
        case round =>
          obtain ⟨rfl, rfl, rfl⟩ := hrel
          go_wp2
          go_ret
          exact ⟨bigPost2_any _ _ _ (fun hB => ⟨G1.out.1, G1.out.2.1, G1.out.2.2.1, G1.out.2.2.2, fun j hj => FIN.out (by (simp at hB) <;> omega) j hj⟩), hb⟩
end Go.Proofs.Ytpjachbmllklgaa.Rng
