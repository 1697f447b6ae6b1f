/- What is looked at: Big. -/
import Derived.Test.YtpjachbmllklgaaRefA
namespace Go.Proofs.Ytpjachbmllklgaa.Rng
open Go.RowKit Go.Proofs.YtpjachbmllklgaaW.PrintWords
set_option linter.unusedVariables false
set_option linter.unusedSimpArgs false
attribute [local go_sem] Oper.semAt_some

/-- An entry's council, as it lies. -/
def IsC (cs : List Value) : Prop := (∃ A n c, cs[41]? = some (.slice A n c)) ∧ ∃ A n c, cs[42]? = some (.slice A n c)

set_option maxHeartbeats 1000000 in
set_option maxRecDepth 100000 in
theorem bigcouncil_c (A : Option Addr) (n c : Nat) (B : Option Addr) (m d : Nat) (w : World) :
    Calls Try.prog 38 #[.agg #[.slice A n c, .slice B m d]] w fun e w' => e = .returned (.bool (decide ((n : Int) > 5000) || decide ((m : Int) > 5000))) ∧ Below w.heap.size w w' := by
  by_cases g1 : (n : Int) > 5000
  · simp only [g1, decide_true, Bool.true_or]
    go_enter Try.func38, Try.ntmps38
    go_wp2
    go_ret
    exact ⟨rfl, (Below.refl _ w).alloc (Nat.le_refl _) _⟩
  · by_cases g2 : (m : Int) > 5000
    · simp only [g1, g2, decide_true, decide_false, Bool.false_or]
      go_enter Try.func38, Try.ntmps38
      go_wp2
      go_ret
      exact ⟨rfl, (Below.refl _ w).alloc (Nat.le_refl _) _⟩
    · simp only [g1, g2, decide_false, Bool.false_or]
      go_enter Try.func38, Try.ntmps38
      go_wp2
      go_ret
      exact ⟨rfl, (Below.refl _ w).alloc (Nat.le_refl _) _⟩

/-- Big answers; and if it answers 'no', there are no more than 1000 entries. -/
def BigPost (n : Nat) (e : Ending) : Prop := ∃ B, e = .returned (.bool B) ∧ (B = false → (n : Int) ≤ 1000)
theorem bigPost_true (n : Nat) : BigPost n (.returned (.bool true)) := ⟨true, rfl, fun h => by cases h⟩
theorem bigPost_any (n : Nat) (h : (n : Int) ≤ 1000) (B : Bool) : BigPost n (.returned (.bool B)) := ⟨B, rfl, fun _ => h⟩

set_option maxHeartbeats 2000000 in
set_option maxRecDepth 100000 in
theorem big_c (s : Sv) (b off : Nat) (css : List (List Value)) (w : World) (h : (s.n : Int) ≤ 1000 → Lg w s b off css ∧ ∀ j, j < css.length → IsC css[j]!) :
    Calls Try.prog 9 #[.agg s.cells, .slice none 0 0] w fun e w' => BigPost s.n e ∧ Below w.heap.size w w' := by
  have H := Aside0.mk h
  clear h
  obtain ⟨t, v, si, st, Va, Vn, Vc, La, Ln, Lc, d, A, n, cap, Ga, Gn, Gc⟩ := s
  unfold Sv.cells
  dsimp only at H ⊢
  by_cases g1 : (n : Int) > 1000
  · go_enter Try.func9, Try.ntmps9
    go_wp2
    go_ret
    exact ⟨bigPost_true _, (Below.refl _ w).alloc (Nat.le_refl _) _⟩
  by_cases g2 : (Gn : Int) > 1000
  · go_enter Try.func9, Try.ntmps9
    go_wp2
    go_ret
    exact ⟨bigPost_true _, (Below.refl _ w).alloc (Nat.le_refl _) _⟩
  by_cases g3 : (Vn : Int) > 5000
  · go_enter Try.func9, Try.ntmps9
    go_wp2
    go_ret
    exact ⟨bigPost_true _, ((Below.refl _ w).alloc (Nat.le_refl _) _).alloc (by simp) _⟩
  by_cases g4 : (Ln : Int) > 5000
  · go_enter Try.func9, Try.ntmps9
    go_wp2
    go_ret
    exact ⟨bigPost_true _, ((Below.refl _ w).alloc (Nat.le_refl _) _).alloc (by simp) _⟩
  obtain ⟨hL, hC⟩ := H.out (by omega)
  have hn := hL.n
  dsimp only at hn
  subst hn
  clear H
  have HL := Aside0.mk hL
  have HC := Aside0.mk hC
  clear hL hC
  have G1 : Aside0 ((css.length : Int) ≤ 1000) := ⟨by omega⟩
  go_enter Try.func9, Try.ntmps9
  go_wp2
  obtain ⟨W0, hW0⟩ : ∃ W0, ((w.alloc (.cells #[.int .i64 t, .int .i64 v, .int .i64 si, .int .i64 st, .slice Va Vn Vc, .slice La Ln Lc, .string d, .slice A css.length cap, .slice Ga Gn Gc] 30)).alloc (.cells #[.slice Va Vn Vc, .slice La Ln Lc] 24)) = W0 := ⟨_, rfl⟩
  have hb0 : Below w.heap.size w W0 := by rw [← hW0]; exact ((Below.refl _ w).alloc (Nat.le_refl _) _).alloc (by simp) _
  have hc7 : W0.cell? ⟨w.heap.size, 7, none⟩ = some (.slice A css.length cap) := by rw [← hW0]; simp
  have hs0 : w.heap.size < W0.heap.size := by rw [← hW0]; simp; omega
  rw [hW0]
  clear hW0
  go_loopg [5, 6] css.length (fun gg s5 s6 wr => ∃ (kk : Nat) (x : Int), kk ≤ css.length ∧ css.length - kk ≤ gg ∧ s5 = .int .i64 x ∧ s6 = .int .i64 kk ∧ Aside (Below W0.heap.size W0 wr))
  case atStart => exact ⟨0, 0, by omega, by omega, rfl, rfl, Below.refl _ _⟩
  case round =>
    obtain ⟨kk, x, hk, hg, rfl, rfl, B⟩ := hrel
    have hc7' : wr.cell? ⟨w.heap.size, 7, none⟩ = some (.slice A css.length cap) := (B.out.cell (p := ⟨w.heap.size, 7, none⟩) hs0).trans hc7
    by_cases hlt : kk < css.length ∧ x ≤ 5000
    · obtain ⟨hlt, hx5⟩ := hlt
      have hltz : (kk : Int) < (css.length : Int) := by omega
      obtain rfl := HL.out.A (by omega)
      have hrg := ((HL.out.below hb0).below B.out).row kk hlt
      obtain ⟨⟨A1, n1, c1, e1⟩, A2, n2, c2, e2⟩ := HC.out kk hlt
      have k1 : wr.cell? ⟨b, off + kk * 43 + 41, none⟩ = some (.slice A1 n1 c1) := hrg 41 _ e1
      have k2 : wr.cell? ⟨b, off + kk * 43 + 42, none⟩ = some (.slice A2 n2 c2) := hrg 42 _ e2
      clear hrg e1 e2
      go_wp2
      go_region
      go_wp2
      all_goals go_roundg (css.length - (kk + 1))
      all_goals first | exact ⟨kk + 1, _, by omega, by omega, rfl, by go_num, B.out.drew⟩ | omega
    · have hb := hb0.trans (B.out.mono hb0.size)
      have hout : ¬ ((kk : Int) < (css.length : Int)) ∨ ((kk : Int) < (css.length : Int) ∧ ¬ x ≤ 5000) := by
        by_cases g : kk < css.length
        · exact .inr ⟨by omega, fun h => hlt ⟨g, h⟩⟩
        · exact .inl (by omega)
      clear hlt
      rcases hout with g | ⟨g, g'⟩
      · go_wp2
        go_loopg [5, 7] 0 (fun gg s5 s7 wr2 => s5 = .int .i64 x ∧ s7 = .int .i64 0 ∧ wr2 = wr)
        case atStart => exact ⟨rfl, rfl, rfl⟩
        case round =>
          obtain ⟨rfl, rfl, rfl⟩ := hrel
          go_wp2
          go_ret
          exact ⟨bigPost_any _ G1.out _, hb⟩
      · go_wp2
        go_loopg [5, 7] 0 (fun gg s5 s7 wr2 => s5 = .int .i64 x ∧ s7 = .int .i64 0 ∧ wr2 = wr)
        case atStart => exact ⟨rfl, rfl, rfl⟩
        case round =>
          obtain ⟨rfl, rfl, rfl⟩ := hrel
          go_wp2
          go_ret
          exact ⟨bigPost_any _ G1.out _, hb⟩
end Go.Proofs.Ytpjachbmllklgaa.Rng
