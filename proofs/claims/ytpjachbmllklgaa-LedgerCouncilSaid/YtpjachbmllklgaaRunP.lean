/- The run of terms: the loop's and the reference's, in plain Lean. -/
import Derived.Test.YtpjachbmllklgaaRunL
namespace Go.Proofs.Ytpjachbmllklgaa.Rng
set_option linter.unusedVariables false

/-- From k down while the term is the same. -/
def runN (T : Nat → Int) : Nat → Nat
  | 0 => 0
  | k + 1 => if T k = T (k + 1) then runN T k else k + 1
/-- The term of the k-th number. -/
def tmK (si st : Int) (l : List (Int × Int)) (k : Nat) : Int := (termV si st l (si + k)).1
def runW (si st : Int) (l : List (Int × Int)) (index : Int) : Int := if index < si then si else si + runN (tmK si st l) (min l.length (index - si).toNat)
theorem tmK_zero (si st : Int) (l : List (Int × Int)) : tmK si st l 0 = st := by
  unfold tmK termV
  simp
theorem tmK_succ {si st : Int} {l : List (Int × Int)} (k : Nat) (hk : k < l.length) : tmK si st l (k + 1) = l[k]!.2 := by
  unfold tmK termV
  rw [if_neg (by omega), if_pos (by omega)]
  rw [show (si + ((k + 1 : Nat) : Int) - si - 1).toNat = k by omega]
theorem dn_succ (css : List (List Value)) (z : Int × Int) (k : Nat) : dn css z (k + 1) = itOf css[k]! :: dn css z k := rfl
theorem runF_begun {si st : Int} {css : List (List Value)} (hg : goesB si (its css) = true) (index : Int) : ∀ k, k < css.length → si + ((k + 1 : Nat) : Int) ≤ index →
    runF index (dn css (si, st) k) (si + ((k + 1 : Nat) : Int), tmK si st (its css) (k + 1), true) = si + runN (tmK si st (its css)) (k + 1)
  | 0, hk, hi => by
    show runF index [(si, st)] _ = _
    have h0 := tmK_zero si st (its css)
    by_cases h : st ≠ tmK si st (its css) 1
    · rw [runF_stop (by omega) ⟨rfl, h⟩]
      unfold runN
      rw [if_neg (by rw [h0]; exact h)]
    · rw [runF_next (by omega) (fun g => h g.2)]
      unfold runN runF
      rw [if_pos (by rw [h0]; simpa using h)]
      simp [runN]
  | k + 1, hk, hi => by
    have h0 : itOf css[k]! = (si + ((k + 1 : Nat) : Int), tmK si st (its css) (k + 1)) := by
      have h1 := (goesB_iff _ _).1 hg k (by rw [its_length]; omega)
      have h2 := tmK_succ (si := si) (st := st) (l := its css) k (by rw [its_length]; omega)
      rw [its_get css k (by omega)] at h1 h2
      rw [h2]
      refine Prod.ext ?_ rfl
      rw [h1]; push_cast; omega
    rw [dn_succ, h0]
    by_cases h : tmK si st (its css) (k + 1) ≠ tmK si st (its css) (k + 2)
    · rw [runF_stop (by omega) ⟨rfl, h⟩]
      rw [runN, if_neg h]
    · rw [runF_next (by omega) (fun g => h g.2), runF_begun hg index k (by omega) (by omega)]
      rw [show runN (tmK si st (its css)) (k + 1 + 1) = if tmK si st (its css) (k + 1) = tmK si st (its css) (k + 1 + 1) then runN (tmK si st (its css)) (k + 1) else k + 1 + 1 from rfl, if_pos (by simpa using h)]
theorem runF_first {si st : Int} {css : List (List Value)} (hg : goesB si (its css) = true) (index : Int) (h0 : si ≤ index) : ∀ k, k ≤ css.length →
    runF index (dn css (si, st) k) (si, -1, false) = si + runN (tmK si st (its css)) (min k (index - si).toNat)
  | 0, hk => by
    show runF index [(si, st)] _ = _
    rw [runF_next (by omega) (fun g => by cases g.1)]
    simp [runF, runN]
  | k + 1, hk => by
    have hit : itOf css[k]! = (si + ((k + 1 : Nat) : Int), tmK si st (its css) (k + 1)) := by
      have h1 := (goesB_iff _ _).1 hg k (by rw [its_length]; omega)
      have h2 := tmK_succ (si := si) (st := st) (l := its css) k (by rw [its_length]; omega)
      rw [its_get css k (by omega)] at h1 h2
      rw [h2]
      refine Prod.ext ?_ rfl
      rw [h1]; push_cast; omega
    rw [dn_succ, hit]
    by_cases h : si + ((k + 1 : Nat) : Int) > index
    · rw [runF_skip h, runF_first hg index h0 k (by omega), Nat.min_eq_right (show (index - si).toNat ≤ k by omega), Nat.min_eq_right (by omega)]
    · rw [runF_next h (fun g => by cases g.1), runF_begun hg index k (by omega) (by omega), Nat.min_eq_left (by omega)]
theorem runF_below {si st : Int} {css : List (List Value)} (hg : goesB si (its css) = true) (index : Int) (h0 : index < si) : ∀ k, k ≤ css.length → runF index (dn css (si, st) k) (si, -1, false) = si
  | 0, hk => by
    show runF index [(si, st)] _ = _
    rw [runF_skip (by omega)]
    rfl
  | k + 1, hk => by
    have h1 := (goesB_iff _ _).1 hg k (by rw [its_length]; omega)
    rw [its_get css k (by omega)] at h1
    rw [dn_succ, show itOf css[k]! = ((itOf css[k]!).1, (itOf css[k]!).2) from rfl, runF_skip (by rw [h1]; omega)]
    exact runF_below hg index h0 k (by omega)
theorem runV_eq (s : Sv) (css : List (List Value)) (index : Int) : runV s css index = runW (s.sound css).si (s.sound css).st (its (soundE s css)) index := by
  obtain ⟨_, _, _, hg⟩ := sound_si s css
  unfold runV runW
  generalize (s.sound css).si = si at *
  generalize (s.sound css).st = st at *
  generalize soundE s css = css2 at *
  split
  · rename_i h
    exact runF_below hg index h _ (Nat.le_refl _)
  · rename_i h
    rw [runF_first hg index (by omega) _ (Nat.le_refl _), its_length]
end Go.Proofs.Ytpjachbmllklgaa.Rng
