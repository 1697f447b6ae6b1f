/- The plain law of LedgerParts. -/
import Derived.Test.YtpjachbmllklgaaAbv
namespace Go.Proofs.Ytpjachbmllklgaa.Rng
open Go.Proofs.Ytpjachbmllklgaa.Kinds
set_option linter.unusedVariables false

theorem itX_get (ys : List Ent) (j : Nat) (h : j < ys.length) : (itX ys)[j]! = (ys[j]!.1, ys[j]!.2.1) := by
  rw [getElem!_pos _ j (by simpa [itX] using h), getElem!_pos _ j h]
  simp [itX]
theorem goes_get {ys : List Ent} {si : Int} (h : goesB si (itX ys) = true) (j : Nat) (hj : j < ys.length) : ys[j]!.1 = si + 1 + j := by
  have := (goesB_iff _ _).1 h j (by simpa [itX] using hj)
  rw [itX_get ys j hj] at this
  exact this
theorem bey_eq {ys : List Ent} {si : Int} (h : goesB si (itX ys) = true) (index : Int) : beyV ys index = if (index - si).toNat < ys.length then ((index - si).toNat : Int) else -1 := by
  split
  · rename_i hk
    refine beyV_hit ys index _ hk ?_ (fun j hj => ?_)
    · rw [goes_get h _ hk]; omega
    · rw [goes_get h j (by omega)]; omega
  · rename_i hk
    refine beyV_none ys index (fun j hj => ?_)
    rw [goes_get h j hj]; omega
theorem above_eq {ys : List Ent} {si : Int} (h : goesB si (itX ys) = true) (index m : Int) : aboveX ys index m = (ys.drop (index - si).toNat).take m.toNat := by
  unfold aboveX
  rw [bey_eq h]
  by_cases hk : (index - si).toNat < ys.length
  · rw [if_pos hk]
    by_cases hm : m < 1
    · rw [if_pos (.inr hm), show m.toNat = 0 by omega, List.take_zero]
    · rw [if_neg (by omega), Int.toNat_natCast]
  · rw [if_neg hk, if_pos (.inl (by omega)), List.drop_eq_nil_of_le (by omega), List.take_nil]
theorem above_length {ys : List Ent} {si : Int} (h : goesB si (itX ys) = true) (index m : Int) : (aboveX ys index m).length = min m.toNat (ys.length - (index - si).toNat) := by
  rw [above_eq h]; simp
theorem above_get {ys : List Ent} {si : Int} (h : goesB si (itX ys) = true) (index m : Int) (i : Nat) (hi : i < (aboveX ys index m).length) : (aboveX ys index m)[i]! = ys[(index - si).toNat + i]! := by
  have hl := above_length h index m
  rw [getElem!_pos _ i hi, getElem!_pos _ _ (by omega)]
  simp only [above_eq h]
  rw [List.getElem_take, List.getElem_drop]
theorem above_num {ys : List Ent} {si : Int} (h : goesB si (itX ys) = true) (index m : Int) (i : Nat) (hi : i < (aboveX ys index m).length) : ((aboveX ys index m)[i]!).1 = si + 1 + (index - si).toNat + i := by
  have hl := above_length h index m
  rw [above_get h index m i hi, goes_get h _ (by omega)]
  omega
theorem above_term {ys : List Ent} {si : Int} (h : goesB si (itX ys) = true) (st index m : Int) (i : Nat) (hi : i < (aboveX ys index m).length) : termV si st (itX ys) ((aboveX ys index m)[i]!).1 = (((aboveX ys index m)[i]!).2.1, true) := by
  have hl := above_length h index m
  have hn := above_num h index m i hi
  unfold termV
  rw [hn, if_neg (by omega), if_pos (by rw [show (itX ys).length = ys.length by simp [itX]]; omega)]
  rw [show (si + 1 + ((index - si).toNat : Int) + (i : Int) - si - 1).toNat = (index - si).toNat + i by omega, itX_get ys _ (by omega), above_get h index m i hi]
/-- The number up to which the first part goes. -/
def atV (a : List Ent) (index : Int) : Int := if a.length = 0 then index else (a[a.length - 1]!).1
theorem parts_eq {ys : List Ent} {si : Int} (h : goesB si (itX ys) = true) (index one two : Int) (h1 : 0 ≤ one) (h2 : 0 ≤ two) : aboveX ys index one ++ aboveX ys (atV (aboveX ys index one) index) two = aboveX ys index (one + two) := by
  have hl := above_length h index one
  unfold atV
  by_cases h0 : (aboveX ys index one).length = 0
  · rw [if_pos h0, List.eq_nil_of_length_eq_zero h0, List.nil_append, above_eq h, above_eq h]
    by_cases ho : one = 0
    · rw [ho, Int.zero_add]
    · rw [List.drop_eq_nil_of_le (by omega)]
      simp
  · rw [if_neg h0, above_num h index one _ (by omega), above_eq h, above_eq h, above_eq h]
    rw [hl] at h0
    rw [← above_eq h, hl]
    have e : (si + 1 + ((index - si).toNat : Int) + ((min one.toNat (ys.length - (index - si).toNat) - 1 : Nat) : Int) - si).toNat = (index - si).toNat + min one.toNat (ys.length - (index - si).toNat) := by omega
    rw [e, ← List.drop_drop, above_eq h, show (one + two).toNat = one.toNat + two.toNat by omega, List.take_add]
    congr 1
    by_cases hle : one.toNat ≤ ys.length - (index - si).toNat
    · rw [Nat.min_eq_left hle]
    · rw [Nat.min_eq_right (by omega), List.drop_eq_nil_of_le (by simp), List.drop_eq_nil_of_le (by simp; omega)]
end Go.Proofs.Ytpjachbmllklgaa.Rng
