/- LedgerParts, walked. -/
import Derived.Test.YtpjachbmllklgaaArg
import Derived.Test.YtpjachbmllklgaaPartsP
import Derived.Test.YtpjachbmllklgaaEnts
import Derived.Test.YtpjachbmllklgaaAsks
import Derived.Test.YtpjachbmllklgaaWApart
namespace Go.Proofs.Ytpjachbmllklgaa.Rng
open Go.RowKit Go.Proofs.YtpjachbmllklgaaW.PrintWords Go.Proofs.Ytpjachbmllklgaa.Kinds
set_option linter.unusedVariables false
set_option linter.unusedSimpArgs false
attribute [local go_sem] Oper.semAt_some

theorem sndX_goes (s : Sv) (xs : List Ent) : goesB (if checkB s.si (itX xs) = true then s.si else 0) (itX (sndX s xs)) = true := by
  unfold sndX
  cases h : checkB s.si (itX xs) with
  | true =>
    simp only [checkB, Bool.and_eq_true] at h
    exact h.2
  | false => rfl
theorem sound_six {W : World} {s : Sv} {b off : Nat} {css : List (List Value)} {xs : List Ent} (h : LX W s.A b off css xs) : (s.sound css).si = (if checkB s.si (itX xs) = true then s.si else 0) ∧ its (soundE s css) = itX (sndX s xs) := by
  refine ⟨?_, h.sound.its_eq⟩
  unfold Sv.sound
  rw [h.its_eq]
  split <;> rfl
theorem aboveX_mem {ys : List Ent} {index m : Int} {x : Ent} (h : x ∈ aboveX ys index m) : x ∈ ys := by
  unfold aboveX at h
  split at h
  · simp at h
  · exact List.mem_of_mem_drop (List.mem_of_mem_take h)
theorem sndX_mem {s : Sv} {xs : List Ent} {x : Ent} (h : x ∈ sndX s xs) : x ∈ xs := by
  unfold sndX at h
  split at h
  · exact h
  · simp at h
/-- A row of the call's own, read. -/
theorem lx_of_R {w : World} {base : Nat} {ok : Nat → Prop} {v : Value} {xs : List Ent} (h : kEnt.R 59 w base ok v xs) (hs : xs.length ≤ 1000000) (hc : ∀ x ∈ xs, x.2.2.2.2.1.length < 17592186044416 ∧ x.2.2.2.2.2.length < 17592186044416)
    (hi : ∀ x ∈ xs, -9223372036854775808 ≤ x.1 ∧ x.1 ≤ 9223372036854775807) : ∃ (A : Option Addr) (c b off : Nat) (css : List (List Value)), v = .slice A xs.length c ∧ xs.length ≤ c ∧ LX w A b off css xs := by
  obtain ⟨A, c, hv, hcap, hC⟩ := Kd.R_reads h
  obtain ⟨b, off, css, hL⟩ := lx_of_C hC rfl hs hc hi
  exact ⟨A, c, b, off, css, hv, hcap, hL⟩
/-- The cells of entries, to be appended. -/
theorem LX.raw {w : World} {A : Option Addr} {b off : Nat} {css : List (List Value)} {xs : List Ent} (h : LX w A b off css xs) : ReadsRow ((Kd.raw 43).K w) 43 w A css.length css := by
  refine ⟨rfl, by have := h.small; omega, fun h0 => ⟨_, h.A h0, fun j p hj => ?_⟩⟩
  have hlt := (List.getElem?_eq_some_iff.1 hj).1
  have hp : css[j]! = p := by
    rw [getElem!_pos css j hlt]
    exact (List.getElem?_eq_some_iff.1 hj).2
  have hE := (h.isE j hlt).1
  have hr := h.row j hlt
  rw [hp] at hE hr
  refine ⟨p, hE.len, ⟨rfl, hE.len, hE.one⟩, fun i u hi => ?_⟩
  rw [Addr.add_mid, ← Nat.add_assoc]
  exact hr i u hi
theorem lx_of_raw {w : World} {base : Nat} {ok : Nat → Prop} {v : Value} {css : List (List Value)} {xs : List Ent} (h : (Kd.raw 43).R 59 w base ok v css) (hl : css.length = xs.length) (hK : ∀ j, j < css.length → kEnt.K w xs[j]! css[j]!) (hs : xs.length ≤ 1000000) (hc : ∀ x ∈ xs, x.2.2.2.2.1.length < 17592186044416 ∧ x.2.2.2.2.2.length < 17592186044416)
    (hi : ∀ x ∈ xs, -9223372036854775808 ≤ x.1 ∧ x.1 ≤ 9223372036854775807) : ∃ (A : Option Addr) (c b off : Nat), v = .slice A xs.length c ∧ LX w A b off css xs := by
  obtain ⟨A, c, hv, hcap, hC⟩ := Kd.R_reads h
  rw [hl] at hv
  by_cases h0 : 0 < css.length
  · obtain ⟨ad, rfl, hcell⟩ := hC.2.2 h0
    have key : ∀ j, j < css.length → ∀ i u, css[j]![i]? = some u → w.cell? (ad.add (j * 43 + i)) = some u := fun j hj => by
      obtain ⟨c', _, hc1, hc2⟩ := hcell j css[j]! (by rw [getElem!_pos _ j hj]; exact List.getElem?_eq_getElem hj)
      have : c' = css[j]! := hc1.1
      subst this
      exact hc2
    obtain ⟨b, off, spot⟩ := ad
    have hc0 := key 0 h0 0 _ (ent_cells (hK 0 h0)).1.i0
    have hspot : spot = none := by simpa [Addr.add] using World.cell?_spot hc0
    subst hspot
    refine ⟨some ⟨b, off, none⟩, c, b, off, hv, hl, fun _ => rfl, fun j hj i u hiu => ?_, hK, hc, hi, .inl ?_, by omega⟩
    · have := key j hj i u hiu
      rw [Addr.add_mid] at this
      rw [show off + j * 43 + i = off + (j * 43 + i) by omega]
      exact this
    · have := block_lt_of_cell hc0
      simpa [Addr.add] using this
  · have h1 : css = [] := by simpa using h0
    subst h1
    exact ⟨A, c, 0, 0, hv, hl, fun g => by simp at g, fun j hj => by simp at hj, fun j hj => by simp at hj, hc, hi, .inr rfl, by simp⟩
end Go.Proofs.Ytpjachbmllklgaa.Rng
