/- The log of LedgerRoom. -/
import Derived.Test.YtpjachbmllklgaaAbv
import Derived.Test.YtpjachbmllklgaaAsks
namespace Go.Proofs.Ytpjachbmllklgaa.Rng
open Go.RowKit Go.Proofs.YtpjachbmllklgaaW.PrintWords Go.Proofs.Ytpjachbmllklgaa.Kinds Go.Proofs.Ytpjachbmllklgaa.PCou
set_option linter.unusedVariables false
set_option linter.unusedSimpArgs false
attribute [local go_sem] Oper.semAt_some

/-- A row of entries that is read, as it lies. -/
theorem lx_of_C {w : World} {A : Option Addr} {n : Nat} {xs : List Ent} (hr : kEnt.C w A n xs) (hn : xs.length = n) (hs : xs.length ≤ 1000000) (hc : ∀ x ∈ xs, x.2.2.2.2.1.length < 17592186044416 ∧ x.2.2.2.2.2.length < 17592186044416)
    (hi : ∀ x ∈ xs, -9223372036854775808 ≤ x.1 ∧ x.1 ≤ 9223372036854775807) : ∃ (b off : Nat) (css : List (List Value)), LX w A b off css xs := by
  subst hn
  by_cases h0 : 0 < xs.length
  · obtain ⟨ad, rfl, hcell⟩ := hr.2.2 h0
    have key : ∀ j, j < xs.length → ∃ cs', cs'.length = 43 ∧ kEnt.K w (xs[j]!) cs' ∧ ∀ i u, cs'[i]? = some u → w.cell? (ad.add (j * 43 + i)) = some u := fun j hj => hcell j _ (by rw [getElem!_pos _ j hj]; exact List.getElem?_eq_getElem hj)
    have : ∀ k, k ≤ xs.length → ∃ css : List (List Value), css.length = k ∧ ∀ j, j < css.length → kEnt.K w (xs[j]!) css[j]! ∧ ∀ i u, css[j]![i]? = some u → w.cell? (ad.add (j * 43 + i)) = some u := by
      intro k
      induction k with
      | zero => exact fun _ => ⟨[], rfl, fun j hj => by simp at hj⟩
      | succ k ih =>
        intro hk
        obtain ⟨css, hl, hh⟩ := ih (by omega)
        obtain ⟨cs', _, h1, h2⟩ := key k (by omega)
        refine ⟨css ++ [cs'], by simp [hl], fun j hj => ?_⟩
        simp only [List.length_append, List.length_singleton] at hj
        by_cases e : j < css.length
        · have : (css ++ [cs'])[j]! = css[j]! := by rw [getElem!_pos _ j (by simp; omega), getElem!_pos _ j e, List.getElem_append_left e]
          rw [this]
          exact hh j e
        · have e2 : j = k := by omega
          subst e2
          have : (css ++ [cs'])[j]! = cs' := by rw [getElem!_pos _ j (by simp; omega), List.getElem_append_right (by omega)]; simp [hl]
          rw [this]
          exact ⟨h1, h2⟩
    obtain ⟨css, hl, hh⟩ := this _ (Nat.le_refl _)
    obtain ⟨b, off, spot⟩ := ad
    have hc0 := (hh 0 (by omega)).2 0 _ (ent_cells (hh 0 (by omega)).1).1.i0
    have hspot : spot = none := by simpa [Addr.add] using World.cell?_spot hc0
    subst hspot
    refine ⟨b, off, css, hl, fun _ => rfl, fun j hj i u hiu => ?_, fun j hj => (hh j hj).1, hc, hi, .inl ?_, by omega⟩
    · have := (hh j hj).2 i u hiu
      rw [Addr.add_mid] at this
      rw [show off + j * 43 + i = off + (j * 43 + i) by omega]
      exact this
    · have := block_lt_of_cell hc0
      simpa [Addr.add] using this
  · have h1 : xs = [] := by simpa using h0
    subst h1
    exact ⟨0, 0, [], rfl, fun g => by simp at g, fun j hj => by simp at hj, fun j hj => by simp at hj, hc, hi, .inr rfl, by simp⟩
/-- An entry that bears a number and a term alone. -/
def entX (i t : Int) : Ent := (i, t, 0, (0, 0, 0, ⟨#[]⟩, ⟨#[]⟩, 0, List.replicate 32 0), ([], []))
theorem ent_M (w : World) (base : Nat) (ok : Nat → Prop) (i t : Int) : kEnt.M w base ok (entX i t) (ent i t) := by
  refine ⟨[.int .i64 i], _, rfl, rfl, [.int .i64 t], _, rfl, rfl, [.int .i64 0], _, rfl, rfl, [.int .i64 0, .int .i64 0, .int .i64 0, .string ⟨#[]⟩, .string ⟨#[]⟩, .int .i64 0] ++ List.replicate 32 (.int .u8 0), [.slice none 0 0, .slice none 0 0], rfl, ?_, [.slice none 0 0], [.slice none 0 0], rfl, ⟨_, rfl, Kd.R_nil _ _ _ _ _⟩, ⟨_, rfl, Kd.R_nil _ _ _ _ _⟩⟩
  refine ⟨[.int .i64 0], _, rfl, rfl, [.int .i64 0], _, rfl, rfl, [.int .i64 0], _, rfl, rfl, [.string ⟨#[]⟩], _, rfl, rfl, [.string ⟨#[]⟩], _, rfl, rfl, [.int .i64 0], List.replicate 32 (.int .u8 0), rfl, rfl, ?_⟩
  exact Kd.arr_of_cells (n := 32) (xs := List.replicate 32 0) (by simp)
def roomX (k : Nat) : List Ent := (List.range k).map fun (i : Nat) => entX ((i : Int) + 1) 3
theorem roomX_succ (k : Nat) : roomX (k + 1) = roomX k ++ [entX ((k : Int) + 1) 3] := by simp [roomX, List.range_succ]
theorem roomX_length (k : Nat) : (roomX k).length = k := by simp [roomX]
theorem roomX_get (k j : Nat) (h : j < k) : (roomX k)[j]! = entX ((j : Int) + 1) 3 := by
  rw [getElem!_pos _ j (by rw [roomX_length]; exact h)]
  simp [roomX]
theorem room_itX (k j : Nat) (h : j < k) : (itX (roomX k))[j]! = ((j : Int) + 1, 3) := by
  rw [getElem!_pos _ j (by simp [itX, roomX_length]; exact h)]
  simp [itX, roomX, entX]
theorem room_goes (k : Nat) : goesB 0 (itX (roomX k)) = true := by
  rw [goesB_iff]
  intro j hj
  simp only [itX, List.length_map, roomX_length] at hj
  rw [room_itX k j hj]
  simp only
  omega
theorem room_check (k : Nat) : checkB 0 (itX (roomX k)) = decide (k ≤ 9000) := by
  unfold checkB
  rw [room_goes]
  simp [itX, roomX_length]
theorem room_bey (k : Nat) (h : 0 < k) : beyV (roomX k) 0 = 0 := by
  have := beyV_hit (roomX k) 0 0 (by rw [roomX_length]; exact h) (by rw [roomX_get k 0 h]; simp [entX]) (fun j hj => absurd hj (Nat.not_lt_zero _))
  simpa using this
theorem room_above (k : Nat) (h : k ≤ 9000) (s : Sv) (hs : s.si = 0) : (aboveX (sndX s (roomX k)) 0 k).length = k := by
  unfold sndX
  rw [hs, room_check, if_pos (by simpa using h)]
  unfold aboveX
  cases k with
  | zero => simp [roomX]
  | succ k =>
    rw [room_bey _ (by omega), if_neg (by omega)]
    simp [roomX_length]
theorem room_above_not (k : Nat) (h : ¬ k ≤ 9000) (s : Sv) (hs : s.si = 0) : aboveX (sndX s (roomX k)) 0 k = [] := by
  unfold sndX
  rw [hs, room_check, if_neg (by simpa using h)]
  unfold aboveX
  rw [if_pos (.inl (by simp [beyV]))]
theorem room_cou (k : Nat) : ∀ x ∈ roomX k, x.2.2.2.2.1.length < 17592186044416 ∧ x.2.2.2.2.2.length < 17592186044416 := by
  intro x hx
  simp only [roomX, List.mem_map, List.mem_range] at hx
  obtain ⟨i, _, rfl⟩ := hx
  simp [entX]
theorem room_wi (k : Nat) (h : k ≤ 9100) : ∀ x ∈ roomX k, -9223372036854775808 ≤ x.1 ∧ x.1 ≤ 9223372036854775807 := by
  intro x hx
  simp only [roomX, List.mem_map, List.mem_range] at hx
  obtain ⟨i, hi, rfl⟩ := hx
  simp only [entX]
  omega
def roomSv (A : Option Addr) (n c : Nat) : Sv := ⟨0, 0, 0, 0, none, 0, 0, none, 0, 0, ⟨#[]⟩, A, n, c, none, 0, 0⟩

theorem room_last {A : Option Addr} {kk c b off : Nat} {css : List (List Value)} {W : World} (h : LX W A b off css (roomX kk)) : lastV ((roomSv A kk c).sound css) (soundE (roomSv A kk c) css) = if kk ≤ 9000 then ((kk : Int), if kk = 0 then 0 else 3) else (0, 0) := by
  have hl : css.length = kk := by rw [h.len, roomX_length]
  unfold Sv.sound soundE
  rw [show (roomSv A kk c).si = 0 from rfl, h.its_eq, room_check]
  by_cases g : kk ≤ 9000
  · rw [if_pos (by simpa using g), if_pos (by simpa using g), if_pos g]
    unfold lastV
    cases hm : css.length with
    | zero =>
      have : kk = 0 := by omega
      subst this
      rfl
    | succ m =>
      have h1 := (h.isE m (by omega)).2.1
      rw [roomX_get kk m (by omega)] at h1
      dsimp only
      rw [h1, if_neg (by omega)]
      simp only [entX, Prod.mk.injEq, and_true]
      omega
  · rw [if_neg (by simpa using g), if_neg (by simpa using g), if_neg g]
    rfl
theorem room_check_eq {A : Option Addr} {kk c b off : Nat} {css : List (List Value)} {W : World} (h : LX W A b off css (roomX kk)) : checkB (roomSv A kk c).si (its css) = decide (kk ≤ 9000) := by
  rw [show (roomSv A kk c).si = 0 from rfl, h.its_eq, room_check]
end Go.Proofs.Ytpjachbmllklgaa.Rng
