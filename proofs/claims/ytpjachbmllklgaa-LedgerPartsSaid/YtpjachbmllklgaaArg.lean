/- What is saved, as an argument. -/
import Derived.Test.YtpjachbmllklgaaBigB
namespace Go.Proofs.Ytpjachbmllklgaa.Rng
open Go.RowKit Go.Proofs.YtpjachbmllklgaaW.PrintWords Go.Proofs.Ytpjachbmllklgaa.Kinds
set_option linter.unusedVariables false
set_option linter.unusedSimpArgs false

/-- Entries that are read; their councils may be of any length. -/
structure LX0 (W : World) (A : Option Addr) (b off : Nat) (css : List (List Value)) (xs : List Ent) : Prop where
  len : css.length = xs.length
  A : 0 < css.length → A = some ⟨b, off, none⟩
  row : Row W b off css
  K : ∀ j, j < css.length → kEnt.K W xs[j]! css[j]!
  wi : ∀ x ∈ xs, -9223372036854775808 ≤ x.1 ∧ x.1 ≤ 9223372036854775807
  b : b < W.heap.size ∨ css = []
  small : css.length ≤ 1000000
theorem lx0_of_C {w : World} {A : Option Addr} {n : Nat} {xs : List Ent} (hr : kEnt.C w A n xs) (hn : xs.length = n) (hs : xs.length ≤ 1000000)
    (hi : ∀ x ∈ xs, -9223372036854775808 ≤ x.1 ∧ x.1 ≤ 9223372036854775807) : ∃ (b off : Nat) (css : List (List Value)), LX0 w A b off css xs := by
  subst hn
  by_cases h0 : 0 < xs.length
  · obtain ⟨ad, rfl, hcell⟩ := hr.2.2 h0
    have key : ∀ j, j < xs.length → ∃ cs', cs'.length = 43 ∧ kEnt.K w (xs[j]!) cs' ∧ ∀ i u, cs'[i]? = some u → w.cell? (ad.add (j * 43 + i)) = some u := fun j hj => hcell j _ (by rw [getElem!_pos _ j hj]; exact List.getElem?_eq_getElem hj)
    have : ∀ k, k ≤ xs.length → ∃ css : List (List Value), css.length = k ∧ ∀ j, j < css.length → kEnt.K w (xs[j]!) css[j]! ∧ ∀ i u, css[j]![i]? = some u → w.cell? (ad.add (j * 43 + i)) = some u := by
      intro k
      induction k with
      | zero => exact fun _ => ⟨[], rfl, fun j hj => by simp at hj⟩
      | succ k ih =>
        intro hk
        obtain ⟨css, hl, hh⟩ := ih (by omega)
        obtain ⟨cs', _, h1, h2⟩ := key k (by omega)
        refine ⟨css ++ [cs'], by simp [hl], fun j hj => ?_⟩
        simp only [List.length_append, List.length_singleton] at hj
        by_cases e : j < css.length
        · have : (css ++ [cs'])[j]! = css[j]! := by rw [getElem!_pos _ j (by simp; omega), getElem!_pos _ j e, List.getElem_append_left e]
          rw [this]
          exact hh j e
        · have e2 : j = k := by omega
          subst e2
          have : (css ++ [cs'])[j]! = cs' := by rw [getElem!_pos _ j (by simp; omega), List.getElem_append_right (by omega)]; simp [hl]
          rw [this]
          exact ⟨h1, h2⟩
    obtain ⟨css, hl, hh⟩ := this _ (Nat.le_refl _)
    obtain ⟨b, off, spot⟩ := ad
    have hc0 := (hh 0 (by omega)).2 0 _ (ent_cells (hh 0 (by omega)).1).1.i0
    have hspot : spot = none := by simpa [Addr.add] using World.cell?_spot hc0
    subst hspot
    refine ⟨b, off, css, hl, fun _ => rfl, fun j hj i u hiu => ?_, fun j hj => (hh j hj).1, hi, .inl ?_, by omega⟩
    · have := (hh j hj).2 i u hiu
      rw [Addr.add_mid] at this
      rw [show off + j * 43 + i = off + (j * 43 + i) by omega]
      exact this
    · have := block_lt_of_cell hc0
      simpa [Addr.add] using this
  · have h1 : xs = [] := by simpa using h0
    subst h1
    exact ⟨0, 0, [], rfl, fun g => by simp at g, fun j hj => by simp at hj, fun j hj => by simp at hj, hi, .inr rfl, by simp⟩
theorem LX0.below {W W' : World} {A : Option Addr} {b off : Nat} {css : List (List Value)} {xs : List Ent} (h : LX0 W A b off css xs) (hb : Below W.heap.size W W') : LX0 W' A b off css xs := by
  refine ⟨h.len, h.A, ?_, fun j hj => kEnt.K_below hb (h.K j hj), h.wi, ?_, h.small⟩
  · rcases h.b with g | g
    · exact h.row.same (hb.block b g)
    · subst g; intro j hj; simp at hj
  · rcases h.b with g | g
    · exact .inl (Nat.lt_of_lt_of_le g hb.size)
    · exact .inr g
theorem LX0.lx {W : World} {A : Option Addr} {b off : Nat} {css : List (List Value)} {xs : List Ent} (h : LX0 W A b off css xs) (hc : ∀ x ∈ xs, x.2.2.2.2.1.length < 17592186044416 ∧ x.2.2.2.2.2.length < 17592186044416) : LX W A b off css xs :=
  ⟨h.len, h.A, h.row, h.K, hc, h.wi, h.b, h.small⟩
theorem LX0.lg {W : World} {s : Sv} {b off : Nat} {css : List (List Value)} {xs : List Ent} (h : LX0 W s.A b off css xs) (hn : s.n = css.length) : Lg W s b off css :=
  ⟨hn, h.A, h.row, fun j hj => (ent_cells (h.K j hj)).1, fun j hj => by
    rw [(ent_cells (h.K j hj)).2.1]
    refine h.wi _ ?_
    have := h.len
    rw [getElem!_pos xs j (by omega)]
    exact List.getElem_mem _, h.small, h.b⟩
theorem LX0.cx {W : World} {A : Option Addr} {b off : Nat} {css : List (List Value)} {xs : List Ent} (h : LX0 W A b off css xs) : IsCX css xs := ⟨h.len, fun j hj => by
  obtain ⟨hd, A1, c1, B1, d1, hl, he, _⟩ := ent_split (h.K j hj)
  refine ⟨A1, c1, B1, d1, ?_, ?_⟩
  · rw [he]; simp [List.getElem?_append, hl]
  · rw [he]; simp [List.getElem?_append, hl]⟩
/-- What is saved, as it lies. -/
structure SK (W : World) (s : Sv) (x : Saved) : Prop where
  t : s.t = x.1
  v : s.v = x.2.1
  si : s.si = x.2.2.1.1
  st : s.st = x.2.2.1.2.1
  Vn : s.Vn = x.2.2.1.2.2.1.1.length
  Vc : x.2.2.1.2.2.1.1.length ≤ s.Vc
  VC : (Kd.int .i64).C W s.Va x.2.2.1.2.2.1.1.length x.2.2.1.2.2.1.1
  Ln : s.Ln = x.2.2.1.2.2.1.2.length
  Lc : x.2.2.1.2.2.1.2.length ≤ s.Lc
  LC : (Kd.int .i64).C W s.La x.2.2.1.2.2.1.2.length x.2.2.1.2.2.1.2
  d : s.d = x.2.2.1.2.2.2
  n : s.n = x.2.2.2.1.length
  cap : x.2.2.2.1.length ≤ s.cap
  C : kEnt.C W s.A x.2.2.2.1.length x.2.2.2.1
  Gn : s.Gn = x.2.2.2.2.length
  Gc : x.2.2.2.2.length ≤ s.Gc
  GC : kSgn.C W s.Ga x.2.2.2.2.length x.2.2.2.2
theorem SK.below {W W' : World} {s : Sv} {x : Saved} (h : SK W s x) (hb : Below W.heap.size W W') : SK W' s x :=
  ⟨h.t, h.v, h.si, h.st, h.Vn, h.Vc, Kd.C_below h.VC hb, h.Ln, h.Lc, Kd.C_below h.LC hb, h.d, h.n, h.cap, Kd.C_below h.C hb, h.Gn, h.Gc, Kd.C_below h.GC hb⟩
theorem saved_sk {w : World} {cs : List Value} {x : Saved} (h : kSaved.K w x cs) : ∃ s : Sv, cs = s.cells.toList ∧ SK w s x := by
  obtain ⟨_, _, rfl, rfl, _, _, rfl, rfl, _, _, rfl, ⟨_, _, rfl, rfl, _, _, rfl, rfl, _, _, rfl, ⟨_, _, rfl, ⟨A1, c1, rfl, h1, h2⟩, ⟨A2, c2, rfl, h3, h4⟩⟩, rfl⟩, _, _, rfl, ⟨A, c, rfl, hc, hr⟩, ⟨B, d, rfl, h5, h6⟩⟩ := h
  exact ⟨⟨x.1, x.2.1, x.2.2.1.1, x.2.2.1.2.1, A1, x.2.2.1.2.2.1.1.length, c1, A2, x.2.2.1.2.2.1.2.length, c2, x.2.2.1.2.2.2, A, x.2.2.2.1.length, c, B, x.2.2.2.2.length, d⟩, rfl, rfl, rfl, rfl, rfl, rfl, h1, h2, rfl, h3, h4, rfl, rfl, hc, hr, rfl, h5, h6⟩
/-- Its entries, if they are few. -/
theorem SK.lx0 {W : World} {s : Sv} {x : Saved} (h : SK W s x) (hw : WSaved x) (hn : (s.n : Int) ≤ 1000) : ∃ (b off : Nat) (css : List (List Value)), LX0 W s.A b off css x.2.2.2.1 :=
  lx0_of_C h.C rfl (by rw [← h.n]; omega) (fun e he => bounds _ (hw.2.2.2.1.2 e he).1)
end Go.Proofs.Ytpjachbmllklgaa.Rng
