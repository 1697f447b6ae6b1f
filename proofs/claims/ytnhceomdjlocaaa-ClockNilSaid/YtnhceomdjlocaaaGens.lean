/- slices.IndexFunc, slices.Index and slices.ContainsFunc as this program calls them, each by a contract. -/
import Derived.Test.YtnhceomdjlocaaaAtoms
import Derived.Test.YtnhceomdjlocaaaTell
import Derived.Shelf.SlicesQ.Load
namespace Go.Proofs.Ytnhceomdjlocaaa.Clock
open Go.RowKit Go.Lib Go.Proofs.YtnhceomdjlocaaaW.PrintWords Go.Proofs.YtnhceomdjlocaaaW.PrintLast Go.Proofs.YtnhceomdjlocaaaW.PrintMore
set_option linter.unusedVariables false
set_option linter.unusedSimpArgs false

/-- The closure of Tell: is it this node, or is it its stop? -/
def isN (x y : Int) : Bool := y == x || -y == x
set_option maxHeartbeats 2000000 in
theorem clo22 (y x : Int) (B : Nat) (w : World) (hx : w.cell? ⟨B, 0, none⟩ = some (.int .i64 x)) (h0 : 1 ≤ y) (h1 : y ≤ 7) :
    Calls Try.prog 22 #[.int .i64 y, .pointer (some ⟨B, 0, none⟩)] w fun e w' => e = .returned (.bool (isN x y)) ∧ w' = w := by
  by_cases h : y = x
  · subst h
    go_enter Try.func22, Try.ntmps22
    go_wp2
    go_ret
    exact ⟨by simp [isN], rfl⟩
  · go_enter Try.func22, Try.ntmps22
    go_wp2
    go_ret
    exact ⟨by simp [isN], rfl⟩

set_option maxHeartbeats 8000000 in
/-- IndexFunc over nodes: the first that is it. -/
theorem idxF (ns : List Int) (x : Int) (B b c : Nat) (w : World) (r : Int) (hx : w.cell? ⟨B, 0, none⟩ = some (.int .i64 x))
    (hc : ∀ j, j < ns.length → w.cell? ⟨b, j, none⟩ = some (.int .i64 ns[j]!)) (hn : ∀ j, j < ns.length → 1 ≤ ns[j]! ∧ ns[j]! ≤ 7) (hl : ns.length ≤ 1000000)
    (hit : ∀ j, j < ns.length → isN x ns[j]! = true → (∀ i, i < j → isN x ns[i]! = false) → (j : Int) = r) (miss : (∀ j, j < ns.length → isN x ns[j]! = false) → -1 = r) :
    Calls Try.prog 21 #[.slice (some ⟨b, 0, none⟩) ns.length c, .func (.func 22) #[] #[.pointer (some ⟨B, 0, none⟩)]] w fun e w' => e = .returned (.int .i64 r) ∧ ∃ q, w' = w.drewN q := by
  have eg : ∀ args w, (callFunc 22 args).run Try.prog w = .ok (.enter 22 args) w := enters_of Try.func22 (by kernel_rfl) rfl
  have HIT := Aside0.mk hit
  have MISS := Aside0.mk miss
  have HN := Aside0.mk hn
  clear hit miss hn
  generalize hlen : ns.length = n at *
  go_enter Try.func21, Try.ntmps21
  go_wp2
  go_loopg [5, 8] n (fun gg _ s8 wr => ∃ kk q : Nat, kk ≤ n ∧ n - kk ≤ gg ∧ s8 = .int .i64 kk ∧ wr = w.drewN q ∧ Aside (∀ j, j < kk → isN x ns[j]! = false))
  case atStart => exact ⟨0, 0, Nat.zero_le _, by omega, rfl, rfl, fun j hj => absurd hj (Nat.not_lt_zero _)⟩
  case round =>
    obtain ⟨kk, q, hkk, hg, rfl, rfl, A⟩ := hrel
    by_cases hlt : kk < n
    · have hltz : (kk : Int) < (n : Int) := by omega
      have hcell : w.cell? ⟨b, kk, none⟩ = some (.int .i64 ns[kk]!) := hc kk (by omega)
      clear hc
      have hy01 := HN.out kk hlt
      generalize hy : ns[kk]! = y at hcell hy01
      have B_ : Aside (ns[kk]! = y) := hy
      clear hy
      have hcall := fun q => clo22 y x B (w.drewN q) hx hy01.1 hy01.2
      cases hq : isN x y with
      | true =>
        rw [hq] at hcall
        go_wp2_with (go_at_fn 22; refine (hcall _).mono ?_; rintro e w' ⟨rfl, rfl⟩)
        go_ret
        refine ⟨?_, _, rfl⟩
        rw [← HIT.out kk hlt (by rw [B_.out]; exact hq) A.out]; rfl
      | false =>
        rw [hq] at hcall
        go_wp2_with (go_at_fn 22; refine (hcall _).mono ?_; rintro e w' ⟨rfl, rfl⟩)
        go_roundg (n - (kk + 1))
        case measure => omega
        case rel =>
          refine ⟨kk + 1, _, by omega, by omega, by go_num, rfl, (show Aside _ from fun j hj => ?_)⟩
          by_cases e : j = kk
          · subst e
            rw [B_.out]; exact hq
          · exact A.out j (by omega)
    · have hltz : ¬ (kk : Int) < (n : Int) := by omega
      have : kk = n := by omega
      subst this
      go_wp2
      go_ret
      refine ⟨?_, q, rfl⟩
      rw [← MISS.out A.out]; rfl

set_option maxHeartbeats 8000000 in
/-- Index over nodes. -/
theorem idxI (ns : List Int) (x : Int) (b c : Nat) (w : World) (r : Int)
    (hc : ∀ j, j < ns.length → w.cell? ⟨b, j, none⟩ = some (.int .i64 ns[j]!)) (hl : ns.length ≤ 1000000)
    (hit : ∀ j, j < ns.length → x = ns[j]! → (∀ i, i < j → ¬ x = ns[i]!) → (j : Int) = r) (miss : (∀ j, j < ns.length → ¬ x = ns[j]!) → -1 = r) :
    Calls Try.prog 30 #[.slice (some ⟨b, 0, none⟩) ns.length c, .int .i64 x] w fun e w' => e = .returned (.int .i64 r) ∧ ∃ q, w' = w.drewN q := by
  have HIT := Aside0.mk hit
  have MISS := Aside0.mk miss
  clear hit miss
  generalize hlen : ns.length = n at *
  go_enter Try.func30, Try.ntmps30
  go_wp2
  go_loopg [5, 8] n (fun gg _ s8 wr => ∃ kk q : Nat, kk ≤ n ∧ n - kk ≤ gg ∧ s8 = .int .i64 kk ∧ wr = w.drewN q ∧ Aside (∀ j, j < kk → ¬ x = ns[j]!))
  case atStart => exact ⟨0, 0, Nat.zero_le _, by omega, rfl, rfl, fun j hj => absurd hj (Nat.not_lt_zero _)⟩
  case round =>
    obtain ⟨kk, q, hkk, hg, rfl, rfl, A⟩ := hrel
    by_cases hlt : kk < n
    · have hltz : (kk : Int) < (n : Int) := by omega
      have hcell : w.cell? ⟨b, kk, none⟩ = some (.int .i64 ns[kk]!) := hc kk (by omega)
      clear hc
      generalize hy : ns[kk]! = y at hcell
      have B_ : Aside (ns[kk]! = y) := hy
      clear hy
      by_cases hq : x = y
      · go_wp2
        go_ret
        refine ⟨?_, _, rfl⟩
        rw [← HIT.out kk hlt (by rw [B_.out]; exact hq) A.out]; rfl
      · go_wp2
        go_roundg (n - (kk + 1))
        case measure => omega
        case rel =>
          refine ⟨kk + 1, _, by omega, by omega, by go_num, rfl, (show Aside _ from fun j hj => ?_)⟩
          by_cases e : j = kk
          · subst e
            rw [B_.out]; exact hq
          · exact A.out j (by omega)
    · have hltz : ¬ (kk : Int) < (n : Int) := by omega
      have : kk = n := by omega
      subst this
      go_wp2
      go_ret
      refine ⟨?_, q, rfl⟩
      rw [← MISS.out A.out]; rfl
instance : Inhabited PairS := ⟨⟨0, 0, false, false, 0, 0, 0, 0, false⟩⟩
theorem cellsP_length (p : PairS) : (cellsP p).length = 9 := rfl
set_option maxHeartbeats 2000000 in
/-- The closure of Alike: is it unlike? -/
theorem clo29 (p : PairS) (W : World) :
    Calls Try.prog 29 #[.agg (cellsP p).toArray] W fun e w' => e = .returned (.bool p.u) ∧ Below W.heap.size W w' := by
  unfold cellsP
  go_enter Try.func29, Try.ntmps29
  go_wp2
  go_ret
  exact ⟨rfl, (Below.refl _ W).alloc (Nat.le_refl _) _⟩

set_option maxHeartbeats 8000000 in
/-- IndexFunc over pairs. -/
theorem idxP (ps : List PairS) (b c : Nat) (w : World) (r : Int) (hb : b < w.heap.size) (hl : ps.length ≤ 1000000)
    (hc : ∀ j, j < ps.length → ∀ i v, (cellsP ps[j]!)[i]? = some v → w.cell? ⟨b, 0 + j * 9 + i, none⟩ = some v)
    (hit : ∀ j, j < ps.length → ps[j]!.u = true → (∀ i, i < j → ps[i]!.u = false) → (j : Int) = r) (miss : (∀ j, j < ps.length → ps[j]!.u = false) → -1 = r) :
    Calls Try.prog 36 #[.slice (some ⟨b, 0, none⟩) ps.length c, .func (.func 29) #[] #[]] w fun e w' => e = .returned (.int .i64 r) ∧ Below w.heap.size w w' := by
  have eg : ∀ args w, (callFunc 29 args).run Try.prog w = .ok (.enter 29 args) w := enters_of Try.func29 (by kernel_rfl) rfl
  have HIT := Aside0.mk hit
  have MISS := Aside0.mk miss
  clear hit miss
  have hrow : ∀ (W : World), Below w.heap.size w W → ∀ j, j < ps.length → ∀ i v, (cellsP ps[j]!)[i]? = some v → W.cell? ⟨b, j * 9 + i, none⟩ = some v := fun W hW j hj i v hi => by
    rw [hW.cell (p := ⟨b, j * 9 + i, none⟩) hb]
    simpa using hc j hj i v hi
  clear hc
  generalize hlen : ps.length = n at *
  go_enter Try.func36, Try.ntmps36
  go_wp2
  go_loopg [5, 8] n (fun gg _ s8 wr => ∃ kk : Nat, kk ≤ n ∧ n - kk ≤ gg ∧ s8 = .int .i64 kk ∧ Aside (Below w.heap.size w wr) ∧ Aside (∀ j, j < kk → ps[j]!.u = false))
  case atStart => exact ⟨0, Nat.zero_le _, by omega, rfl, Below.refl _ w, fun j hj => absurd hj (Nat.not_lt_zero _)⟩
  case round =>
    obtain ⟨kk, hkk, hg, rfl, BW, A⟩ := hrel
    by_cases hlt : kk < n
    · have hltz : (kk : Int) < (n : Int) := by omega
      have l2 := hrow wr BW.out kk (by omega)
      have hcall := clo29 ps[kk]! wr
      clear hrow
      generalize hy : ps[kk]! = y at l2 hcall
      have B_ : Aside (ps[kk]! = y) := hy
      clear hy
      have d0 := l2 0 _ rfl; have d1 := l2 1 _ rfl; have d2 := l2 2 _ rfl; have d3 := l2 3 _ rfl; have d4 := l2 4 _ rfl
      have d5 := l2 5 _ rfl; have d6 := l2 6 _ rfl; have d7 := l2 7 _ rfl; have d8 := l2 8 _ rfl
      clear l2
      unfold cellsP at hcall
      rw [Nat.add_zero] at d0
      have hbb : ∀ w', Below wr.heap.size wr w' → Below w.heap.size w w' := fun w' h => BW.out.trans (h.mono BW.out.size)
      have HBB := Aside0.mk hbb
      clear hbb
      cases hq : y.u with
      | true =>
        generalize hyu : y.u = yu at *
        subst hq
        go_wp2_with (go_at_fn 29; refine hcall.mono ?_; rintro e w' ⟨rfl, hb'⟩)
        go_ret
        refine ⟨?_, HBB.out _ hb'⟩
        rw [← HIT.out kk hlt (by rw [B_.out]; exact hyu) A.out]; rfl
      | false =>
        generalize hyu : y.u = yu at *
        subst hq
        go_wp2_with (go_at_fn 29; refine hcall.mono ?_; rintro e w' ⟨rfl, hb'⟩)
        go_roundg (n - (kk + 1))
        case measure => omega
        case rel =>
          refine ⟨kk + 1, by omega, by omega, by go_num, HBB.out _ hb', (show Aside _ from fun j hj => ?_)⟩
          by_cases e : j = kk
          · subst e
            rw [B_.out]; exact hyu
          · exact A.out j (by omega)
    · have hltz : ¬ (kk : Int) < (n : Int) := by omega
      have : kk = n := by omega
      subst this
      go_wp2
      go_ret
      refine ⟨?_, BW.out⟩
      rw [← MISS.out A.out]; rfl
/-- The first that is unlike. -/
theorem firstU : ∀ ps : List PairS, (∃ j, j < ps.length ∧ ps[j]!.u = true ∧ ∀ i, i < j → ps[i]!.u = false) ∨ ∀ j, j < ps.length → ps[j]!.u = false
  | [] => .inr (fun j h => absurd h (Nat.not_lt_zero _))
  | p :: ps => by
    by_cases h : p.u = true
    · exact .inl ⟨0, by simp, by simpa using h, fun i hi => absurd hi (Nat.not_lt_zero _)⟩
    · have h : p.u = false := by simpa using h
      rcases firstU ps with ⟨j, h1, h2, h3⟩ | h1
      · refine .inl ⟨j + 1, by simpa using h1, by simpa using h2, fun i hi => ?_⟩
        cases i with
        | zero => simpa using h
        | succ i => simpa using h3 i (by omega)
      · refine .inr fun j hj => ?_
        cases j with
        | zero => simpa using h
        | succ j => simpa using h1 j (by simpa using hj)
theorem any_u (ps : List PairS) : ps.any (·.u) = true ↔ ∃ j, j < ps.length ∧ ps[j]!.u = true := by
  rw [List.any_eq_true]
  constructor
  · rintro ⟨p, hp, hu⟩
    obtain ⟨j, hj, rfl⟩ := List.mem_iff_getElem.1 hp
    exact ⟨j, hj, by rw [getElem!_pos ps j hj]; exact hu⟩
  · rintro ⟨j, hj, hu⟩
    rw [getElem!_pos ps j hj] at hu
    exact ⟨_, List.getElem_mem hj, hu⟩
set_option maxHeartbeats 8000000 in
theorem containsP (ps : List PairS) (b c : Nat) (w : World) (hb : b < w.heap.size) (hl : ps.length ≤ 1000000)
    (hc : ∀ j, j < ps.length → ∀ i v, (cellsP ps[j]!)[i]? = some v → w.cell? ⟨b, 0 + j * 9 + i, none⟩ = some v) :
    Calls Try.prog 28 #[.slice (some ⟨b, 0, none⟩) ps.length c, .func (.func 29) #[] #[]] w fun e w' => e = .returned (.bool (ps.any (·.u))) ∧ Below w.heap.size w w' := by
  have e6 : ∀ args w, (callFunc 36 args).run Try.prog w = .ok (.enter 36 args) w := enters_of Try.func36 (by kernel_rfl) rfl
  rcases firstU ps with ⟨j, h1, h2, h3⟩ | h1
  · have hcall := idxP ps b c w j hb hl hc (fun i g1 g2 g3 => by
      rcases Nat.lt_trichotomy i j with h | h | h
      · rw [h3 i h] at g2; cases g2
      · rw [h]
      · rw [g3 j h] at h2; cases h2) (fun g => by rw [g j h1] at h2; cases h2)
    have hany : ps.any (·.u) = true := (any_u ps).2 ⟨j, h1, h2⟩
    rw [hany]
    have hj : (0 : Int) ≤ j := by omega
    clear hany hc h1 h2 h3
    go_enter Try.func28, Try.ntmps28
    go_wp2_with (go_at_fn 36; refine hcall.mono ?_; rintro e w' ⟨rfl, hb'⟩)
    go_ret
    exact ⟨rfl, hb'⟩
  · have hcall := idxP ps b c w (-1) hb hl hc (fun i g1 g2 g3 => by rw [h1 i g1] at g2; cases g2) (fun g => rfl)
    have hany : ps.any (·.u) = false := by
      cases h : ps.any (·.u) with
      | false => rfl
      | true =>
        obtain ⟨j, g1, g2⟩ := (any_u ps).1 h
        rw [h1 j g1] at g2; cases g2
    rw [hany]
    clear hany hc h1
    go_enter Try.func28, Try.ntmps28
    go_wp2_with (go_at_fn 36; refine hcall.mono ?_; rintro e w' ⟨rfl, hb'⟩)
    go_ret
    exact ⟨rfl, hb'⟩
/-- Of no pairs none is unlike. -/
theorem idxP_empty (a : Option Addr) (c : Nat) (w : World) :
    Calls Try.prog 36 #[.slice a 0 c, .func (.func 29) #[] #[]] w fun e w' => e = .returned (.int .i64 (-1)) ∧ w' = w := by
  go_enter Try.func36, Try.ntmps36
  go_wp2
  go_loopg [5, 8] 0 (fun _ _ s8 wr => s8 = .int .i64 0 ∧ wr = w)
  case atStart => exact ⟨rfl, rfl⟩
  case round =>
    obtain ⟨rfl, rfl⟩ := hrel
    go_wp2
    go_ret
    exact ⟨rfl, rfl⟩
theorem containsP_empty (a : Option Addr) (c : Nat) (w : World) :
    Calls Try.prog 28 #[.slice a 0 c, .func (.func 29) #[] #[]] w fun e w' => e = .returned (.bool false) ∧ w' = w := by
  have e6 : ∀ args w, (callFunc 36 args).run Try.prog w = .ok (.enter 36 args) w := enters_of Try.func36 (by kernel_rfl) rfl
  go_enter Try.func28, Try.ntmps28
  go_wp2_with (go_at_fn 36; refine (idxP_empty a c _).mono ?_; rintro e w' ⟨rfl, rfl⟩)
  go_ret
  exact ⟨rfl, rfl⟩
end Go.Proofs.Ytnhceomdjlocaaa.Clock
