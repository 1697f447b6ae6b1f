/- The reference's Run. -/
import Derived.Test.YtpjachbmllklgaaRunP
namespace Go.Proofs.Ytpjachbmllklgaa.Rng
open Go.RowKit Go.Proofs.YtpjachbmllklgaaW.PrintWords Go.Proofs.Ytpjachbmllklgaa.Kinds
set_option linter.unusedVariables false
set_option linter.unusedSimpArgs false
attribute [local go_sem] Oper.semAt_some

/-- The smaller one. -/
def minI (x y : Int) : Int := if y < x then y else x
@[local go_sem] theorem min2_minI (k k' : IntKind) (x y : Int) : Builtin.min2 (.int k x) (.int k' y) = pure (.int k (minI x y)) := by simp only [Builtin.min2, minI]
@[local go_sem] theorem min_two' (ats : Array TypeId) (ty : TypeId) (a b : Value) : Builtin.min_ ats ty #[a, b] = (Builtin.min2 a b >>= fun s => pure s) := by simp only [Builtin.min_, List.foldlM_cons, List.foldlM_nil]

set_option maxHeartbeats 1000000 in
set_option maxRecDepth 100000 in
theorem rrun_c (s : Sv) (b off : Nat) (css : List (List Value)) (w : World) (h : Lg w s b off css) (index : Int) (hr : -9223372036854775808 ≤ index ∧ index ≤ 9223372036854775807) :
    Calls Try.prog 23 #[.agg s.cells, .int .i64 index] w fun e w' => e = .returned (.int .i64 (runV s css index)) ∧ Below w.heap.size w w' := by
  have e12 : ∀ args w, (callFunc 12 args).run Try.prog w = .ok (.enter 12 args) w := enters_of Try.func12 (by kernel_rfl) rfl
  have e14 : ∀ args w, (callFunc 14 args).run Try.prog w = .ok (.enter 14 args) w := enters_of Try.func14 (by kernel_rfl) rfl
  have e41 : ∀ args w, (callFunc 41 args).run Try.prog w = .ok (.enter 41 args) w := enters_of Try.func41 (by kernel_rfl) rfl
  have hi30 : ∀ cells : Array Value, cells.size = 9 → (Try.prog.info? 30).map (·.size) = some cells.size := fun c hc => by rw [hc]; exact size30
  rw [runV_eq]
  generalize hrv : runW (s.sound css).si (s.sound css).st (its (soundE s css)) index = rv
  have RV := Aside0.mk hrv
  have H := Aside0.mk h
  clear h hrv
  rw [cells_eq]
  go_enter Try.func23, Try.ntmps23
  go_wp2_with fail
  rw [← cells_eq]
  have hb0 : Below w.heap.size w (w.alloc (.cells s.cells 30)) := (Below.refl _ w).alloc (Nat.le_refl _) _
  have hs0 : (w.alloc (.cells s.cells 30)).heap.size = w.heap.size + 1 := by simp
  have hbox := blk_new w (.cells s.cells 30)
  generalize w.alloc (.cells s.cells 30) = W0 at hb0 hs0 hbox ⊢
  have hL0 := H.out.below hb0
  have CA := Aside0.mk (asked_c s b off css W0 hL0)
  go_wp2_with (refine wpList_load_row rfl 30 (.tmp 2) rfl w.heap.size rfl 30 _ (0, 0) _ hbox Try.underlying30 rfl (hi30 _ rfl) ?_)
  refine CA.out.mono ?_
  rintro e w2 ⟨rfl, hb2⟩
  obtain ⟨hsi0, hsi1, hlen2, hgo⟩ := sound_si s css
  obtain ⟨hid1, hid2⟩ := sound_id s css
  have hbox2 := (hb2.block w.heap.size (by omega)).trans hbox
  have hsz2 : w.heap.size < w2.heap.size := by have := hb2.size; omega
  have q2 : Below w.heap.size w w2 := hb0.trans (hb2.mono hb0.size)
  have HL : Aside0 (∀ W, Below w.heap.size w W → Lg W (s.sound css) b off (soundE s css)) := ⟨fun W hW => (H.out.below hW).sound⟩
  generalize s.sound css = s2 at *
  generalize soundE s css = css2 at *
  clear hL0 H CA hb2 hb0 hbox hs0
  have hcc := cells_eq s2
  rw [hcc]
  go_wp2_with (refine wpList_store_box rfl 30 (.tmp 2) (.tmp 13) rfl w.heap.size _ _ 30 rfl rfl hbox2 (hi30 _ rfl) rfl (by simp [Value.oneCell']) ?_)
  intro W3 hg3 ho3 hb3 hs3
  have q3 : Below w.heap.size w W3 := q2.trans hb3
  have hl3 : w.heap.size < W3.heap.size := by omega
  have c2 : W3.cell? ⟨w.heap.size, 2, none⟩ = some (.int .i64 s2.si) := by simp [World.cell?, hg3]
  have C12 := Aside0.mk (rlast_c s2 b off css2 W3 (HL.out W3 q3))
  have C14 : Aside0 (∀ W, Below w.heap.size w W → ∀ i, (-9223372036854775808 ≤ i ∧ i ≤ 9223372036854775807) → Calls Try.prog 14 #[.agg s2.cells, .int .i64 i] W fun e w' => e = .returned (.tuple #[.int .i64 (termV s2.si s2.st (its css2) i).1, .bool (termV s2.si s2.st (its css2) i).2]) ∧ Below W.heap.size W w') :=
    ⟨fun W hW i hi => by have := rterm_c s2 b off css2 W (HL.out W hW) i hi; rwa [hid1, hid2] at this⟩
  rw [hid1, hid2, last_term s2 css2 hgo] at C12
  rw [hcc] at C12 C14
  clear ho3 hb3 hs3 q2 hbox2 hsz2 HL hgo hid1 hid2
  have hm : (its css2).length = css2.length := its_length css2
  generalize its css2 = l at *
  generalize css2.length = m at *
  have K3 := Aside0.mk hg3
  have HM := Aside0.mk hm
  have CC := Aside0.mk hcc
  clear hg3 hm hcc css2
  by_cases g1 : index < s2.si
  · obtain rfl : s2.si = rv := by rw [← RV.out]; unfold runW; rw [if_pos g1]
    go_wp2_with fail
    go_ret
    exact ⟨rfl, q3⟩
  have hrw : rv = s2.si + runN (tmK s2.si s2.st l) (min m (index - s2.si).toNat) := by rw [← RV.out]; unfold runW; rw [if_neg g1, HM.out]
  have RW := Aside0.mk hrw
  clear RV hrw
  obtain ⟨nk, hnk⟩ : ∃ n : Nat, min m (index - s2.si).toNat = n := ⟨_, rfl⟩
  have hmin : minI index (s2.si + (m : Int)) = s2.si + (nk : Int) := by
    rw [← hnk]
    unfold minI
    split <;> omega
  have hnm : nk ≤ m := by omega
  rw [hnk] at RW
  have C14k : Aside0 (∀ W, Below w.heap.size w W → ∀ (k : Nat) (i : Int), k ≤ m → s2.si + (k : Int) = i → ∃ bb : Bool, Calls Try.prog 14 #[.agg #[.int .i64 s2.t, .int .i64 s2.v, .int .i64 s2.si, .int .i64 s2.st, .slice s2.Va s2.Vn s2.Vc, .slice s2.La s2.Ln s2.Lc, .string s2.d, .slice s2.A s2.n s2.cap, .slice s2.Ga s2.Gn s2.Gc], .int .i64 i] W fun e w' => e = .returned (.tuple #[.int .i64 (tmK s2.si s2.st l k), .bool bb]) ∧ Below W.heap.size W w') :=
    ⟨fun W hW k i hk hi => by subst hi; exact ⟨_, C14.out W hW (s2.si + k) (by omega)⟩⟩
  generalize tmK s2.si s2.st l = T at *
  clear hnk C14
  dsimp only at C12
  generalize (termV s2.si s2.st l (s2.si + (m : Int))).1 = tl at C12
  have k3 := K3.out
  go_wp2_with (refine wpList_load_row rfl 30 (.tmp 2) rfl w.heap.size rfl 30 _ (0, 0) _ k3 Try.underlying30 rfl (hi30 _ rfl) ?_)
  refine C12.out.mono ?_
  rintro e w4 ⟨rfl, hb4⟩
  have q4 : Below w.heap.size w w4 := q3.trans (hb4.mono q3.size)
  have k4 := (hb4.block w.heap.size hl3).trans k3
  have hl4 : w.heap.size < w4.heap.size := by have := hb4.size; omega
  clear C12 hb4 q3 k3 c2 K3 hl3
  have HMIN := Aside0.mk hmin
  obtain ⟨x0, hx0⟩ : ∃ x0, s2.si + (nk : Int) = x0 := ⟨_, rfl⟩
  rw [hx0] at hmin
  have HX0 := Aside0.mk hx0
  clear hx0
  obtain ⟨bb, hc⟩ := C14k.out w4 q4 nk x0 hnm HX0.out
  have HC := Aside0.mk hc
  clear hc
  go_wp2_with (refine wpList_load_row rfl 30 (.tmp 2) rfl w.heap.size rfl 30 _ (0, 0) _ k4 Try.underlying30 rfl (hi30 _ rfl) ?_)
  refine HC.out.mono ?_
  rintro e w5 ⟨rfl, hb5⟩
  have q5 : Below w.heap.size w w5 := q4.trans (hb5.mono q4.size)
  have k5 := (hb5.block w.heap.size hl4).trans k4
  have hl5 : w.heap.size < w5.heap.size := by have := hb5.size; omega
  clear HC hb5 q4 k4 hl4 hmin
  have K5 := Aside0.mk k5
  clear k5
  generalize hT0 : T nk = T0
  have TT := Aside0.mk hT0
  clear hT0
  go_wp2_with fail
  go_loopg [7] nk (fun gg s7 wr => ∃ k : Nat, k ≤ nk ∧ k ≤ gg ∧ s7 = .int .i64 (s2.si + (k : Int)) ∧ Aside0 (T k = T0 ∧ runN T nk = runN T k) ∧ Aside (Below w.heap.size w wr) ∧ Aside (wr.heap[w.heap.size]? = some (.cells #[.int .i64 s2.t, .int .i64 s2.v, .int .i64 s2.si, .int .i64 s2.st, .slice s2.Va s2.Vn s2.Vc, .slice s2.La s2.Ln s2.Lc, .string s2.d, .slice s2.A s2.n s2.cap, .slice s2.Ga s2.Gn s2.Gc] 30 (0, 0))))
  case atStart => exact ⟨nk, Nat.le_refl _, Nat.le_refl _, by rw [HX0.out], ⟨TT.out, rfl⟩, q5, K5.out⟩
  case round =>
    obtain ⟨k, hk, hgg, rfl, E, B, K⟩ := hrel
    have kr := K.out
    have c2 : wr.cell? ⟨w.heap.size, 2, none⟩ = some (.int .i64 s2.si) := by simp [World.cell?, kr]
    rcases k with _ | k
    · have hrv : rv = s2.si := by rw [RW.out, E.out.2]; simp [runN]
      have HRV := Aside0.mk hrv
      clear hrv hgg
      have hx : s2.si + ((0 : Nat) : Int) = s2.si := by omega
      rw [hx]
      have hng : ¬ s2.si > s2.si := by omega
      go_wp2_with fail
      go_ret
      exact ⟨by rw [HRV.out]; rfl, B.out⟩
    · obtain ⟨x, hx⟩ : ∃ x, s2.si + ((k + 1 : Nat) : Int) = x := ⟨_, rfl⟩
      rw [hx]
      have hgt : x > s2.si := by omega
      have hw : wrap64 (x - 1) = s2.si + (k : Int) := by unfold wrap64; omega
      obtain ⟨y, hy⟩ : ∃ y, s2.si + (k : Int) = y := ⟨_, rfl⟩
      rw [hy] at hw
      have HX := Aside0.mk hx
      have HY := Aside0.mk hy
      clear hx hy
      obtain ⟨bb, hc⟩ := C14k.out wr B.out k y (by omega) HY.out
      have HC := Aside0.mk hc
      clear hc
      have hlr : w.heap.size < wr.heap.size := (Array.getElem?_eq_some_iff.1 kr).1
      go_wp2_with (refine wpList_load_row rfl 30 (.tmp 2) rfl w.heap.size rfl 30 _ (0, 0) _ kr Try.underlying30 rfl (hi30 _ rfl) ?_)
      refine HC.out.mono ?_
      rintro e w6 ⟨rfl, hb6⟩
      have q6 : Below w.heap.size w w6 := B.out.trans (hb6.mono B.out.size)
      have k6 := Aside0.mk ((hb6.block w.heap.size hlr).trans kr)
      clear HC hb6 kr c2 K B
      by_cases ht : T k = T0
      · have hrn : runN T nk = runN T k := by rw [E.out.2]; unfold runN; rw [if_pos (by rw [E.out.1]; exact ht)]; cases k <;> rfl
        have E2 : Aside0 (T k = T0 ∧ runN T nk = runN T k) := ⟨ht, hrn⟩
        clear hrn
        go_wp2_with fail
        go_roundg k
        case measure => omega
        case rel => exact ⟨k, by omega, Nat.le_refl _, by rw [HY.out, ← hw], E2, q6, k6.out⟩
      · have hrv : rv = x := by
          rw [RW.out, E.out.2]
          unfold runN
          rw [if_neg (by rw [E.out.1]; exact ht), ← HX.out]
        have HRV := Aside0.mk hrv
        clear hrv hgg
        go_wp2_with fail
        go_ret
        exact ⟨by rw [HRV.out]; rfl, q6⟩
end Go.Proofs.Ytpjachbmllklgaa.Rng
