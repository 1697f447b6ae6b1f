/- The document's answers: On, asked, Term, Last. -/
import Derived.Test.YtpjachbmllklgaaTerm
namespace Go.Proofs.Ytpjachbmllklgaa.Rng
open Go.RowKit Go.Proofs.YtpjachbmllklgaaW.PrintWords
set_option linter.unusedVariables false
set_option linter.unusedSimpArgs false
attribute [local go_sem] Oper.semAt_some

set_option maxHeartbeats 8000000 in
set_option maxRecDepth 100000 in
theorem on_c (s : Sv) (b off : Nat) (css : List (List Value)) (w : World) (h : Lg w s b off css) :
    Calls Try.prog 16 #[.agg s.cells] w fun e w' => e = .returned (.bool (checkB s.si (its css))) ∧ Below w.heap.size w w' := by
  have hn := h.n
  obtain ⟨t, v, si, st, Va, Vn, Vc, La, Ln, Lc, d, A, n, cap, Ga, Gn, Gc⟩ := s
  dsimp only at hn ⊢
  subst hn
  unfold Sv.cells
  dsimp only
  by_cases g1 : si < 0
  · have hc : checkB si (its css) = false := by simp [checkB]; omega
    rw [hc]
    clear h hc
    go_enter Try.func16, Try.ntmps16
    go_wp2
    go_ret
    exact ⟨rfl, (Below.refl _ w).alloc (Nat.le_refl _) _⟩
  by_cases g2 : si > 900000000
  · have hc : checkB si (its css) = false := by simp [checkB]; omega
    rw [hc]
    clear h hc
    go_enter Try.func16, Try.ntmps16
    go_wp2
    go_ret
    exact ⟨rfl, (Below.refl _ w).alloc (Nat.le_refl _) _⟩
  by_cases g3 : (css.length : Int) > 9000
  · have hc : checkB si (its css) = false := by simp [checkB, its_length]; omega
    rw [hc]
    clear h hc
    go_enter Try.func16, Try.ntmps16
    go_wp2
    go_ret
    exact ⟨rfl, (Below.refl _ w).alloc (Nat.le_refl _) _⟩
  have H := Aside0.mk h
  clear h
  generalize hrv : checkB si (its css) = rv
  have RV := Aside0.mk hrv
  clear hrv
  go_enter Try.func16, Try.ntmps16
  go_wp2_with fail
  obtain ⟨W0, hW0⟩ : ∃ W0, w.alloc (.cells #[.int .i64 t, .int .i64 v, .int .i64 si, .int .i64 st, .slice Va Vn Vc, .slice La Ln Lc, .string d, .slice A css.length cap, .slice Ga Gn Gc] 30) = W0 := ⟨_, rfl⟩
  have hb0 : Below w.heap.size w W0 := by rw [← hW0]; exact (Below.refl _ w).alloc (Nat.le_refl _) _
  have hc2 : W0.cell? ⟨w.heap.size, 2, none⟩ = some (.int .i64 si) := by rw [← hW0]; simp
  have hc7 : W0.cell? ⟨w.heap.size, 7, none⟩ = some (.slice A css.length cap) := by rw [← hW0]; simp
  have hs0 : w.heap.size < W0.heap.size := by rw [← hW0]; simp
  rw [hW0]
  have HW := Aside0.mk hW0
  clear hW0
  go_loopg [3] css.length (fun gg s3 wr => ∃ kk : Nat, kk ≤ css.length ∧ css.length - kk ≤ gg ∧ s3 = .int .i64 kk ∧ Aside (Below W0.heap.size W0 wr) ∧ Aside (∀ j, j < kk → (itOf css[j]!).1 = si + 1 + j))
  case atStart => exact ⟨0, by omega, by omega, rfl, Below.refl _ _, fun j hj => absurd hj (Nat.not_lt_zero _)⟩
  case round =>
    obtain ⟨kk, hk, hg, rfl, B, G⟩ := hrel
    have hc2' : wr.cell? ⟨w.heap.size, 2, none⟩ = some (.int .i64 si) := (B.out.cell (p := ⟨w.heap.size, 2, none⟩) hs0).trans hc2
    have hc7' : wr.cell? ⟨w.heap.size, 7, none⟩ = some (.slice A css.length cap) := (B.out.cell (p := ⟨w.heap.size, 7, none⟩) hs0).trans hc7
    by_cases hlt : kk < css.length
    · have hltz : (kk : Int) < (css.length : Int) := by omega
      obtain rfl := H.out.A (by omega)
      have hL := (H.out.below hb0).below B.out
      have hrg := hL.row kk hlt
      have hE := hL.e kk hlt
      have hr := hL.rng kk hlt
      clear hL
      generalize hcs : css[kk]! = cs at hrg hE hr
      have CS := Aside0.mk hcs
      clear hcs
      have hcell : wr.cell? ⟨b, off + kk * 43, none⟩ = some (.int .i64 (itOf cs).1) := hrg 0 _ hE.i0
      clear hE hrg
      generalize hx : (itOf cs).1 = x at hcell hr
      have X := Aside0.mk hx
      clear hx
      have hgs : 0 ≤ si ∧ si ≤ 900000000 ∧ css.length ≤ 9000 := by omega
      by_cases he : x = si + 1 + kk
      · have hw : wrap64 (wrap64 (x - 1) - kk) = si := by
          have e1 : wrap64 (x - 1) = x - 1 := by unfold wrap64; omega
          rw [e1]; unfold wrap64; omega
        have HE2 := Aside0.mk he
        clear he
        go_wp2
        go_region
        go_wp2
        go_roundg (css.length - (kk + 1))
        case measure => omega
        case rel =>
          refine ⟨kk + 1, by omega, by omega, by go_num, B.out.drew, (show Aside _ from fun j hj => ?_)⟩
          by_cases e : j = kk
          · subst e; rw [CS.out, X.out]; exact HE2.out
          · exact G.out j (by omega)
      · have hw : ¬ wrap64 (wrap64 (x - 1) - kk) = si := by
          unfold wrap64; omega
        go_wp2
        go_region
        go_wp2
        go_ret
        refine ⟨?_, hb0.trans (B.out.drew.mono hb0.size)⟩
        rw [← RV.out]
        have hc : checkB si (its css) = false := by
          cases hcb : checkB si (its css) with
          | false => rfl
          | true =>
            exfalso
            simp only [checkB, Bool.and_eq_true] at hcb
            have := (goesB_iff _ _).1 hcb.2 kk (by rw [its_length]; exact hlt)
            rw [its_get css kk hlt, CS.out, X.out] at this
            exact he this
        rw [hc]
        rfl
    · have hltz : ¬ (kk : Int) < (css.length : Int) := by omega
      have : kk = css.length := by omega
      subst this
      go_wp2
      go_ret
      refine ⟨?_, hb0.trans (B.out.mono hb0.size)⟩
      rw [← RV.out]
      have hc : checkB si (its css) = true := by
        simp only [checkB, Bool.and_eq_true, decide_eq_true_eq, its_length]
        refine ⟨⟨⟨by omega, by omega⟩, by omega⟩, (goesB_iff _ _).2 (fun j hj => ?_)⟩
        rw [its_length] at hj
        rw [its_get css j hj]
        exact G.out j hj
      rw [hc]
      rfl
set_option maxHeartbeats 8000000 in
set_option maxRecDepth 100000 in
theorem asked_c (s : Sv) (b off : Nat) (css : List (List Value)) (w : World) (h : Lg w s b off css) :
    Calls Try.prog 41 #[.agg s.cells] w fun e w' => e = .returned (.agg (s.sound css).cells) ∧ Below w.heap.size w w' := by
  have e16 : ∀ args w, (callFunc 16 args).run Try.prog w = .ok (.enter 16 args) w := enters_of Try.func16 (by kernel_rfl) rfl
  have H := Aside0.mk h
  clear h
  obtain ⟨t, v, si, st, Va, Vn, Vc, La, Ln, Lc, d, A, n, cap, Ga, Gn, Gc⟩ := s
  generalize hrc : (Sv.sound ⟨t, v, si, st, Va, Vn, Vc, La, Ln, Lc, d, A, n, cap, Ga, Gn, Gc⟩ css).cells = rc
  have RC := Aside0.mk hrc
  clear hrc
  unfold Sv.cells
  go_enter Try.func41, Try.ntmps41
  go_wp2_with fail
  have hb0 : Below w.heap.size w ((w.alloc (.cells #[.int .i64 t, .int .i64 v, .int .i64 si, .int .i64 st, .slice Va Vn Vc, .slice La Ln Lc, .string d, .slice A n cap, .slice Ga Gn Gc] 30)).alloc (.cells #[.int .i64 0, .int .i64 0, .int .i64 0, .int .i64 0, .slice none 0 0, .slice none 0 0, .string ⟨#[]⟩, .slice none 0 0, .slice none 0 0] 30)) := ((Below.refl _ w).alloc (Nat.le_refl _) _).alloc (by simp) _
  have hs0 : ((w.alloc (.cells #[.int .i64 t, .int .i64 v, .int .i64 si, .int .i64 st, .slice Va Vn Vc, .slice La Ln Lc, .string d, .slice A n cap, .slice Ga Gn Gc] 30)).alloc (.cells #[.int .i64 0, .int .i64 0, .int .i64 0, .int .i64 0, .slice none 0 0, .slice none 0 0, .string ⟨#[]⟩, .slice none 0 0, .slice none 0 0] 30)).heap.size = w.heap.size + 2 := by simp
  have hbox := (heap_alloc_old (w.alloc (.cells #[.int .i64 t, .int .i64 v, .int .i64 si, .int .i64 st, .slice Va Vn Vc, .slice La Ln Lc, .string d, .slice A n cap, .slice Ga Gn Gc] 30)) (.cells #[.int .i64 0, .int .i64 0, .int .i64 0, .int .i64 0, .slice none 0 0, .slice none 0 0, .string ⟨#[]⟩, .slice none 0 0, .slice none 0 0] 30) w.heap.size (by simp)).trans (heap_alloc_new w _)
  have hres := heap_alloc_new (w.alloc (.cells #[.int .i64 t, .int .i64 v, .int .i64 si, .int .i64 st, .slice Va Vn Vc, .slice La Ln Lc, .string d, .slice A n cap, .slice Ga Gn Gc] 30)) (.cells #[.int .i64 0, .int .i64 0, .int .i64 0, .int .i64 0, .slice none 0 0, .slice none 0 0, .string ⟨#[]⟩, .slice none 0 0, .slice none 0 0] 30)
  rw [World.size_alloc] at hres
  generalize ((w.alloc (.cells #[.int .i64 t, .int .i64 v, .int .i64 si, .int .i64 st, .slice Va Vn Vc, .slice La Ln Lc, .string d, .slice A n cap, .slice Ga Gn Gc] 30)).alloc (.cells #[.int .i64 0, .int .i64 0, .int .i64 0, .int .i64 0, .slice none 0 0, .slice none 0 0, .string ⟨#[]⟩, .slice none 0 0, .slice none 0 0] 30)) = W0 at hb0 hs0 hbox hres ⊢
  have hchk := on_c ⟨t, v, si, st, Va, Vn, Vc, La, Ln, Lc, d, A, n, cap, Ga, Gn, Gc⟩ b off css W0 (H.out.below hb0)
  refine hchk.mono ?_
  rintro e w2 ⟨rfl, hb2⟩
  have hres2 := (hb2.block (w.heap.size + 1) (by omega)).trans hres
  have hbox2 := (hb2.block w.heap.size (by omega)).trans hbox
  have hbw : Below w.heap.size w w2 := hb0.trans (hb2.mono hb0.size)
  clear hchk hbox hres
  have hi30 : ∀ cells : Array Value, cells.size = 9 → (Try.prog.info? 30).map (·.size) = some cells.size := fun c hc => by rw [hc]; exact size30
  have rc' := RC.out
  unfold Sv.sound at rc'
  dsimp only at rc' ⊢
  cases hc : checkB si (its css) with
  | true =>
    rw [hc, if_pos rfl] at rc'
    have RC2 := Aside0.mk (rc' : #[.int .i64 t, .int .i64 v, .int .i64 si, .int .i64 st, .slice Va Vn Vc, .slice La Ln Lc, .string d, .slice A n cap, .slice Ga Gn Gc] = rc)
    clear rc'
    go_wp2_with (first | (refine wpList_load_row rfl 30 (.tmp 1) rfl w.heap.size rfl 30 _ (0, 0) _ hbox2 Try.underlying30 rfl (hi30 _ rfl) ?_) | (refine wpList_store_row rfl 30 (.tmp 2) (.tmp 7) rfl (w.heap.size + 1) _ rfl rfl 30 _ hres2 (hi30 _ rfl) rfl (by simp [Value.oneCell']) ?_))
    have hg := setRow_heap w2 (w.heap.size + 1) _ (#[.int .i64 t, .int .i64 v, .int .i64 si, .int .i64 st, .slice Va Vn Vc, .slice La Ln Lc, .string d, .slice A n cap, .slice Ga Gn Gc] : Array Value) 30 (0, 0) hres2
    refine bodyPost_ret (results_cell_row rfl _ _ (w.heap.size + 1) 30 _ (0, 0) _ rfl hg Try.underlying30 rfl (hi30 _ rfl)) rfl ?_
    exact ⟨by rw [← RC2.out]; rfl, below_setRow hbw _ (by omega) _⟩
  | false =>
    rw [hc, if_neg (by simp)] at rc'
    have RC2 := Aside0.mk (rc' : #[.int .i64 0, .int .i64 0, .int .i64 0, .int .i64 0, .slice none 0 0, .slice none 0 0, .string ⟨#[]⟩, .slice none 0 0, .slice none 0 0] = rc)
    clear rc'
    go_wp2_with (first | (refine wpList_store_row rfl 30 (.tmp 2) (.tmp 6) rfl (w.heap.size + 1) _ rfl rfl 30 _ hres2 (hi30 _ rfl) rfl (by simp [Value.oneCell']) ?_))
    have hg := setRow_heap w2 (w.heap.size + 1) _ (#[.int .i64 0, .int .i64 0, .int .i64 0, .int .i64 0, .slice none 0 0, .slice none 0 0, .string ⟨#[]⟩, .slice none 0 0, .slice none 0 0] : Array Value) 30 (0, 0) hres2
    refine bodyPost_ret (results_cell_row rfl _ _ (w.heap.size + 1) 30 _ (0, 0) _ rfl hg Try.underlying30 rfl (hi30 _ rfl)) rfl ?_
    exact ⟨by rw [← RC2.out]; rfl, below_setRow hbw _ (by omega) _⟩
theorem sound_id (s : Sv) (css : List (List Value)) : (s.sound css).sound (soundE s css) = s.sound css ∧ soundE (s.sound css) (soundE s css) = soundE s css := by
  have h : checkB (s.sound css).si (its (soundE s css)) = true := by
    obtain ⟨h1, h2, h3, h4⟩ := sound_si s css
    simp [checkB, h1, h2, its_length, h3, h4]
  unfold Sv.sound soundE at *
  rw [h]
  exact ⟨rfl, rfl⟩
theorem sound_cells_one (s : Sv) : s.cells.all (·.oneCell') = true := by simp [Sv.cells, Value.oneCell']

set_option maxHeartbeats 8000000 in
set_option maxRecDepth 100000 in
theorem rterm_c (s : Sv) (b off : Nat) (css : List (List Value)) (w : World) (h : Lg w s b off css) (index : Int) (hr : -9223372036854775808 ≤ index ∧ index ≤ 9223372036854775807) :
    Calls Try.prog 14 #[.agg s.cells, .int .i64 index] w fun e w' => e = .returned (.tuple #[.int .i64 (termV (s.sound css).si (s.sound css).st (its (soundE s css)) index).1, .bool (termV (s.sound css).si (s.sound css).st (its (soundE s css)) index).2]) ∧ Below w.heap.size w w' := by
  generalize hx : termV (s.sound css).si (s.sound css).st (its (soundE s css)) index = x
  have X := Aside0.mk hx
  clear hx
  obtain ⟨x1, x2⟩ := x
  dsimp only
  have H := Aside0.mk h
  clear h
  have hi30 : ∀ cells : Array Value, cells.size = 9 → (Try.prog.info? 30).map (·.size) = some cells.size := fun c hc => by rw [hc]; exact size30
  rw [cells_eq]
  go_enter Try.func14, Try.ntmps14
  go_wp2_with fail
  rw [← cells_eq]
  have hb0 : Below w.heap.size w (w.alloc (.cells s.cells 30)) := (Below.refl _ w).alloc (Nat.le_refl _) _
  have hs0 : (w.alloc (.cells s.cells 30)).heap.size = w.heap.size + 1 := by simp
  have hbox := heap_alloc_new w (.cells s.cells 30)
  generalize w.alloc (.cells s.cells 30) = W0 at hb0 hs0 hbox ⊢
  have hL0 := H.out.below hb0
  refine (asked_c s b off css W0 hL0).mono ?_
  rintro e w2 ⟨rfl, hb2⟩
  have hL2 := (hL0.below hb2).sound
  obtain ⟨hsi0, hsi1, hlen2, hgo⟩ := sound_si s css
  have hemp : soundE s css ≠ [] → b < w.heap.size := fun g => by
    rcases H.out.b with k | k
    · exact k
    · exfalso; apply g; unfold soundE; rw [k]; split <;> rfl
  clear hL0 H
  have hbox2 := (hb2.block w.heap.size (by omega)).trans hbox
  have hsz2 : w.heap.size < w2.heap.size := by have := hb2.size; omega
  have hbw2 : Below w.heap.size w w2 := hb0.trans (hb2.mono hb0.size)
  generalize s.sound css = s2 at *
  generalize soundE s css = css2 at *
  clear hb2 hb0 hbox hs0
  have hrow2 := hL2.row
  have hE2 := hL2.e
  have hA2 := hL2.A
  have hn2 := hL2.n
  clear hL2
  rw [cells_eq s2]
  go_wp2_with (refine wpList_store_box rfl 30 (.tmp 2) (.tmp 8) rfl w.heap.size _ _ 30 rfl rfl hbox2 (hi30 _ rfl) rfl (by simp [Value.oneCell']) ?_)
  intro W3 hg3 ho3 hb3 hs3
  have c2 : W3.cell? ⟨w.heap.size, 2, none⟩ = some (.int .i64 s2.si) := by simp [World.cell?, hg3]
  have c3 : W3.cell? ⟨w.heap.size, 3, none⟩ = some (.int .i64 s2.st) := by simp [World.cell?, hg3]
  have c7 : W3.cell? ⟨w.heap.size, 7, none⟩ = some (.slice s2.A css2.length s2.cap) := by simp [World.cell?, hg3, hn2]
  have hbw3 : Below w.heap.size w W3 := hbw2.trans hb3
  have HE := Aside0.mk hE2
  have HG := Aside0.mk hgo
  have HR : Aside0 (css2 ≠ [] → Row W3 b off css2) := ⟨fun g => hrow2.same (ho3 b (by have := hemp g; omega))⟩
  have HA := Aside0.mk hA2
  clear hE2 hgo hrow2 ho3 hg3 hb3 hemp hA2 hbox2 hi30 hbw2
  by_cases g0 : index = s2.si
  · subst g0
    have hX := X.out
    unfold termV at hX
    rw [if_pos rfl] at hX
    have X2 := Aside0.mk hX
    clear hX
    go_wp2
    refine bodyPost_ret (results_tmp2 rfl _ _ _) rfl ?_
    have hX := X2.out
    simp only [Prod.mk.injEq] at hX
    refine ⟨?_, hbw3⟩
    rw [← hX.1, ← hX.2]
    rfl
  go_wp2
  go_loopg [6] css2.length (fun gg s6 wr => ∃ kk : Nat, kk ≤ css2.length ∧ css2.length - kk ≤ gg ∧ s6 = .int .i64 kk ∧ wr = W3 ∧ Aside (∀ j, j < kk → (itOf css2[j]!).1 ≠ index))
  case atStart => exact ⟨0, by omega, by omega, rfl, rfl, fun j hj => absurd hj (Nat.not_lt_zero _)⟩
  case round =>
    obtain ⟨kk, hk, hg, rfl, rfl, G⟩ := hrel
    by_cases hlt : kk < css2.length
    · have hltz : (kk : Int) < (css2.length : Int) := by omega
      have hne : css2 ≠ [] := fun e => by rw [e] at hlt; simp at hlt
      have hA := HA.out (by omega)
      rw [hA] at c7
      clear hA
      have hEk := HE.out kk hlt
      have hrk := HR.out hne kk hlt
      have cj0 : wr.cell? ⟨b, off + kk * 43, none⟩ = some (.int .i64 (itOf css2[kk]!).1) := hrk 0 _ hEk.i0
      have cj1 : wr.cell? ⟨b, off + kk * 43 + 1, none⟩ = some (.int .i64 (itOf css2[kk]!).2) := hrk 1 _ hEk.i1
      clear hEk hrk hne
      generalize hit : itOf css2[kk]! = it at cj0 cj1
      have IT := Aside0.mk hit
      clear hit
      obtain ⟨i1, i2⟩ := it
      dsimp only at cj0 cj1
      by_cases he : i1 = index
      · have hX := X.out
        have h1 := (goesB_iff _ _).1 HG.out kk (by rw [its_length]; exact hlt)
        rw [its_get css2 kk hlt, IT.out] at h1
        dsimp only at h1
        unfold termV at hX
        rw [if_neg g0, if_pos (by rw [its_length]; omega), show (index - s2.si - 1).toNat = kk by omega, its_get css2 kk hlt, IT.out] at hX
        simp only [Prod.mk.injEq] at hX
        have X2 := Aside0.mk hX
        clear hX h1
        subst he
        go_wp2
        refine bodyPost_ret (results_tmp2 rfl _ _ _) rfl ?_
        have hX := X2.out
        refine ⟨?_, hbw3⟩
        rw [← hX.1, ← hX.2]
        rfl
      · go_wp2
        go_roundg (css2.length - (kk + 1))
        case measure => omega
        case rel =>
          refine ⟨kk + 1, by omega, by omega, by go_num, rfl, (show Aside _ from fun j hj => ?_)⟩
          by_cases e : j = kk
          · subst e; rw [IT.out]; exact he
          · exact G.out j (by omega)
    · have hltz : ¬ (kk : Int) < (css2.length : Int) := by omega
      have : kk = css2.length := by omega
      subst this
      go_wp2
      refine bodyPost_ret (results_tmp2 rfl _ _ _) rfl ?_
      refine ⟨?_, hbw3⟩
      have hX := X.out
      unfold termV at hX
      rw [if_neg g0, if_neg ?_] at hX
      · simp only [Prod.mk.injEq] at hX
        rw [← hX.1, ← hX.2]
        rfl
      · rw [its_length]
        intro hc
        have hj : (index - s2.si - 1).toNat < css2.length := by omega
        have h1 := (goesB_iff _ _).1 HG.out _ (by rw [its_length]; exact hj)
        rw [its_get css2 _ hj] at h1
        exact G.out _ hj (by omega)

theorem last_term (s : Sv) (css : List (List Value)) (h : goesB s.si (its css) = true) : lastV s css = (s.si + css.length, (termV s.si s.st (its css) (s.si + css.length)).1) := by
  unfold lastV termV
  cases hl : css.length with
  | zero => simp
  | succ m =>
    have h1 := (goesB_iff _ _).1 h m (by rw [its_length]; omega)
    have h2 := its_get css m (by omega)
    rw [if_neg (by omega), if_pos (by rw [its_length]; omega), show (s.si + ((m + 1 : Nat) : Int) - s.si - 1).toNat = m by omega]
    rw [h2] at h1 ⊢
    dsimp only
    exact Prod.ext (by dsimp only; omega) rfl

set_option maxHeartbeats 1000000 in
set_option maxRecDepth 100000 in
theorem rlast_c (s : Sv) (b off : Nat) (css : List (List Value)) (w : World) (h : Lg w s b off css) :
    Calls Try.prog 12 #[.agg s.cells] w fun e w' => e = .returned (.tuple #[.int .i64 (lastV (s.sound css) (soundE s css)).1, .int .i64 (lastV (s.sound css) (soundE s css)).2]) ∧ Below w.heap.size w w' := by
  have e14 : ∀ args w, (callFunc 14 args).run Try.prog w = .ok (.enter 14 args) w := enters_of Try.func14 (by kernel_rfl) rfl
  generalize hx : lastV (s.sound css) (soundE s css) = x
  have X := Aside0.mk hx
  clear hx
  obtain ⟨x1, x2⟩ := x
  dsimp only
  have H := Aside0.mk h
  clear h
  have hi30 : ∀ cells : Array Value, cells.size = 9 → (Try.prog.info? 30).map (·.size) = some cells.size := fun c hc => by rw [hc]; exact size30
  rw [cells_eq]
  go_enter Try.func12, Try.ntmps12
  go_wp2_with fail
  rw [← cells_eq]
  have hb0 : Below w.heap.size w (w.alloc (.cells s.cells 30)) := (Below.refl _ w).alloc (Nat.le_refl _) _
  have hs0 : (w.alloc (.cells s.cells 30)).heap.size = w.heap.size + 1 := by simp
  have hbox := heap_alloc_new w (.cells s.cells 30)
  generalize w.alloc (.cells s.cells 30) = W0 at hb0 hs0 hbox ⊢
  have hL0 := H.out.below hb0
  refine (asked_c s b off css W0 hL0).mono ?_
  rintro e w2 ⟨rfl, hb2⟩
  have hL2 := (hL0.below hb2).sound
  obtain ⟨hsi0, hsi1, hlen2, hgo⟩ := sound_si s css
  obtain ⟨hid1, hid2⟩ := sound_id s css
  have hemp : b < w.heap.size ∨ soundE s css = [] := by
    rcases H.out.b with k | k
    · exact .inl k
    · refine .inr ?_; unfold soundE; rw [k]; split <;> rfl
  clear hL0 H
  have hbox2 := (hb2.block w.heap.size (by omega)).trans hbox
  have hsz2 : w.heap.size < w2.heap.size := by have := hb2.size; omega
  have hbw2 : Below w.heap.size w w2 := hb0.trans (hb2.mono hb0.size)
  generalize s.sound css = s2 at *
  generalize soundE s css = css2 at *
  clear hb2 hb0 hbox hs0
  have hn2 := hL2.n
  have hszw := hbw2.size
  have HL : Aside0 (∀ W3 : World, (∀ k, k ≠ w.heap.size → W3.heap[k]? = w2.heap[k]?) → W3.heap.size = w2.heap.size → Lg W3 s2 b off css2) := ⟨fun W3 ho hs => by
    rcases hemp with k | k
    · exact ⟨hL2.n, hL2.A, hL2.row.same (ho b (by omega)), hL2.e, hL2.rng, hL2.len, .inl (by omega)⟩
    · subst k
      exact ⟨hL2.n, hL2.A, fun j hj => by simp at hj, hL2.e, hL2.rng, hL2.len, .inr rfl⟩⟩
  have HN := Aside0.mk hn2
  clear hL2 hn2
  have hcc := cells_eq s2
  rw [hcc]
  go_wp2_with (refine wpList_store_box rfl 30 (.tmp 1) (.tmp 8) rfl w.heap.size _ _ 30 rfl rfl hbox2 (hi30 _ rfl) rfl (by simp [Value.oneCell']) ?_)
  intro W3 hg3 ho3 hb3 hs3
  have hL3 := HL.out W3 ho3 hs3
  have c2 : W3.cell? ⟨w.heap.size, 2, none⟩ = some (.int .i64 s2.si) := by simp [World.cell?, hg3]
  have c7 : W3.cell? ⟨w.heap.size, 7, none⟩ = some (.slice s2.A s2.n s2.cap) := by simp [World.cell?, hg3]
  have hbw3 : Below w.heap.size w W3 := hbw2.trans hb3
  have hn9 : (s2.n : Int) ≤ 9000 := by rw [HN.out]; omega
  have hct := rterm_c s2 b off css2 W3 hL3 (s2.si + s2.n) (by omega)
  rw [hid1, hid2] at hct
  have HX : Aside0 ((x1, x2) = (s2.si + (s2.n : Int), (termV s2.si s2.st (its css2) (s2.si + (s2.n : Int))).1)) := ⟨by rw [← X.out, HN.out]; exact last_term s2 css2 hgo⟩
  have HT := Aside0.mk hct
  rw [hcc] at HT
  clear HL ho3 hb3 hs3 hL3 hct hgo hid1 hid2 X hcc hbox2 hbw2
  go_wp2_with (refine wpList_load_row rfl 30 (.tmp 1) rfl w.heap.size rfl 30 _ (0, 0) _ hg3 Try.underlying30 rfl (hi30 _ rfl) ?_)
  refine HT.out.mono ?_
  rintro e w' ⟨rfl, hb4⟩
  generalize termV s2.si s2.st (its css2) (s2.si + (s2.n : Int)) = tv at *
  obtain ⟨t1, t2⟩ := tv
  go_wp2
  refine bodyPost_ret (results_tmp2 rfl _ _ _) rfl ?_
  have hX := HX.out
  simp only [Prod.mk.injEq] at hX
  refine ⟨?_, hbw3.trans (hb4.mono hbw3.size)⟩
  rw [hX.1, hX.2]
  rfl
end Go.Proofs.Ytpjachbmllklgaa.Rng
