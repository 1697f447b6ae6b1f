/- The log that is asked: sound; and down. -/
import Derived.Test.YtpjachbmllklgaaChk
namespace Go.Proofs.Ytpjachbmllklgaa.Rng
open Go.RowKit Go.Proofs.YtpjachbmllklgaaW.PrintWords
set_option linter.unusedVariables false
set_option linter.unusedSimpArgs false

theorem below_setRow {n0 : Nat} {w W : World} (h : Below n0 w W) (g : Nat) (hg : n0 ≤ g) (cs : Array Value) : Below n0 w (W.setRow g cs) :=
  ⟨h.os, h.tape, h.output, by simp only [World.setRow, Array.size_modify]; exact h.size, fun k hk => by rw [setRow_other W g k cs (by omega)]; exact h.block k hk⟩
theorem size30 : (Try.prog.info? 30).map (·.size) = some 9 := by kernel_rfl
/-- The log that is asked. -/
def Sv.sound (s : Sv) (css : List (List Value)) : Sv := if checkB s.si (its css) then s else Sv.none
def soundE (s : Sv) (css : List (List Value)) : List (List Value) := if checkB s.si (its css) then css else []
theorem Lg.sound {W : World} {s : Sv} {b off : Nat} {css : List (List Value)} (h : Lg W s b off css) : Lg W (s.sound css) b off (soundE s css) := by
  unfold Sv.sound soundE
  cases checkB s.si (its css) with
  | true => exact h
  | false => exact ⟨rfl, fun g => by simp at g, fun j hj => by simp at hj, fun j hj => by simp at hj, fun j hj => by simp at hj, by simp, .inr rfl⟩

set_option maxHeartbeats 8000000 in
set_option maxRecDepth 100000 in
theorem sound_c (s : Sv) (b off : Nat) (css : List (List Value)) (w : World) (h : Lg w s b off css) :
    Calls Try.prog 40 #[.agg s.cells] w fun e w' => e = .returned (.agg (s.sound css).cells) ∧ Below w.heap.size w w' := by
  have e10 : ∀ args w, (callFunc 10 args).run Try.prog w = .ok (.enter 10 args) w := enters_of Try.func10 (by kernel_rfl) rfl
  have H := Aside0.mk h
  clear h
  obtain ⟨t, v, si, st, Va, Vn, Vc, La, Ln, Lc, d, A, n, cap, Ga, Gn, Gc⟩ := s
  generalize hrc : (Sv.sound ⟨t, v, si, st, Va, Vn, Vc, La, Ln, Lc, d, A, n, cap, Ga, Gn, Gc⟩ css).cells = rc
  have RC := Aside0.mk hrc
  clear hrc
  unfold Sv.cells
  go_enter Try.func40, Try.ntmps40
  go_wp2_with fail
  have hb0 : Below w.heap.size w ((w.alloc (.cells #[.int .i64 t, .int .i64 v, .int .i64 si, .int .i64 st, .slice Va Vn Vc, .slice La Ln Lc, .string d, .slice A n cap, .slice Ga Gn Gc] 30)).alloc (.cells #[.int .i64 0, .int .i64 0, .int .i64 0, .int .i64 0, .slice none 0 0, .slice none 0 0, .string ⟨#[]⟩, .slice none 0 0, .slice none 0 0] 30)) := ((Below.refl _ w).alloc (Nat.le_refl _) _).alloc (by simp) _
  have hs0 : ((w.alloc (.cells #[.int .i64 t, .int .i64 v, .int .i64 si, .int .i64 st, .slice Va Vn Vc, .slice La Ln Lc, .string d, .slice A n cap, .slice Ga Gn Gc] 30)).alloc (.cells #[.int .i64 0, .int .i64 0, .int .i64 0, .int .i64 0, .slice none 0 0, .slice none 0 0, .string ⟨#[]⟩, .slice none 0 0, .slice none 0 0] 30)).heap.size = w.heap.size + 2 := by simp
  have hbox := (heap_alloc_old (w.alloc (.cells #[.int .i64 t, .int .i64 v, .int .i64 si, .int .i64 st, .slice Va Vn Vc, .slice La Ln Lc, .string d, .slice A n cap, .slice Ga Gn Gc] 30)) (.cells #[.int .i64 0, .int .i64 0, .int .i64 0, .int .i64 0, .slice none 0 0, .slice none 0 0, .string ⟨#[]⟩, .slice none 0 0, .slice none 0 0] 30) w.heap.size (by simp)).trans (heap_alloc_new w _)
  have hres := heap_alloc_new (w.alloc (.cells #[.int .i64 t, .int .i64 v, .int .i64 si, .int .i64 st, .slice Va Vn Vc, .slice La Ln Lc, .string d, .slice A n cap, .slice Ga Gn Gc] 30)) (.cells #[.int .i64 0, .int .i64 0, .int .i64 0, .int .i64 0, .slice none 0 0, .slice none 0 0, .string ⟨#[]⟩, .slice none 0 0, .slice none 0 0] 30)
  rw [World.size_alloc] at hres
  generalize ((w.alloc (.cells #[.int .i64 t, .int .i64 v, .int .i64 si, .int .i64 st, .slice Va Vn Vc, .slice La Ln Lc, .string d, .slice A n cap, .slice Ga Gn Gc] 30)).alloc (.cells #[.int .i64 0, .int .i64 0, .int .i64 0, .int .i64 0, .slice none 0 0, .slice none 0 0, .string ⟨#[]⟩, .slice none 0 0, .slice none 0 0] 30)) = W0 at hb0 hs0 hbox hres ⊢
  have hchk := check_c ⟨t, v, si, st, Va, Vn, Vc, La, Ln, Lc, d, A, n, cap, Ga, Gn, Gc⟩ b off css W0 (H.out.below hb0)
  refine hchk.mono ?_
  rintro e w2 ⟨rfl, hb2⟩
  have hres2 := (hb2.block (w.heap.size + 1) (by omega)).trans hres
  have hbox2 := (hb2.block w.heap.size (by omega)).trans hbox
  have hbw : Below w.heap.size w w2 := hb0.trans (hb2.mono hb0.size)
  clear hchk hbox hres
  have hi30 : ∀ cells : Array Value, cells.size = 9 → (Try.prog.info? 30).map (·.size) = some cells.size := fun c hc => by rw [hc]; exact size30
  have rc' := RC.out
  unfold Sv.sound at rc'
  dsimp only at rc' ⊢
  cases hc : checkB si (its css) with
  | true =>
    rw [hc, if_pos rfl] at rc'
    have RC2 := Aside0.mk (rc' : #[.int .i64 t, .int .i64 v, .int .i64 si, .int .i64 st, .slice Va Vn Vc, .slice La Ln Lc, .string d, .slice A n cap, .slice Ga Gn Gc] = rc)
    clear rc'
    go_wp2_with (first | (refine wpList_load_row rfl 30 (.tmp 1) rfl w.heap.size rfl 30 _ (0, 0) _ hbox2 Try.underlying30 rfl (hi30 _ rfl) ?_) | (refine wpList_store_row rfl 30 (.tmp 2) (.tmp 7) rfl (w.heap.size + 1) _ rfl rfl 30 _ hres2 (hi30 _ rfl) rfl (by simp [Value.oneCell']) ?_))
    have hg := setRow_heap w2 (w.heap.size + 1) _ (#[.int .i64 t, .int .i64 v, .int .i64 si, .int .i64 st, .slice Va Vn Vc, .slice La Ln Lc, .string d, .slice A n cap, .slice Ga Gn Gc] : Array Value) 30 (0, 0) hres2
    refine bodyPost_ret (results_cell_row rfl _ _ (w.heap.size + 1) 30 _ (0, 0) _ rfl hg Try.underlying30 rfl (hi30 _ rfl)) rfl ?_
    exact ⟨by rw [← RC2.out]; rfl, below_setRow hbw _ (by omega) _⟩
  | false =>
    rw [hc, if_neg (by simp)] at rc'
    have RC2 := Aside0.mk (rc' : #[.int .i64 0, .int .i64 0, .int .i64 0, .int .i64 0, .slice none 0 0, .slice none 0 0, .string ⟨#[]⟩, .slice none 0 0, .slice none 0 0] = rc)
    clear rc'
    go_wp2_with (first | (refine wpList_store_row rfl 30 (.tmp 2) (.tmp 6) rfl (w.heap.size + 1) _ rfl rfl 30 _ hres2 (hi30 _ rfl) rfl (by simp [Value.oneCell']) ?_))
    have hg := setRow_heap w2 (w.heap.size + 1) _ (#[.int .i64 0, .int .i64 0, .int .i64 0, .int .i64 0, .slice none 0 0, .slice none 0 0, .string ⟨#[]⟩, .slice none 0 0, .slice none 0 0] : Array Value) 30 (0, 0) hres2
    refine bodyPost_ret (results_cell_row rfl _ _ (w.heap.size + 1) 30 _ (0, 0) _ rfl hg Try.underlying30 rfl (hi30 _ rfl)) rfl ?_
    exact ⟨by rw [← RC2.out]; rfl, below_setRow hbw _ (by omega) _⟩
end Go.Proofs.Ytpjachbmllklgaa.Rng
