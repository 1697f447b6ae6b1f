/- A part of a log: ledger.Above. -/
import Derived.Test.YtpjachbmllklgaaEach
namespace Go.Proofs.Ytpjachbmllklgaa.Rng
open Go.RowKit Go.Proofs.YtpjachbmllklgaaW.PrintWords Go.Proofs.Ytpjachbmllklgaa.Kinds Go.Proofs.Ytpjachbmllklgaa.PCou
set_option linter.unusedVariables false
set_option linter.unusedSimpArgs false
attribute [local go_sem] Oper.semAt_some

/-- The log that is asked: its entries. -/
def sndX (s : Sv) (xs : List Ent) : List Ent := if checkB s.si (itX xs) then xs else []
/-- Of a log those entries beyond a number, so many at most. -/
def aboveX (ys : List Ent) (index most : Int) : List Ent := if beyV ys index < 0 ∨ most < 1 then [] else (ys.drop (beyV ys index).toNat).take most.toNat
theorem LX.sound {W : World} {s : Sv} {b off : Nat} {css : List (List Value)} {xs : List Ent} (h : LX W s.A b off css xs) : LX W (s.sound css).A b off (soundE s css) (sndX s xs) := by
  unfold Sv.sound soundE sndX
  rw [h.its_eq]
  cases checkB s.si (itX xs) with
  | true => exact h
  | false => exact ⟨rfl, fun g => by simp at g, fun j hj => by simp at hj, fun j hj => by simp at hj, fun x hx => by simp at hx, fun x hx => by simp at hx, .inr rfl, by simp⟩
theorem beyV_range (ys : List Ent) (index : Int) : beyV ys index = -1 ∨ ∃ k : Nat, beyV ys index = k ∧ k < ys.length := by
  unfold beyV
  cases h : ys.findIdx? (fun x => decide (x.1 > index)) with
  | none => exact .inl rfl
  | some i =>
    rw [List.findIdx?_eq_some_iff_getElem] at h
    exact .inr ⟨i, rfl, h.1⟩

set_option maxHeartbeats 1000000 in
set_option maxRecDepth 100000 in
theorem above_c (s : Sv) (b off : Nat) (css : List (List Value)) (xs : List Ent) (w : World) (h : LX w s.A b off css xs) (hn : s.n = css.length) (hcap : s.n ≤ s.cap) (index most : Int) (hm : -9223372036854775808 ≤ most ∧ most ≤ 9223372036854775807) :
    Calls Try.prog 25 #[.agg s.cells, .int .i64 index, .int .i64 most] w fun e w' => ∃ v, e = .returned v ∧ kEnt.R 59 w' w.heap.size (fun _ => True) v (aboveX (sndX s xs) index most) ∧ Below w.heap.size w w' := by
  have e40 : ∀ args w, (callFunc 40 args).run Try.prog w = .ok (.enter 40 args) w := enters_of Try.func40 (by kernel_rfl) rfl
  have e50 : ∀ args w, (callFunc 50 args).run Try.prog w = .ok (.enter 50 args) w := enters_of Try.func50 (by kernel_rfl) rfl
  have e52 : ∀ args w, (callFunc 52 args).run Try.prog w = .ok (.enter 52 args) w := enters_of Try.func52 (by kernel_rfl) rfl
  generalize hzs : aboveX (sndX s xs) index most = zs
  have ZS := Aside0.mk hzs
  clear hzs
  have H := Aside0.mk h
  have HN0 := Aside0.mk hn
  clear h hn
  rw [cells_eq]
  go_enter Try.func25, Try.ntmps25
  go_wp2_with fail
  rw [← cells_eq]
  have q0 : Below w.heap.size w ((w.alloc (.cells s.cells 30)).alloc (.cells #[.int .i64 index] 3)) := ((Below.refl _ w).alloc (Nat.le_refl _) _).alloc (by simp) _
  have hs0 : ((w.alloc (.cells s.cells 30)).alloc (.cells #[.int .i64 index] 3)).heap.size = w.heap.size + 2 := by simp
  have i0 := blk_new (w.alloc (.cells s.cells 30)) (.cells #[.int .i64 index] 3)
  rw [World.size_alloc] at i0
  generalize ((w.alloc (.cells s.cells 30)).alloc (.cells #[.int .i64 index] 3)) = W0 at q0 hs0 i0 ⊢
  have hL0 := H.out.below q0
  clear H
  refine (sound_c s b off css W0 (hL0.lg HN0.out)).mono ?_
  rintro e w2 ⟨rfl, hb2⟩
  have hL2 := (hL0.below hb2).sound
  have hn2 : (s.sound css).n = (soundE s css).length := ((hL0.lg HN0.out).sound).n
  have hcap2 : (s.sound css).n ≤ (s.sound css).cap := by unfold Sv.sound; split; exact hcap; exact Nat.le_refl _
  have hsz2 := hb2.size
  have i2 := (hb2.block (w.heap.size + 1) (by omega)).trans i0
  have q2 : Below w.heap.size w w2 := q0.trans (hb2.mono q0.size)
  clear hL0 q0 i0 hb2 HN0 hcap
  generalize s.sound css = s2 at *
  generalize soundE s css = css2 at *
  generalize sndX s xs = ys at *
  have ci : w2.cell? ⟨w.heap.size + 1, 0, none⟩ = some (.int .i64 index) := by simp [World.cell?, i2]
  have HI := Aside0.mk (index_c s2.A s2.n s2.cap b off css2 ys w2 hL2 hn2 (w.heap.size + 1) index ci)
  have H2 := Aside0.mk hL2
  have HN := Aside0.mk hn2
  clear hL2 hn2 ci i2
  rw [cells_eq s2]
  have hfd : ∀ w : World, (Instr.field 30 (.agg #[.int .i64 s2.t, .int .i64 s2.v, .int .i64 s2.si, .int .i64 s2.st, .slice s2.Va s2.Vn s2.Vc, .slice s2.La s2.Ln s2.Lc, .string s2.d, .slice s2.A s2.n s2.cap, .slice s2.Ga s2.Gn s2.Gc]) 3).run Try.prog w = .ok (.slice s2.A s2.n s2.cap) w := fun _ => by kernel_rfl
  go_wp2_with fail
  refine HI.out.mono ?_
  rintro e w3 ⟨rfl, hb3⟩
  have hL3 := H2.out.below hb3
  have hsz3 := hb3.size
  have q3 : Below w.heap.size w w3 := q2.trans (hb3.mono q2.size)
  clear H2 HI hb3 q2
  have H3 := Aside0.mk hL3
  have hsm := hL3.small
  have hyl := hL3.len
  clear hL3
  have hz := ZS.out
  unfold aboveX at hz
  rcases beyV_range ys index with hb | ⟨k, hb, hk⟩
  · rw [hb] at hz ⊢
    rw [if_pos (.inl (by omega))] at hz
    subst hz
    go_wp2
    go_ret
    exact ⟨_, rfl, Kd.R_nil _ _ _ _ _, q3⟩
  rw [hb] at hz ⊢
  by_cases hm1 : most < 1
  · rw [if_pos (.inr hm1)] at hz
    subst hz
    go_wp2
    go_ret
    exact ⟨_, rfl, Kd.R_nil _ _ _ _ _, q3⟩
  rw [if_neg (by omega), show ((k : Nat) : Int).toNat = k by omega] at hz
  have hks : k < s2.n := by rw [HN.out]; omega
  have hkI : (k : Int) < (s2.n : Int) := by omega
  have hns : s2.n ≤ 1000000 := by rw [HN.out]; exact hsm
  have hA := H3.out.A (by rw [← HN.out]; omega)
  have HZ := Aside0.mk hz
  have HY := Aside0.mk hyl
  clear hyl hsm hk hz hb
  rw [hA]
  have CL : Aside0 (s2.n = css2.length ∧ ys.length = css2.length) := ⟨HN.out, HY.out.symm⟩
  go_wp2_with fail
  · refine (each_c _ _ _ b (off + k * 43) ((css2.drop k).take most.toNat) ((ys.drop k).take most.toNat) w3 ((H3.out.drop k).take most.toNat) ?len).mono ?_
    case len =>
      have := CL.out
      simp only [List.length_take, List.length_drop]
      omega
    rintro e w4 ⟨v, rfl, hR, hb4⟩
    have hR2 := Aside0.mk hR
    clear hR
    go_wp2
    go_ret
    refine ⟨_, rfl, ?_, q3.trans (hb4.mono q3.size)⟩
    rw [← HZ.out]
    exact Kd.R_lower hR2.out q3.size
  · refine (each_c _ _ _ b (off + k * 43) ((css2.drop k).take most.toNat) ((ys.drop k).take most.toNat) w3 ((H3.out.drop k).take most.toNat) ?len).mono ?_
    case len =>
      have := CL.out
      simp only [List.length_take, List.length_drop]
      omega
    rintro e w4 ⟨v, rfl, hR, hb4⟩
    have hR2 := Aside0.mk hR
    clear hR
    go_wp2
    go_ret
    refine ⟨_, rfl, ?_, q3.trans (hb4.mono q3.size)⟩
    rw [← HZ.out]
    exact Kd.R_lower hR2.out q3.size
end Go.Proofs.Ytpjachbmllklgaa.Rng
