/- Several texts in one. -/
import Derived.Test.YtadkeohohehmcaaGreatDoorTrA
import Derived.Tactics
import Derived.Tactics2
import Derived.Defers
import Derived.Laws.Pointers
import Derived.Laws.LoneSync
import Derived.RegionTactic
import Derived.RegionCalls
import Derived.ChangeAlike
import Derived.Laws.NewBlocks
import Derived.Test.YtadkeohohehmcaaGreatDoorTrB
section
/- sync.Once, one goroutine (turned after the worked LazyParts, LazySlow, LazyWalks). -/
namespace Go.Proofs.YtadkeohohehmcaaGreatDoor.Top
open Go.RowKit Go.Proofs.YtadkeohohehmcaaGreatDoorW.PrintWords Go.Proofs.YtadkeohohehmcaaGreatDoorW.PrintLast Go.Proofs.YtadkeohohehmcaaGreatDoorW.PrintMore

theorem disable (w : World) : (callFunc 127 #[]).run Tryz.prog w = .ok (.value (.tuple #[])) w := run_call_mark0 Tryz.func127 (by kernel_rfl) (by kernel_rfl) (by kernel_rfl) .disable (by kernel_rfl) w
theorem enable (w : World) : (callFunc 129 #[]).run Tryz.prog w = .ok (.value (.tuple #[])) w := run_call_mark0 Tryz.func129 (by kernel_rfl) (by kernel_rfl) (by kernel_rfl) .enable (by kernel_rfl) w
theorem acquire (a : Addr) (w : World) : (callFunc 130 #[.pointer (some a)]).run Tryz.prog w = .ok (.value (.tuple #[])) w := run_call_marked Tryz.func130 (by kernel_rfl) (by kernel_rfl) (by kernel_rfl) .acquire (by kernel_rfl) a w
theorem releaseMerge (a : Addr) (w : World) : (callFunc 132 #[.pointer (some a)]).run Tryz.prog w = .ok (.value (.tuple #[])) w := run_call_marked Tryz.func132 (by kernel_rfl) (by kernel_rfl) (by kernel_rfl) .releaseMerge (by kernel_rfl) a w

theorem store_deferred (a : Addr) (x : Value) (u : FrameMode) (w : World) (hc : w.cell? a = some x) (hz : w.frozen? a = false) :
    CallsD Tryz.prog 116 #[.pointer (some a), .bool true] u w fun e u' w' => u' = u ∧ (e = .returned (.tuple #[]) ∧ w' = w.drew.setCell a (.int .u32 1)) := by
  have hc' : w.drew.cell? a = some x := by go_simp
  have hz' : w.drew.frozen? a = false := by go_simp
  have hst := run_call_store (P := Tryz.prog) Tryz.func124 (by kernel_rfl) (by kernel_rfl) (by kernel_rfl) (by kernel_rfl) (k := .u32) (y := 1) hc' hz'
  go_enter_d Tryz.func116, Tryz.ntmps116
  go_wp2
  go_region_calls
  all_goals (go_end0; exact ⟨rfl, rfl⟩)

set_option maxRecDepth 100000 in
set_option maxHeartbeats 1600000 in
theorem unlock_deferred (a : Addr) (u : FrameMode) (w : World) (hc : w.cell? a = some (.int .i32 1)) (hz : w.frozen? a = false) :
    CallsD Tryz.prog 115 #[.pointer (some a)] u w fun e u' w' => u' = u ∧ (e = .returned (.tuple #[]) ∧ w' = w.setCell a (.int .i32 0)) := by
  have hd := disable
  have he := enable
  have hr := releaseMerge
  have hadd := run_call_add (P := Tryz.prog) Tryz.func133 (by kernel_rfl) (by kernel_rfl) (by kernel_rfl) .i32 (by kernel_rfl) (y := -1) (s := 0) hc hz (by simp [go_sem]; rfl)
  have hcv := run_convert_to_unsafe (P := Tryz.prog) (src := 201) (dst := 205) Tryz.underlying201 Tryz.underlying205 (by kernel_rfl) hc
  go_enter_d Tryz.func115, Tryz.ntmps115
  go_wp2
  go_end0
  go_wp2
  go_end0
  exact ⟨rfl, rfl⟩

set_option maxRecDepth 100000 in
set_option maxHeartbeats 1600000 in
theorem lock_free (a : Addr) (w : World) (hc : w.cell? a = some (.int .i32 0)) (hz : w.frozen? a = false) :
    Calls Tryz.prog 114 #[.pointer (some a)] w fun e w' => e = .returned (.tuple #[]) ∧ w' = w.setCell a (.int .i32 1) := by
  have hd := disable
  have he := enable
  have ha := acquire
  have hcas := run_call_cas_hit (P := Tryz.prog) Tryz.func128 (by kernel_rfl) (by kernel_rfl) (by kernel_rfl) .i32 (by kernel_rfl) (y := 1) hc hz
  have hc' : (w.setCell a (.int .i32 1)).cell? a = some (.int .i32 1) := World.cell?_setCell_same w a _ hc
  have hcv := run_convert_to_unsafe (P := Tryz.prog) (src := 201) (dst := 205) Tryz.underlying201 Tryz.underlying205 (by kernel_rfl) hc'
  go_enter Tryz.func114, Tryz.ntmps114
  go_wp2
  first | go_end0 | (simp only [Exit.inBlock, Exit.then]; refine bodyPost_ret (results_none rfl _ _ _) rfl ?_) | refine bodyPost_ret (results_none rfl _ _ _) rfl ?_
  go_wp2
  go_end0
  exact ⟨rfl, rfl⟩

set_option maxRecDepth 100000 in
set_option maxHeartbeats 1600000 in
theorem slow_c (b : Nat) (c1 c2 : Value) (w : World) (R : World → Prop)
    (h0 : w.cell? ⟨b, 0, none⟩ = some (.int .u32 0)) (h1 : w.cell? ⟨b, 1, none⟩ = some (.int .i32 0)) (f0 : w.frozen? ⟨b, 0, none⟩ = false) (f1 : w.frozen? ⟨b, 1, none⟩ = false)
    (HC : Calls Tryz.prog 81 #[c1, c2] (w.setCell ⟨b, 1, none⟩ (.int .i32 1)) fun e w' => e = .returned (.tuple #[]) ∧ R w')
    (HR : ∀ w', R w' → w'.cell? ⟨b, 0, none⟩ = some (.int .u32 0) ∧ w'.frozen? ⟨b, 0, none⟩ = false ∧ w'.cell? ⟨b, 1, none⟩ = some (.int .i32 1) ∧ w'.frozen? ⟨b, 1, none⟩ = false) :
    Calls Tryz.prog 97 #[.pointer (some ⟨b, 0, none⟩), .func (.func 81) #[] #[c1, c2]] w fun e w' => e = .returned (.tuple #[]) ∧ ∃ w1, R w1 ∧ w' = (w1.drew.setCell ⟨b, 0, none⟩ (.int .u32 1)).setCell ⟨b, 1, none⟩ (.int .i32 0) := by
  have hl := run_call_load (P := Tryz.prog) Tryz.func113 (by kernel_rfl) (by kernel_rfl) (by kernel_rfl) .u32 (by kernel_rfl) (w := w.setCell ⟨b, 1, none⟩ (.int .i32 1)) (a := ⟨b, 0, none⟩) (x := 0) ((World.cell?_setCell_other _ ⟨b, 1, none⟩ ⟨b, 0, none⟩ _ (by simp)).trans h0)
  have hnot : ∀ (x : Bool) (w : World), (Op.unary .not (.bool x)).run Tryz.prog w = .ok (.bool (!x)) w := fun _ _ => rfl
  have HCC := Aside0.mk HC
  clear HC
  go_enter_defers Tryz.func97, Tryz.ntmps97
  go_wp2_with (first | (go_at_call 114; refine (lock_free ⟨b, 1, none⟩ _ (by go_simp) (by go_simp)).mono ?_; rintro e w' ⟨rfl, rfl⟩) | (go_at_call 81; refine HCC.out.mono ?_; rintro e w1 ⟨rfl, hR⟩) | (go_at_call 96; go_in))
  obtain ⟨r0, r1, r2, r3⟩ := HR w1 hR
  have HRR := Aside0.mk hR
  clear HCC hR HR
  go_wp2
  refine leaves_cons (f := 116) (args := #[.pointer (some ⟨b, 0, none⟩), .bool true]) (by simp) (by simp [go_sem]) ?_
  refine (store_deferred ⟨b, 0, none⟩ (.int .u32 0) .returning _ r0 r1).mono ?_
  rintro e u' w'' ⟨rfl, rfl, rfl⟩
  refine leaves_cons (f := 115) (args := #[.pointer (some ⟨b, 1, none⟩)]) (by simp [settle]) (by simp [go_sem]) ?_
  refine (unlock_deferred ⟨b, 1, none⟩ _ _ ?_ ?_).mono ?_
  · refine (World.cell?_setCell_other _ ⟨b, 0, none⟩ ⟨b, 1, none⟩ _ (by simp)).trans ?_
    rw [World.cell?_drew]
    exact r2
  · simp [r3]
  rintro e u' w'' ⟨rfl, rfl, rfl⟩
  have hRo := HRR.out
  simp [Leaves, settle, results, Tryz.results97]
  exact ⟨w1, hRo, rfl⟩

set_option maxRecDepth 100000 in
set_option maxHeartbeats 1600000 in
/-- '(*sync.Once).Do', not yet done, the lock free. -/
theorem do_c (b : Nat) (c1 c2 : Value) (w : World) (R : World → Prop)
    (h0 : w.cell? ⟨b, 0, none⟩ = some (.int .u32 0)) (h1 : w.cell? ⟨b, 1, none⟩ = some (.int .i32 0)) (f0 : w.frozen? ⟨b, 0, none⟩ = false) (f1 : w.frozen? ⟨b, 1, none⟩ = false)
    (HC : Calls Tryz.prog 81 #[c1, c2] (w.setCell ⟨b, 1, none⟩ (.int .i32 1)) fun e w' => e = .returned (.tuple #[]) ∧ R w')
    (HR : ∀ w', R w' → w'.cell? ⟨b, 0, none⟩ = some (.int .u32 0) ∧ w'.frozen? ⟨b, 0, none⟩ = false ∧ w'.cell? ⟨b, 1, none⟩ = some (.int .i32 1) ∧ w'.frozen? ⟨b, 1, none⟩ = false) :
    Calls Tryz.prog 80 #[.pointer (some ⟨b, 0, none⟩), .func (.func 81) #[] #[c1, c2]] w fun e w' => e = .returned (.tuple #[]) ∧ ∃ w1, R w1 ∧ w' = (w1.drew.setCell ⟨b, 0, none⟩ (.int .u32 1)).setCell ⟨b, 1, none⟩ (.int .i32 0) := by
  have hl := run_call_load (P := Tryz.prog) Tryz.func113 (by kernel_rfl) (by kernel_rfl) (by kernel_rfl) .u32 (by kernel_rfl) h0
  have hnot : ∀ (x : Bool) (w : World), (Op.unary .not (.bool x)).run Tryz.prog w = .ok (.bool (!x)) w := fun _ _ => rfl
  have SL := Aside0.mk (slow_c b c1 c2 w R h0 h1 f0 f1 HC HR)
  clear HC HR
  go_enter Tryz.func80, Tryz.ntmps80
  go_wp2_with (first | (go_at_call 97; refine SL.out.mono ?_; rintro e w' ⟨rfl, w1, hR, rfl⟩) | (go_at_call 96; go_in))
  go_end0
  exact ⟨rfl, w1, hR, rfl⟩
end Go.Proofs.YtadkeohohehmcaaGreatDoor.Top
end
section
/- A tree's digest. -/
namespace Go.Proofs.YtadkeohohehmcaaGreatDoor.Top
open Go.RowKit Go.Proofs.YtadkeohohehmcaaGreatDoorW.PrintWords Go.Proofs.YtadkeohohehmcaaGreatDoorW.PrintLast Go.Proofs.YtadkeohohehmcaaGreatDoorW.PrintMore Go.Proofs.YtadkeohohehmcaaGreatDoor.PTop
set_option linter.unusedVariables false
set_option linter.unusedSimpArgs false
attribute [local go_sem] Oper.semAt_some

/-- All but the blocks 'bs' is as it was. -/
structure Tou (bs : List Nat) (w w' : World) : Prop where
  os : w'.os = w.os
  tape : w'.tape = w.tape
  output : w'.output = w.output
  size : w.heap.size ≤ w'.heap.size
  block : ∀ k, k ∉ bs → k < w.heap.size → w'.heap[k]? = w.heap[k]?
theorem Tou.of_below {w w' : World} (bs : List Nat) (h : Below w.heap.size w w') : Tou bs w w' := ⟨h.os, h.tape, h.output, h.size, fun k _ hk => h.block k hk⟩
theorem Tou.trans {bs : List Nat} {a b c : World} (h : Tou bs a b) (k : Tou bs b c) : Tou bs a c :=
  ⟨k.os.trans h.os, k.tape.trans h.tape, k.output.trans h.output, Nat.le_trans h.size k.size, fun i h1 h2 => (k.block i h1 (Nat.lt_of_lt_of_le h2 h.size)).trans (h.block i h1 h2)⟩
theorem Tou.mono {bs cs : List Nat} {a b : World} (h : Tou bs a b) (hs : ∀ k ∈ bs, k ∈ cs) : Tou cs a b := ⟨h.os, h.tape, h.output, h.size, fun k hk hl => h.block k (fun hm => hk (hs k hm)) hl⟩
theorem Tou.cell {bs : List Nat} {a b : World} (h : Tou bs a b) {k i : Nat} (hk : k ∉ bs) (hl : k < a.heap.size) : b.cell? ⟨k, i, none⟩ = a.cell? ⟨k, i, none⟩ := World.cell?_of_block (w := a) (h.block k hk hl)
theorem Tou.setCells {bs : List Nat} {a b : World} (h : Tou bs a b) {g o : Nat} (hg : g ∈ bs) (vs : List Value) : Tou bs a (b.setCells g o vs) := by
  obtain ⟨s1, s2, s3, s4⟩ := setCells_same g vs o b
  exact ⟨s1.trans h.os, s2.trans h.tape, s3.trans h.output, by rw [s4]; exact h.size, fun k hk hl => (setCells_far vs o k (fun e => hk (e ▸ hg))).trans (h.block k hk hl)⟩
theorem Tou.setCell {bs : List Nat} {a b : World} (h : Tou bs a b) {g o : Nat} (hg : g ∈ bs) (v : Value) : Tou bs a (b.setCell ⟨g, o, none⟩ v) := h.setCells hg [v]
theorem Tou.drew {bs : List Nat} {a b : World} (h : Tou bs a b) : Tou bs a b.drew := ⟨h.os, h.tape, h.output, h.size, h.block⟩

/-- A knot whose digest is being made. -/
structure Knot (w : World) (b : Nat) (p v : List Int) (x y : Option Addr) : Prop where
  c0 : w.cell? ⟨b, 0, none⟩ = some (.int .u32 0)
  c1 : w.cell? ⟨b, 1, none⟩ = some (.int .i32 1)
  fz : ∀ j, w.frozen? ⟨b, j, none⟩ = false
  th : w.there b 3 32
  lf : w.rangeAt b 35 ((p ++ v).map (Value.int .u8))
  cl : w.cell? ⟨b, 99, none⟩ = some (.pointer x)
  cr : w.cell? ⟨b, 100, none⟩ = some (.pointer y)
  lt : b < w.heap.size
/-- What the closure leaves. -/
structure CloPost (w : World) (bs : List Nat) (b : Nat) (d : List Int) (w' : World) : Prop where
  c0 : w'.cell? ⟨b, 0, none⟩ = some (.int .u32 0)
  c1 : w'.cell? ⟨b, 1, none⟩ = some (.int .i32 1)
  fz : ∀ j, w'.frozen? ⟨b, j, none⟩ = false
  d : w'.rangeAt b 3 (d.map (Value.int .u8))
  tou : Tou bs w w'
/-- From the last world but for the digest to the closure's end. -/
theorem CloPost.of {w W : World} {bs : List Nat} {b : Nat} {d : List Int} (hd : d.length = 32) (hb : b ∈ bs) (ht : Tou bs w W) (he : W.heap[b]? = w.heap[b]?) (h0 : w.cell? ⟨b, 0, none⟩ = some (.int .u32 0)) (h1 : w.cell? ⟨b, 1, none⟩ = some (.int .i32 1)) (hf : ∀ j, w.frozen? ⟨b, j, none⟩ = false) (hth : w.there b 3 32) :
    W.there b 3 32 ∧ CloPost w bs b d (W.setCells b 3 (d.map (Value.int .u8))) := by
  have ec : ∀ j, W.cell? ⟨b, j, none⟩ = w.cell? ⟨b, j, none⟩ := fun j => World.cell?_of_block (w := w) he
  have ef : ∀ j, W.frozen? ⟨b, j, none⟩ = w.frozen? ⟨b, j, none⟩ := fun j => World.frozen?_of_block (w := w) he
  have th : W.there b 3 32 := fun j hj => ⟨by rw [ec]; exact (hth j hj).1, by rw [ef]; exact (hth j hj).2⟩
  refine ⟨th, ⟨?_, ?_, fun j => ?_, World.rangeAt_setCells_same W b 3 _ (by simpa [hd] using th), ht.setCells hb _⟩⟩
  · rw [World.cell?_setCells_out b _ 3 W ⟨b, 0, none⟩ (fun _ _ => Or.inl (by show 0 < 3; omega)), ec, h0]
  · rw [World.cell?_setCells_out b _ 3 W ⟨b, 1, none⟩ (fun _ _ => Or.inl (by show 1 < 3; omega)), ec, h1]
  · rw [World.frozen?_setCells, ef, hf]

set_option maxHeartbeats 2000000 in
set_option maxRecDepth 100000 in
theorem clo_leaf (KS p v : List Int) (hp : p.length = 32) (hv : v.length = 32) (b A B : Nat) (w : World) (hk : HKey KS w) (hA : w.cell? ⟨A, 0, none⟩ = some (.pointer (some ⟨b, 0, none⟩))) (hB : w.cell? ⟨B, 0, none⟩ = some (.int .i64 32))
    (hAb : A ≠ b) (hBb : B ≠ b) (hAl : A < w.heap.size) (hBl : B < w.heap.size) (K : Knot w b p v none none) :
    Calls Tryz.prog 81 #[.pointer (some ⟨A, 0, none⟩), .pointer (some ⟨B, 0, none⟩)] w fun e w' => e = .returned (.tuple #[]) ∧ CloPost w [b] b (leafF KS p v) w' := by
  have hi89 : (Tryz.prog.info? 89).map (·.size) = some ((p ++ v).map (Value.int .u8)).length := by rw [List.length_map, List.length_append, hp, hv]; kernel_rfl
  have hl := leafF_len KS p v
  have hi31 := info31 _ hl
  have h1c := dig_one (leafF KS p v)
  have IN := Aside0.mk (inner_knot b none none w K.cl K.cr)
  have LF := K.lf
  have hw0 := hk.pos
  have C0 : Aside0 (∀ W : World, Below w.heap.size w W → Calls Tryz.prog 83 #[.int .i64 32, dv (p ++ v)] W fun e w' => e = .returned (dv (leafF KS p v)) ∧ Below W.heap.size W w') := ⟨fun W hW => leaf_c KS p v hp hv W (hk.below hW hw0)⟩
  have PV : dv (p ++ v) = .agg ((p ++ v).map (Value.int .u8)).toArray := rfl
  rw [PV] at C0
  have CP : Aside0 (∀ W : World, Below w.heap.size w W → W.there b 3 32 ∧ CloPost w [b] b (leafF KS p v) (W.setCells b 3 ((leafF KS p v).map (Value.int .u8)))) := ⟨fun W hW =>
    CloPost.of hl (List.mem_singleton.2 rfl) (Tou.of_below _ hW) (hW.block b K.lt) K.c0 K.c1 K.fz K.th⟩
  have KK := Aside0.mk K
  clear hk PV K
  generalize leafF KS p v = d at *
  generalize (p ++ v).map (Value.int .u8) = lf at *
  unfold dv at C0
  go_enter Tryz.func81, Tryz.ntmps81
  go_upto_region 2 with (go_at_call 77; refine IN.out.mono ?_; rintro e w' ⟨rfl, hw⟩; replace hw := hw.symm; subst hw)
  refine wp_region_held_drew (S := (fun W => W.cell? ⟨A, 0, none⟩ = some (.pointer (some ⟨b, 0, none⟩)) ∧ W.cell? ⟨B, 0, none⟩ = some (.int .i64 32) ∧ W.rangeAt b 35 lf)) (by kernel_rfl) (by exact ⟨hA, hB, LF⟩) (fun hHeld => ?_)
  refine wpAnyH_take (i := 0) (oi := _) (v := ?_) rfl (by kernel_rfl) (by kernel_rfl) (by kernel_rfl) (fun _ _ _ h => h) (Or.inl ⟨by rfl, ?_⟩) (by assumption) ?_
  rotate_left
  · (intro w hSw; (try dsimp only at hSw); have s1 := hSw.1; have s2 := hSw.2.1; clear hSw; go_simp; (try with_reducible rfl))
  (try simp only [uA, uB, uC, uD, uE, uF, uG, uH])
  refine wpAnyH_take (i := 1) (oi := _) (v := ?_) rfl (by kernel_rfl) (by kernel_rfl) (by kernel_rfl) (fun _ _ _ h => h) (Or.inl ⟨by rfl, ?_⟩) (by assumption) ?_
  rotate_left
  · (intro w hSw; (try dsimp only at hSw); have s1 := hSw.1; have s2 := hSw.2.1; clear hSw; go_simp; (try with_reducible rfl))
  (try simp only [uA, uB, uC, uD, uE, uF, uG, uH])
  refine wpAnyH_take (i := 2) (oi := _) (v := ?_) rfl (by kernel_rfl) (by kernel_rfl) (by kernel_rfl) (fun _ _ _ h => h) (Or.inl ⟨by rfl, ?_⟩) (by assumption) ?_
  rotate_left
  · (intro w hSw; (try dsimp only at hSw); have s1 := hSw.1; have s2 := hSw.2.1; clear hSw; go_simp; (try with_reducible rfl))
  (try simp only [uA, uB, uC, uD, uE, uF, uG, uH])
  refine wpAnyH_take (i := 3) (oi := _) (v := ?_) rfl (by kernel_rfl) (by kernel_rfl) (by kernel_rfl) (fun _ _ _ h => h) (Or.inl ⟨by rfl, ?_⟩) (by assumption) ?_
  rotate_left
  · (intro w hSw; (try dsimp only at hSw); have s1 := hSw.1; have s2 := hSw.2.1; clear hSw; go_simp; (try with_reducible rfl))
  (try simp only [uA, uB, uC, uD, uE, uF, uG, uH])
  refine wpAnyH_take (i := 4) (oi := _) (v := ?_) rfl (by kernel_rfl) (by kernel_rfl) (by kernel_rfl) (fun _ _ _ h => h) (Or.inl ⟨by rfl, ?_⟩) (by assumption) ?_
  rotate_left
  · (intro w hSw; (try dsimp only at hSw); have s1 := hSw.1; have s2 := hSw.2.1; clear hSw; go_simp; (try with_reducible rfl))
  (try simp only [uA, uB, uC, uD, uE, uF, uG, uH])
  refine wpAnyH_take (i := 5) (oi := _) (v := _) rfl (by kernel_rfl) (by kernel_rfl) (by kernel_rfl) (fun _ _ _ h => h) (yieldsIf_load_mid (by rfl) 89 (.tmp 26) rfl b 35 rfl _ _ (fun W hW => hW.2.2) Tryz.underlying89 rfl hi89) (by assumption) ?_
  (try simp only [uA, uB, uC, uD, uE, uF, uG, uH])
  refine wpAnyH_ready (rs := [6]) (by kernel_rfl) (by decide) (AllReadyH.cons rfl (fun K' hK => ?_) AllReadyH.nil)
  rw [if_pos (by rfl)]
  go_simp
  refine (C0.out w.drew ((Below.refl _ w).drew)).mono ?_
  rintro e w' ⟨rfl, hb'⟩
  (try dsimp only)
  refine hK.out _ _ (by exact ⟨(hb'.cell (p := ⟨A, 0, none⟩) hAl).trans hA, (hb'.cell (p := ⟨B, 0, none⟩) hBl).trans hB, fun j u hj => (hb'.cell (p := ⟨b, 35 + j, none⟩) KK.out.lt).trans (LF j u hj)⟩) (fun hHeld => ?_)
  clear hK
  (try simp only [uA, uB, uC, uD, uE, uF, uG, uH])
  refine wpAnyH_take (i := 7) (oi := _) (v := ?_) rfl (by kernel_rfl) (by kernel_rfl) (by kernel_rfl) (fun _ _ _ h => h) (Or.inl ⟨by rfl, ?_⟩) (by assumption) ?_
  rotate_left
  · (intro w hSw; (try dsimp only at hSw); have s1 := hSw.1; have s2 := hSw.2.1; clear hSw; go_simp; (try with_reducible rfl))
  (try simp only [uA, uB, uC, uD, uE, uF, uG, uH])
  refine wpAnyH_take (i := 8) (oi := _) (v := ?_) rfl (by kernel_rfl) (by kernel_rfl) (by kernel_rfl) (fun _ _ _ h => h) (Or.inl ⟨by rfl, ?_⟩) (by assumption) ?_
  rotate_left
  · (intro w hSw; (try dsimp only at hSw); have s1 := hSw.1; have s2 := hSw.2.1; clear hSw; go_simp; (try with_reducible rfl))
  (try simp only [uA, uB, uC, uD, uE, uF, uG, uH])
  refine wpAnyH_take (i := 9) (oi := _) (v := ?_) rfl (by kernel_rfl) (by kernel_rfl) (by kernel_rfl) (fun _ _ _ h => h) (Or.inl ⟨by rfl, ?_⟩) (by assumption) ?_
  rotate_left
  · (intro w hSw; (try dsimp only at hSw); have s1 := hSw.1; have s2 := hSw.2.1; clear hSw; go_simp; (try with_reducible rfl))
  (try simp only [uA, uB, uC, uD, uE, uF, uG, uH])
  have q2 : Below w.heap.size w w' := ((Below.refl _ w).drew).trans hb'
  have CP2 := CP.out w' q2
  refine wpAnyH_ready (rs := [10]) (by kernel_rfl) (by decide) (AllReadyH.cons rfl (fun K' hK => ?_) AllReadyH.nil)
  rw [if_pos (by rfl)]
  refine wp_store_mid 31 (.tmp 31) (.tmp 28) rfl b 3 (d.map (Value.int .u8)).toArray rfl rfl (by simpa [hl] using CP2.1) hi31 h1c ?_
  refine hK.out _ _ (by exact ⟨(World.cell?_setCells_out b _ 3 w' ⟨A, 0, none⟩ (fun e _ => absurd e hAb)).trans hHeld.1, (World.cell?_setCells_out b _ 3 w' ⟨B, 0, none⟩ (fun e _ => absurd e hBb)).trans hHeld.2.1, World.rangeAt_setCells_apart hHeld.2.2 b 3 _ (Or.inr (Or.inr (by simp [hl])))⟩) (fun hHeld => ?_)
  clear hK
  refine wpAnyH_done (by kernel_rfl) ?_ _
  have CP3 := Aside0.mk CP2.2
  clear CP2 CP C0
  go_wp2_with fail
  go_end0
  exact ⟨rfl, CP3.out⟩
end Go.Proofs.YtadkeohohehmcaaGreatDoor.Top
end
section
/- A tree's digest: a node's. -/
namespace Go.Proofs.YtadkeohohehmcaaGreatDoor.Top
open Go.RowKit Go.Proofs.YtadkeohohehmcaaGreatDoorW.PrintWords Go.Proofs.YtadkeohohehmcaaGreatDoorW.PrintLast Go.Proofs.YtadkeohohehmcaaGreatDoorW.PrintMore Go.Proofs.YtadkeohohehmcaaGreatDoor.PTop
set_option linter.unusedVariables false
set_option linter.unusedSimpArgs false
attribute [local go_sem] Oper.semAt_some

theorem HKey.tou {KS : List Int} {w w' : World} {bs : List Nat} (h : HKey KS w) (ht : Tou bs w w') (h0 : 0 ∉ bs) : HKey KS w' := fun j hj => (ht.cell h0 h.pos).trans (h j hj)
/-- The contract of (*knot).digest. -/
def DigH (KS : List Int) (t : AT) : Prop := ∀ w : World, HKey KS w → t.rep w → t.blocks.Nodup → 0 ∉ t.blocks →
  Calls Tryz.prog 60 #[.pointer t.adr, .int .i64 32] w fun e w' => e = .returned (dv (t.un.dig KS)) ∧ Tou t.blocks w w'

set_option maxHeartbeats 4000000 in
set_option maxRecDepth 100000 in
theorem clo_node (KS : List Int) (l r : AT) (DL : DigH KS l) (DR : DigH KS r) (b A B : Nat) (w : World) (hk : HKey KS w) (hA : w.cell? ⟨A, 0, none⟩ = some (.pointer (some ⟨b, 0, none⟩))) (hB : w.cell? ⟨B, 0, none⟩ = some (.int .i64 32))
    (hAb : A ∉ b :: (l.blocks ++ r.blocks)) (hBb : B ∉ b :: (l.blocks ++ r.blocks)) (hAl : A < w.heap.size) (hBl : B < w.heap.size) (K : Knot w b z32i z32i l.adr r.adr) (hs : l.adr.isSome = true ∨ r.adr.isSome = true) (rl : l.rep w) (rr : r.rep w) (nd : (b :: (l.blocks ++ r.blocks)).Nodup) (nz : 0 ∉ b :: (l.blocks ++ r.blocks)) :
    Calls Tryz.prog 81 #[.pointer (some ⟨A, 0, none⟩), .pointer (some ⟨B, 0, none⟩)] w fun e w' => e = .returned (.tuple #[]) ∧ CloPost w (b :: (l.blocks ++ r.blocks)) b (nodeF KS (l.un.dig KS) (r.un.dig KS)) w' := by
  have hl := nodeF_len KS (l.un.dig KS) (r.un.dig KS)
  have hi31 := info31 _ hl
  have h1c := dig_one (nodeF KS (l.un.dig KS) (r.un.dig KS))
  have hw0 := hk.pos
  have e1 : (l.adr.isSome || r.adr.isSome) = true := by rcases hs with h | h <;> simp [h]
  have IN := inner_knot b l.adr r.adr w K.cl K.cr
  rw [e1] at IN
  have INN := Aside0.mk IN
  rw [List.nodup_cons, List.nodup_append] at nd
  have ml : ∀ k ∈ l.blocks, k ∈ b :: (l.blocks ++ r.blocks) := fun k h => List.mem_cons_of_mem _ (List.mem_append_left _ h)
  have mr : ∀ k ∈ r.blocks, k ∈ b :: (l.blocks ++ r.blocks) := fun k h => List.mem_cons_of_mem _ (List.mem_append_right _ h)
  have bl : b ∉ l.blocks := fun h => nd.1 (List.mem_append_left _ h)
  have br : b ∉ r.blocks := fun h => nd.1 (List.mem_append_right _ h)
  have CL : Aside0 (Calls Tryz.prog 60 #[.pointer l.adr, .int .i64 32] w.drew fun e w' => e = .returned (dv (l.un.dig KS)) ∧ Tou l.blocks w.drew w') := ⟨DL w.drew (hk.below ((Below.refl _ w).drew) hw0) (AT.rep_below rl ((Below.refl _ w).drew)) nd.2.1 (fun h => nz (ml 0 h))⟩
  have CR : Aside0 (∀ W : World, Tou l.blocks w.drew W → Calls Tryz.prog 60 #[.pointer r.adr, .int .i64 32] W fun e w' => e = .returned (dv (r.un.dig KS)) ∧ Tou r.blocks W w') := ⟨fun W hW =>
    DR W ((hk.below ((Below.refl _ w).drew) hw0).tou hW (fun h => nz (ml 0 h))) (AT.rep_frame rr fun k h => hW.block k (fun h2 => nd.2.2.2 k h2 k h rfl) (AT.rep_lt rr k h)) nd.2.2.1 (fun h => nz (mr 0 h))⟩
  have CN : Aside0 (∀ W : World, Tou (b :: (l.blocks ++ r.blocks)) w W → Calls Tryz.prog 82 #[.int .i64 32, dv (l.un.dig KS), dv (r.un.dig KS)] W fun e w' => e = .returned (dv (nodeF KS (l.un.dig KS) (r.un.dig KS))) ∧ Below W.heap.size W w') := ⟨fun W hW => node_c KS _ _ (U.dig_len _ _) (U.dig_len _ _) W (hk.tou hW nz)⟩
  have CP : Aside0 (∀ W : World, Tou (b :: (l.blocks ++ r.blocks)) w W → W.heap[b]? = w.heap[b]? → W.there b 3 32 ∧ CloPost w (b :: (l.blocks ++ r.blocks)) b (nodeF KS (l.un.dig KS) (r.un.dig KS)) (W.setCells b 3 ((nodeF KS (l.un.dig KS) (r.un.dig KS)).map (Value.int .u8)))) := ⟨fun W hW hb =>
    CloPost.of hl List.mem_cons_self hW hb K.c0 K.c1 K.fz K.th⟩
  have hAlb : A ∉ l.blocks := fun h => hAb (ml A h)
  have hArb : A ∉ r.blocks := fun h => hAb (mr A h)
  have hBlb : B ∉ l.blocks := fun h => hBb (ml B h)
  have hBrb : B ∉ r.blocks := fun h => hBb (mr B h)
  have hA0 : A ≠ b := fun h => hAb (h ▸ List.mem_cons_self)
  have hB0 : B ≠ b := fun h => hBb (h ▸ List.mem_cons_self)
  have hb0 := K.lt
  have k99 := K.cl
  have k100 := K.cr
  have ML := Aside0.mk ml
  have MR := Aside0.mk mr
  clear hk IN K hs rl rr nd nz ml mr DL DR hAb hBb e1
  generalize nodeF KS (l.un.dig KS) (r.un.dig KS) = d at *
  generalize l.un.dig KS = dl at *
  generalize r.un.dig KS = dr at *
  generalize l.adr = la at *
  generalize r.adr = ra at *
  generalize l.blocks = lbs at *
  generalize r.blocks = rbs at *
  go_enter Tryz.func81, Tryz.ntmps81
  go_upto_region 1 with (go_at_call 77; refine INN.out.mono ?_; rintro e w' ⟨rfl, hw⟩; replace hw := hw.symm; subst hw)
  refine wp_region_held_drew (S := (fun W => W.cell? ⟨A, 0, none⟩ = some (.pointer (some ⟨b, 0, none⟩)) ∧ W.cell? ⟨B, 0, none⟩ = some (.int .i64 32) ∧ W.cell? ⟨b, 99, none⟩ = some (.pointer la) ∧ W.cell? ⟨b, 100, none⟩ = some (.pointer ra))) (by kernel_rfl) (by exact ⟨hA, hB, k99, k100⟩) (fun hHeld => ?_)
  refine wpAnyH_take (i := 0) (oi := _) (v := ?_) rfl (by kernel_rfl) (by kernel_rfl) (by kernel_rfl) (fun _ _ _ h => h) (Or.inl ⟨by rfl, ?_⟩) (by assumption) ?_
  rotate_left
  · (intro w hSw; (try dsimp only at hSw); have s1 := hSw.1; have s2 := hSw.2.1; have s3 := hSw.2.2.1; have s4 := hSw.2.2.2; clear hSw; go_simp; (try with_reducible rfl))
  (try simp only [uA, uB, uC, uD, uE, uF, uG, uH])
  refine wpAnyH_take (i := 1) (oi := _) (v := ?_) rfl (by kernel_rfl) (by kernel_rfl) (by kernel_rfl) (fun _ _ _ h => h) (Or.inl ⟨by rfl, ?_⟩) (by assumption) ?_
  rotate_left
  · (intro w hSw; (try dsimp only at hSw); have s1 := hSw.1; have s2 := hSw.2.1; have s3 := hSw.2.2.1; have s4 := hSw.2.2.2; clear hSw; go_simp; (try with_reducible rfl))
  (try simp only [uA, uB, uC, uD, uE, uF, uG, uH])
  refine wpAnyH_take (i := 2) (oi := _) (v := ?_) rfl (by kernel_rfl) (by kernel_rfl) (by kernel_rfl) (fun _ _ _ h => h) (Or.inl ⟨by rfl, ?_⟩) (by assumption) ?_
  rotate_left
  · (intro w hSw; (try dsimp only at hSw); have s1 := hSw.1; have s2 := hSw.2.1; have s3 := hSw.2.2.1; have s4 := hSw.2.2.2; clear hSw; go_simp; (try with_reducible rfl))
  (try simp only [uA, uB, uC, uD, uE, uF, uG, uH])
  refine wpAnyH_take (i := 3) (oi := _) (v := ?_) rfl (by kernel_rfl) (by kernel_rfl) (by kernel_rfl) (fun _ _ _ h => h) (Or.inl ⟨by rfl, ?_⟩) (by assumption) ?_
  rotate_left
  · (intro w hSw; (try dsimp only at hSw); have s1 := hSw.1; have s2 := hSw.2.1; have s3 := hSw.2.2.1; have s4 := hSw.2.2.2; clear hSw; go_simp; (try with_reducible rfl))
  (try simp only [uA, uB, uC, uD, uE, uF, uG, uH])
  refine wpAnyH_take (i := 4) (oi := _) (v := ?_) rfl (by kernel_rfl) (by kernel_rfl) (by kernel_rfl) (fun _ _ _ h => h) (Or.inl ⟨by rfl, ?_⟩) (by assumption) ?_
  rotate_left
  · (intro w hSw; (try dsimp only at hSw); have s1 := hSw.1; have s2 := hSw.2.1; have s3 := hSw.2.2.1; have s4 := hSw.2.2.2; clear hSw; go_simp; (try with_reducible rfl))
  (try simp only [uA, uB, uC, uD, uE, uF, uG, uH])
  refine wpAnyH_take (i := 5) (oi := _) (v := ?_) rfl (by kernel_rfl) (by kernel_rfl) (by kernel_rfl) (fun _ _ _ h => h) (Or.inl ⟨by rfl, ?_⟩) (by assumption) ?_
  rotate_left
  · (intro w hSw; (try dsimp only at hSw); have s1 := hSw.1; have s2 := hSw.2.1; have s3 := hSw.2.2.1; have s4 := hSw.2.2.2; clear hSw; go_simp; (try with_reducible rfl))
  (try simp only [uA, uB, uC, uD, uE, uF, uG, uH])
  refine wpAnyH_take (i := 6) (oi := _) (v := ?_) rfl (by kernel_rfl) (by kernel_rfl) (by kernel_rfl) (fun _ _ _ h => h) (Or.inl ⟨by rfl, ?_⟩) (by assumption) ?_
  rotate_left
  · (intro w hSw; (try dsimp only at hSw); have s1 := hSw.1; have s2 := hSw.2.1; have s3 := hSw.2.2.1; have s4 := hSw.2.2.2; clear hSw; go_simp; (try with_reducible rfl))
  (try simp only [uA, uB, uC, uD, uE, uF, uG, uH])
  refine wpAnyH_take (i := 8) (oi := _) (v := ?_) rfl (by kernel_rfl) (by kernel_rfl) (by kernel_rfl) (fun _ _ _ h => h) (Or.inl ⟨by rfl, ?_⟩) (by assumption) ?_
  rotate_left
  · (intro w hSw; (try dsimp only at hSw); have s1 := hSw.1; have s2 := hSw.2.1; have s3 := hSw.2.2.1; have s4 := hSw.2.2.2; clear hSw; go_simp; (try with_reducible rfl))
  (try simp only [uA, uB, uC, uD, uE, uF, uG, uH])
  refine wpAnyH_take (i := 9) (oi := _) (v := ?_) rfl (by kernel_rfl) (by kernel_rfl) (by kernel_rfl) (fun _ _ _ h => h) (Or.inl ⟨by rfl, ?_⟩) (by assumption) ?_
  rotate_left
  · (intro w hSw; (try dsimp only at hSw); have s1 := hSw.1; have s2 := hSw.2.1; have s3 := hSw.2.2.1; have s4 := hSw.2.2.2; clear hSw; go_simp; (try with_reducible rfl))
  (try simp only [uA, uB, uC, uD, uE, uF, uG, uH])
  refine wpAnyH_take (i := 10) (oi := _) (v := ?_) rfl (by kernel_rfl) (by kernel_rfl) (by kernel_rfl) (fun _ _ _ h => h) (Or.inl ⟨by rfl, ?_⟩) (by assumption) ?_
  rotate_left
  · (intro w hSw; (try dsimp only at hSw); have s1 := hSw.1; have s2 := hSw.2.1; have s3 := hSw.2.2.1; have s4 := hSw.2.2.2; clear hSw; go_simp; (try with_reducible rfl))
  (try simp only [uA, uB, uC, uD, uE, uF, uG, uH])
  refine wpAnyH_take (i := 11) (oi := _) (v := ?_) rfl (by kernel_rfl) (by kernel_rfl) (by kernel_rfl) (fun _ _ _ h => h) (Or.inl ⟨by rfl, ?_⟩) (by assumption) ?_
  rotate_left
  · (intro w hSw; (try dsimp only at hSw); have s1 := hSw.1; have s2 := hSw.2.1; have s3 := hSw.2.2.1; have s4 := hSw.2.2.2; clear hSw; go_simp; (try with_reducible rfl))
  (try simp only [uA, uB, uC, uD, uE, uF, uG, uH])
  refine wpAnyH_take (i := 12) (oi := _) (v := ?_) rfl (by kernel_rfl) (by kernel_rfl) (by kernel_rfl) (fun _ _ _ h => h) (Or.inl ⟨by rfl, ?_⟩) (by assumption) ?_
  rotate_left
  · (intro w hSw; (try dsimp only at hSw); have s1 := hSw.1; have s2 := hSw.2.1; have s3 := hSw.2.2.1; have s4 := hSw.2.2.2; clear hSw; go_simp; (try with_reducible rfl))
  (try simp only [uA, uB, uC, uD, uE, uF, uG, uH])
  refine wpAnyH_ready (rs := [7]) (by kernel_rfl) (by decide) (AllReadyH.cons rfl (fun K' hK => ?_) AllReadyH.nil)
  rw [if_pos (by rfl)]
  go_simp
  refine (CL.out).mono ?_
  rintro e W2 ⟨rfl, h2⟩
  (try dsimp only)
  refine hK.out _ _ (by exact ⟨(h2.cell hAlb hAl).trans hA, (h2.cell hBlb hBl).trans hB, (h2.cell bl hb0).trans k99, (h2.cell bl hb0).trans k100⟩) (fun hHeld => ?_)
  clear hK
  (try simp only [uA, uB, uC, uD, uE, uF, uG, uH])
  have z2 : w.heap.size ≤ W2.heap.size := h2.size
  have S2 := hHeld
  refine wpAnyH_ready (rs := [13]) (by kernel_rfl) (by decide) (AllReadyH.cons rfl (fun K' hK => ?_) AllReadyH.nil)
  rw [if_pos (by rfl)]
  go_simp
  refine (CR.out W2 h2).mono ?_
  rintro e W3 ⟨rfl, h3⟩
  (try dsimp only)
  refine hK.out _ _ (by exact ⟨(h3.cell hArb (Nat.lt_of_lt_of_le hAl z2)).trans S2.1, (h3.cell hBrb (Nat.lt_of_lt_of_le hBl z2)).trans S2.2.1, (h3.cell br (Nat.lt_of_lt_of_le hb0 z2)).trans S2.2.2.1, (h3.cell br (Nat.lt_of_lt_of_le hb0 z2)).trans S2.2.2.2⟩) (fun hHeld3 => ?_)
  clear hK
  (try simp only [uA, uB, uC, uD, uE, uF, uG, uH])
  have z3 : w.heap.size ≤ W3.heap.size := Nat.le_trans z2 h3.size
  have t3 : Tou (b :: (lbs ++ rbs)) w W3 := (Tou.of_below _ ((Below.refl _ w).drew)).trans ((h2.mono ML.out).trans (h3.mono MR.out))
  have b3 : W3.heap[b]? = w.heap[b]? := (h3.block b br (Nat.lt_of_lt_of_le hb0 z2)).trans (h2.block b bl hb0)
  refine wpAnyH_ready (rs := [14]) (by kernel_rfl) (by decide) (AllReadyH.cons rfl (fun K' hK => ?_) AllReadyH.nil)
  rw [if_pos (by rfl)]
  go_simp
  refine (CN.out W3 t3).mono ?_
  rintro e W4 ⟨rfl, h4⟩
  (try dsimp only)
  refine hK.out _ _ (by exact ⟨(h4.cell (p := ⟨A, 0, none⟩) (Nat.lt_of_lt_of_le hAl z3)).trans hHeld3.1, (h4.cell (p := ⟨B, 0, none⟩) (Nat.lt_of_lt_of_le hBl z3)).trans hHeld3.2.1, (h4.cell (p := ⟨b, 99, none⟩) (Nat.lt_of_lt_of_le hb0 z3)).trans hHeld3.2.2.1, (h4.cell (p := ⟨b, 100, none⟩) (Nat.lt_of_lt_of_le hb0 z3)).trans hHeld3.2.2.2⟩) (fun hHeld4 => ?_)
  clear hK
  (try simp only [uA, uB, uC, uD, uE, uF, uG, uH])
  have CP4 := CP.out W4 (t3.trans (Tou.of_below _ h4)) ((h4.block b (Nat.lt_of_lt_of_le hb0 z3)).trans b3)
  clear CL CR CN CP h2 h3 h4 t3 b3 z2 z3 S2
  refine wpAnyH_take (i := 15) (oi := _) (v := ?_) rfl (by kernel_rfl) (by kernel_rfl) (by kernel_rfl) (fun _ _ _ h => h) (Or.inl ⟨by rfl, ?_⟩) (by assumption) ?_
  rotate_left
  · (intro w hSw; (try dsimp only at hSw); have s1 := hSw.1; have s2 := hSw.2.1; have s3 := hSw.2.2.1; have s4 := hSw.2.2.2; clear hSw; go_simp; (try with_reducible rfl))
  (try simp only [uA, uB, uC, uD, uE, uF, uG, uH])
  refine wpAnyH_take (i := 16) (oi := _) (v := ?_) rfl (by kernel_rfl) (by kernel_rfl) (by kernel_rfl) (fun _ _ _ h => h) (Or.inl ⟨by rfl, ?_⟩) (by assumption) ?_
  rotate_left
  · (intro w hSw; (try dsimp only at hSw); have s1 := hSw.1; have s2 := hSw.2.1; have s3 := hSw.2.2.1; have s4 := hSw.2.2.2; clear hSw; go_simp; (try with_reducible rfl))
  (try simp only [uA, uB, uC, uD, uE, uF, uG, uH])
  refine wpAnyH_take (i := 17) (oi := _) (v := ?_) rfl (by kernel_rfl) (by kernel_rfl) (by kernel_rfl) (fun _ _ _ h => h) (Or.inl ⟨by rfl, ?_⟩) (by assumption) ?_
  rotate_left
  · (intro w hSw; (try dsimp only at hSw); have s1 := hSw.1; have s2 := hSw.2.1; have s3 := hSw.2.2.1; have s4 := hSw.2.2.2; clear hSw; go_simp; (try with_reducible rfl))
  (try simp only [uA, uB, uC, uD, uE, uF, uG, uH])
  refine wpAnyH_ready (rs := [18]) (by kernel_rfl) (by decide) (AllReadyH.cons rfl (fun K' hK => ?_) AllReadyH.nil)
  rw [if_pos (by rfl)]
  refine wp_store_mid 31 (.tmp 21) (.tmp 18) rfl b 3 (d.map (Value.int .u8)).toArray rfl rfl (by simpa [hl] using CP4.1) hi31 h1c ?_
  refine hK.out _ _ (by exact ⟨(World.cell?_setCells_out b _ 3 W4 ⟨A, 0, none⟩ (fun e _ => absurd e hA0)).trans hHeld4.1, (World.cell?_setCells_out b _ 3 W4 ⟨B, 0, none⟩ (fun e _ => absurd e hB0)).trans hHeld4.2.1, (World.cell?_setCells_out b _ 3 W4 ⟨b, 99, none⟩ (fun _ _ => Or.inr (by simp [hl]))).trans hHeld4.2.2.1, (World.cell?_setCells_out b _ 3 W4 ⟨b, 100, none⟩ (fun _ _ => Or.inr (by simp [hl]))).trans hHeld4.2.2.2⟩) (fun hHeld => ?_)
  clear hK
  refine wpAnyH_done (by kernel_rfl) ?_ _
  have CP5 := Aside0.mk CP4.2
  clear CP4
  go_wp2_with fail
  go_end0
  exact ⟨rfl, CP5.out⟩
end Go.Proofs.YtadkeohohehmcaaGreatDoor.Top
end
section
/- A tree's digest: the whole. -/
namespace Go.Proofs.YtadkeohohehmcaaGreatDoor.Top
open Go.RowKit Go.Proofs.YtadkeohohehmcaaGreatDoorW.PrintWords Go.Proofs.YtadkeohohehmcaaGreatDoorW.PrintLast Go.Proofs.YtadkeohohehmcaaGreatDoorW.PrintMore Go.Proofs.YtadkeohohehmcaaGreatDoor.PTop
set_option linter.unusedVariables false
set_option linter.unusedSimpArgs false
attribute [local go_sem] Oper.semAt_some

set_option maxHeartbeats 2000000 in
set_option maxRecDepth 100000 in
theorem dig_nil (KS : List Int) : DigH KS .nil := fun w hk _ _ _ => by
  have hw0 := hk.pos
  have hl := emptyF_len KS
  have C0 : Aside0 (∀ W1 : World, Below w.heap.size w W1 → Calls Tryz.prog 79 #[.int .i64 32] W1 fun e w' => e = .returned (dv (emptyF KS)) ∧ Below W1.heap.size W1 w') := ⟨fun W1 b1 => empty_c KS W1 (hk.below b1 hw0)⟩
  clear hk
  show Calls Tryz.prog 60 #[.pointer none, .int .i64 32] w fun e w' => e = .returned (dv (emptyF KS)) ∧ Tou [] w w'
  generalize emptyF KS = d at *
  have b0 : Below w.heap.size w ((w.alloc (.cells #[.pointer none] 108)).alloc (.cells #[.int .i64 32] 3)) := ((Below.refl _ w).alloc (Nat.le_refl _) _).alloc (by simp) _
  have s0 : ((w.alloc (.cells #[.pointer none] 108)).alloc (.cells #[.int .i64 32] 3)).heap.size = w.heap.size + 2 := by simp
  have c0 : ((w.alloc (.cells #[.pointer none] 108)).alloc (.cells #[.int .i64 32] 3)).heap[w.heap.size]? = some (.cells #[.pointer none] 108 (0, 0)) := blk_alloc (blk_new w _) _
  have c1 : ((w.alloc (.cells #[.pointer none] 108)).alloc (.cells #[.int .i64 32] 3)).heap[w.heap.size + 1]? = some (.cells #[.int .i64 32] 3 (0, 0)) := by simpa using blk_new (w.alloc (.cells #[.pointer none] 108)) (.cells #[.int .i64 32] 3)
  go_enter Tryz.func60, Tryz.ntmps60
  go_upto_region 1 with (refine wpList_allocW rfl 31 rfl zD zero31 ?_; intro W1 b1 s1 k1)
  rw [s0] at s1 k1
  have d0 : W1.cell? ⟨w.heap.size, 0, none⟩ = some (.pointer none) := cell_in ((b1.block _ (by omega)).trans c0) rfl
  have d1 : W1.cell? ⟨w.heap.size + 1, 0, none⟩ = some (.int .i64 32) := cell_in ((b1.block _ (by omega)).trans c1) rfl
  have q1 : Below w.heap.size w W1 := b0.trans (b1.mono (by omega))
  rw [s0]
  clear b0 c0 c1 b1 s0
  go_wp2_with fail
  refine (C0.out W1 q1).mono ?_
  rintro e W2 ⟨rfl, b2⟩
  have k2 := (b2.block (w.heap.size + 2) (by omega)).trans k1
  have q2 : Below w.heap.size w W2 := q1.trans (b2.mono (by omega))
  have hi31 := info31 _ hl
  have hz := zD_size _ hl
  have h1c := dig_one d
  clear C0 k1 b2 d0 d1
  unfold dv
  go_wp2_with (refine wpList_store_row rfl 31 (.tmp 4) (.tmp 8) rfl (w.heap.size + 2) _ rfl rfl 31 _ k2 hi31 hz h1c ?_)
  have hgf := setRow_heap W2 (w.heap.size + 2) _ (d.map (Value.int .u8)).toArray 31 (0, 0) k2
  refine bodyPost_ret (results_cell_row rfl _ _ (w.heap.size + 2) 31 _ (0, 0) _ rfl hgf Tryz.underlying31 rfl hi31) rfl ?_
  exact ⟨rfl, Tou.of_below _ (below_setRow q2 _ (by omega) _)⟩

set_option maxHeartbeats 2000000 in
set_option maxRecDepth 100000 in
theorem dig_knot (b : Nat) (bs : List Nat) (d : List Int) (hl : d.length = 32) (w : World) (hb : b ∈ bs) (hbs : ∀ k ∈ bs, k < w.heap.size)
    (h0 : w.cell? ⟨b, 0, none⟩ = some (.int .u32 0)) (h1 : w.cell? ⟨b, 1, none⟩ = some (.int .i32 0)) (hf : ∀ j, w.frozen? ⟨b, j, none⟩ = false)
    (H : ∀ (W : World) (A B : Nat), Below w.heap.size w W → w.heap.size ≤ A → w.heap.size ≤ B → A < W.heap.size → B < W.heap.size → W.cell? ⟨A, 0, none⟩ = some (.pointer (some ⟨b, 0, none⟩)) → W.cell? ⟨B, 0, none⟩ = some (.int .i64 32) →
      Calls Tryz.prog 81 #[.pointer (some ⟨A, 0, none⟩), .pointer (some ⟨B, 0, none⟩)] (W.setCell ⟨b, 1, none⟩ (.int .i32 1)) fun e w' => e = .returned (.tuple #[]) ∧ CloPost (W.setCell ⟨b, 1, none⟩ (.int .i32 1)) bs b d w') :
    Calls Tryz.prog 60 #[.pointer (some ⟨b, 0, none⟩), .int .i64 32] w fun e w' => e = .returned (dv d) ∧ Tou bs w w' := by
  have HH := Aside0.mk H
  have HBS := Aside0.mk hbs
  have hbl := hbs b hb
  clear H hbs
  have hmf : ∀ (fn : Fn) (first cap : Array Value) (w : World), (Instr.makeFunc fn first cap).run Tryz.prog w = .ok (.func fn first cap) w := fun _ _ _ _ => rfl
  have b0 : Below w.heap.size w ((w.alloc (.cells #[.pointer (some ⟨b, 0, none⟩)] 108)).alloc (.cells #[.int .i64 32] 3)) := ((Below.refl _ w).alloc (Nat.le_refl _) _).alloc (by simp) _
  have s0 : ((w.alloc (.cells #[.pointer (some ⟨b, 0, none⟩)] 108)).alloc (.cells #[.int .i64 32] 3)).heap.size = w.heap.size + 2 := by simp
  have c0 : ((w.alloc (.cells #[.pointer (some ⟨b, 0, none⟩)] 108)).alloc (.cells #[.int .i64 32] 3)).heap[w.heap.size]? = some (.cells #[.pointer (some ⟨b, 0, none⟩)] 108 (0, 0)) := blk_alloc (blk_new w _) _
  have c1 : ((w.alloc (.cells #[.pointer (some ⟨b, 0, none⟩)] 108)).alloc (.cells #[.int .i64 32] 3)).heap[w.heap.size + 1]? = some (.cells #[.int .i64 32] 3 (0, 0)) := by simpa using blk_new (w.alloc (.cells #[.pointer (some ⟨b, 0, none⟩)] 108)) (.cells #[.int .i64 32] 3)
  go_enter Tryz.func60, Tryz.ntmps60
  go_upto_region 1 with (refine wpList_allocW rfl 31 rfl zD zero31 ?_; intro W1 b1 s1 k1)
  rw [s0] at s1 k1
  have d0 : W1.cell? ⟨w.heap.size, 0, none⟩ = some (.pointer (some ⟨b, 0, none⟩)) := cell_in ((b1.block _ (by omega)).trans c0) rfl
  have d1 : W1.cell? ⟨w.heap.size + 1, 0, none⟩ = some (.int .i64 32) := cell_in ((b1.block _ (by omega)).trans c1) rfl
  have q1 : Below w.heap.size w W1 := b0.trans (b1.mono (by omega))
  have e0 : W1.cell? ⟨b, 0, none⟩ = some (.int .u32 0) := (q1.cell (p := ⟨b, 0, none⟩) hbl).trans h0
  have e1 : W1.cell? ⟨b, 1, none⟩ = some (.int .i32 0) := (q1.cell (p := ⟨b, 1, none⟩) hbl).trans h1
  have ef : ∀ j, W1.frozen? ⟨b, j, none⟩ = false := fun j => (q1.frozen (p := ⟨b, j, none⟩) hbl).trans (hf j)
  have DO := Aside0.mk (do_c b (.pointer (some ⟨w.heap.size, 0, none⟩)) (.pointer (some ⟨w.heap.size + 1, 0, none⟩)) W1 (CloPost (W1.setCell ⟨b, 1, none⟩ (.int .i32 1)) bs b d) e0 e1 (ef 0) (ef 1) (HH.out W1 _ _ q1 (by omega) (by omega) (by omega) (by omega) d0 d1) (fun w' h => ⟨h.c0, h.fz 0, h.c1, h.fz 1⟩))
  rw [s0]
  clear b0 c0 c1 b1 s0 HH e0 e1 ef h0 h1 hf
  go_wp2_with fail
  refine DO.out.mono ?_
  rintro e W5 ⟨rfl, w4, hC, hW⟩
  have nA : ∀ k, w.heap.size ≤ k → k ∉ bs := fun k hk hm => by have := HBS.out k hm; omega
  have T5 : Tou bs W1 W5 := by
    rw [hW]
    exact (((Tou.of_below bs (Below.refl _ W1)).setCell hb _).trans (hC.tou.drew.setCell hb _)).setCell hb _
  have g0 : W5.cell? ⟨w.heap.size, 0, none⟩ = some (.pointer (some ⟨b, 0, none⟩)) := (T5.cell (nA _ (Nat.le_refl _)) (by omega)).trans d0
  have k5 := (T5.block (w.heap.size + 2) (nA _ (by omega)) (by omega)).trans k1
  have RD : W5.rangeAt b 3 (d.map (Value.int .u8)) := by
    rw [hW]
    exact World.rangeAt_setCells_apart (World.rangeAt_setCells_apart ((World.rangeAt_drew _ _ _ _).2 hC.d) b 0 [.int .u32 1] (Or.inr (Or.inr (by simp)))) b 1 [.int .i32 0] (Or.inr (Or.inr (by simp)))
  have T : Tou bs w W5 := (Tou.of_below bs q1).trans T5
  clear hW hC T5 d0 d1 k1 DO q1
  have hi31 := info31 _ hl
  have hi31l := info31l d hl
  have hz := zD_size _ hl
  have h1c := dig_one d
  go_wp2_with (first | (refine wpList_load_mid rfl 31 (.tmp 18) rfl b 3 rfl _ _ RD Tryz.underlying31 rfl hi31l ?_) | (refine wpList_store_row rfl 31 (.tmp 4) (.tmp 19) rfl (w.heap.size + 2) _ rfl rfl 31 _ k5 hi31 hz h1c ?_))
  have hgf := setRow_heap W5 (w.heap.size + 2) _ (d.map (Value.int .u8)).toArray 31 (0, 0) k5
  refine bodyPost_ret (results_cell_row rfl _ _ (w.heap.size + 2) 31 _ (0, 0) _ rfl hgf Tryz.underlying31 rfl hi31) rfl ?_
  refine ⟨rfl, T.os, T.tape, T.output, by rw [size_setRow]; exact T.size, fun k hk hkl => (setRow_other W5 (w.heap.size + 2) k _ (by omega)).trans (T.block k hk hkl)⟩

theorem kn_head (p v : List Int) (l r : Value) : (kn p v l r)[0]? = some (.int .u32 0) ∧ (kn p v l r)[1]? = some (.int .i32 0) := ⟨rfl, rfl⟩
theorem kn_there (p v : List Int) (l r : Value) (hp : p.length = 32) (hv : v.length = 32) (W : World) (b : Nat) (h : W.heap[b]? = some (.cells (kn p v l r).toArray 152 (0, 0))) : W.there b 3 32 := fun j hj => by
  refine ⟨?_, frozen_in h⟩
  have hlt : 3 + j < (kn p v l r).length := by rw [kn_len _ _ _ _ hp hv]; omega
  rw [cell_in h (List.getElem?_eq_getElem hlt)]
  rfl
/-- The knot with its lock taken. -/
theorem knot_of {W : World} {b : Nat} {p v : List Int} {x y : Option Addr} (hp : p.length = 32) (hv : v.length = 32) (h : W.heap[b]? = some (.cells (kn p v (.pointer x) (.pointer y)).toArray 152 (0, 0))) : Knot (W.setCell ⟨b, 1, none⟩ (.int .i32 1)) b p v x y := by
  have h2 := set_list (i := 1) (v := .int .i32 1) h
  have hc := cell_in (i := 1) h (kn_head _ _ _ _).2
  have oth : ∀ j, j ≠ 1 → (W.setCell ⟨b, 1, none⟩ (.int .i32 1)).cell? ⟨b, j, none⟩ = W.cell? ⟨b, j, none⟩ := fun j hj => World.cell?_setCell_other W ⟨b, 1, none⟩ ⟨b, j, none⟩ _ (fun e => hj (by injection e with _ e _; exact e.symm))
  have fz : ∀ j, (W.setCell ⟨b, 1, none⟩ (.int .i32 1)).frozen? ⟨b, j, none⟩ = false := fun j => frozen_in h2
  refine ⟨(oth 0 (by decide)).trans (cell_in h (kn_head _ _ _ _).1), World.cell?_setCell_same _ _ _ hc, fz, fun j hj => ⟨?_, fz _⟩, ?_, (oth 99 (by decide)).trans (cell_in h (kn_left _ _ _ _ hp hv)), (oth 100 (by decide)).trans (cell_in h (kn_right _ _ _ _ hp hv)), (Array.getElem?_eq_some_iff.1 h2).1⟩
  · rw [oth _ (by omega)]
    exact (kn_there p v _ _ hp hv W b h j hj).1
  · intro j u hj
    rw [oth _ (by omega)]
    have := kn_range h 0 (p ++ v) (fun i u hi => by rw [Nat.zero_add]; exact hi) j u hj
    exact this
theorem HKey.locked {KS : List Int} {W : World} {b : Nat} (h : HKey KS W) (hb : b ≠ 0) (x : Value) : HKey KS (W.setCell ⟨b, 1, none⟩ x) := fun j hj => (World.cell?_setCell_other W ⟨b, 1, none⟩ ⟨0, j, none⟩ x (fun e => hb (by injection e))).trans (h j hj)
/-- '(*smt.knot).digest'. -/
theorem dig_c (KS : List Int) : ∀ t : AT, DigH KS t
  | .nil => dig_nil KS
  | .leaf b p v => fun w hk ht nd nz => by
    have hb : b ≠ 0 := fun e => nz (e ▸ List.mem_singleton.2 rfl)
    refine dig_knot b [b] (leafF KS p v) (leafF_len _ _ _) w (List.mem_singleton.2 rfl) (fun k hk => AT.rep_lt ht k hk) (cell_in ht.2.2 (kn_head _ _ _ _).1) (cell_in ht.2.2 (kn_head _ _ _ _).2) (fun j => frozen_in ht.2.2) ?_
    intro W A B hW hA hB hAl hBl cA cB
    have hbw := AT.rep_lt ht b (List.mem_singleton.2 rfl)
    have nA : A ≠ b := by omega
    have nB : B ≠ b := by omega
    have hblk := (hW.block b hbw).trans ht.2.2
    exact clo_leaf KS p v ht.1 ht.2.1 b A B _ ((hk.below hW hk.pos).locked hb _) ((World.cell?_setCell_other W ⟨b, 1, none⟩ ⟨A, 0, none⟩ _ (fun e => nA (by injection e with e; exact e.symm))).trans cA) ((World.cell?_setCell_other W ⟨b, 1, none⟩ ⟨B, 0, none⟩ _ (fun e => nB (by injection e with e; exact e.symm))).trans cB) nA nB (by simpa [World.setCell] using hAl) (by simpa [World.setCell] using hBl) (knot_of ht.1 ht.2.1 hblk)
  | .node b l r => fun w hk ht nd nz => by
    have hb : b ≠ 0 := fun e => nz (e ▸ List.mem_cons_self)
    refine dig_knot b (b :: (l.blocks ++ r.blocks)) (nodeF KS (l.un.dig KS) (r.un.dig KS)) (nodeF_len _ _ _) w List.mem_cons_self (fun k hk => AT.rep_lt ht k hk) (cell_in ht.2.1 (kn_head _ _ _ _).1) (cell_in ht.2.1 (kn_head _ _ _ _).2) (fun j => frozen_in ht.2.1) ?_
    intro W A B hW hA hB hAl hBl cA cB
    have hlt := fun k hk => AT.rep_lt ht k hk
    have nA : A ∉ b :: (l.blocks ++ r.blocks) := fun h => by have := hlt A h; omega
    have nB : B ∉ b :: (l.blocks ++ r.blocks) := fun h => by have := hlt B h; omega
    have nA' : A ≠ b := fun e => nA (e ▸ List.mem_cons_self)
    have nB' : B ≠ b := fun e => nB (e ▸ List.mem_cons_self)
    have hblk := (hW.block b (hlt b List.mem_cons_self)).trans ht.2.1
    have ndd : (b :: (l.blocks ++ r.blocks)).Nodup := nd
    have nb := (List.nodup_cons.1 ndd).1
    have fr : ∀ k, k ≠ b → (W.setCell ⟨b, 1, none⟩ (.int .i32 1)).heap[k]? = W.heap[k]? := fun k hk => Below.heap_setCell _ _ _ _ hk
    exact clo_node KS l r (dig_c KS l) (dig_c KS r) b A B _ ((hk.below hW hk.pos).locked hb _) ((World.cell?_setCell_other W ⟨b, 1, none⟩ ⟨A, 0, none⟩ _ (fun e => nA' (by injection e with e; exact e.symm))).trans cA) ((World.cell?_setCell_other W ⟨b, 1, none⟩ ⟨B, 0, none⟩ _ (fun e => nB' (by injection e with e; exact e.symm))).trans cB) nA nB (by simpa [World.setCell] using hAl) (by simpa [World.setCell] using hBl) (knot_of rfl rfl hblk) ht.1
      (AT.rep_frame (AT.rep_below ht.2.2.1 hW) fun k hk => fr k (fun e => nb (e ▸ List.mem_append_left _ hk))) (AT.rep_frame (AT.rep_below ht.2.2.2 hW) fun k hk => fr k (fun e => nb (e ▸ List.mem_append_right _ hk))) ndd nz
end Go.Proofs.YtadkeohohehmcaaGreatDoor.Top
end
section
/- A tree is asked: whatever it answers, it answers. -/
namespace Go.Proofs.YtadkeohohehmcaaGreatDoor.Top
open Go.RowKit Go.Proofs.YtadkeohohehmcaaGreatDoorW.PrintWords Go.Proofs.YtadkeohohehmcaaGreatDoorW.PrintLast Go.Proofs.YtadkeohohehmcaaGreatDoorW.PrintMore Go.Proofs.YtadkeohohehmcaaGreatDoor.PTop
set_option linter.unusedVariables false
set_option linter.unusedSimpArgs false
attribute [local go_sem] Oper.semAt_some

def AT.height : AT → Nat
  | .nil => 0
  | .leaf _ _ _ => 0
  | .node _ l r => l.height + r.height + 1
/-- What Get is at: a place in the tree. -/
structure Place (w : World) (s6 s7 : Value) (t : AT) (i : Nat) : Prop where
  a : s6 = .pointer t.adr
  ix : s7 = .int .i64 (i : Int)
  g : ∃ c, t.un.good c i
  r : t.rep w

/-- Get's answer: anything. -/
def GetPost (e : Ending) : Prop := ∃ (d : List Int) (ok : Bool), e = .returned (.tuple #[dv d, .bool ok]) ∧ d.length = 32

set_option maxHeartbeats 2000000 in
set_option maxRecDepth 100000 in
theorem get_c (p : List Int) (hp : PathOk p) (tb : Nat) (n : Int) (t : AT) (w : World) (htb : w.heap[tb]? = some (.cells #[.int .i64 32, .int .i64 n, .pointer t.adr] 110 (0, 0))) (ht : t.rep w) (hg : ∃ c, t.un.good c 0) :
    Calls Tryz.prog 58 #[.pointer (some ⟨tb, 0, none⟩), dv p] w fun e w' => GetPost e ∧ Below w.heap.size w w' := by
  have hi31 := info31 p hp.len
  have hi31l := info31l p hp.len
  have h1p := dig_one p
  have HR := Aside0.mk (right_c p hp.len)
  unfold dv at HR ⊢
  have htl : tb < w.heap.size := (Array.getElem?_eq_some_iff.1 htb).1
  have HT := Aside0.mk ht
  have HG := Aside0.mk hg
  have b0 : Below w.heap.size w (w.alloc (.cells (p.map (Value.int .u8)).toArray 31)) := (Below.refl _ w).alloc (Nat.le_refl _) _
  have s0 : (w.alloc (.cells (p.map (Value.int .u8)).toArray 31)).heap.size = w.heap.size + 1 := by simp
  have k0 := blk_new w (.cells (p.map (Value.int .u8)).toArray 31)
  clear ht hg
  go_enter Tryz.func58, Tryz.ntmps58
  go_upto_region 1 with (refine wpList_allocW rfl 31 rfl zD zero31 ?_; intro W1 b1 s1 k1)
  rw [s0] at s1 k1
  have p1 := (b1.block w.heap.size (by omega)).trans k0
  have q1 : Below w.heap.size w W1 := b0.trans (b1.mono (by omega))
  have c2 : W1.cell? ⟨tb, 2, none⟩ = some (.pointer t.adr) := cell_in (l := [.int .i64 32, .int .i64 n, .pointer t.adr]) ((q1.block tb htl).trans htb) rfl
  clear b0 s0 k0 b1 htb
  go_wp2_with fail
  go_loopg [6, 7] t.height (fun gg s6 s7 wr => ∃ (T : AT) (i : Nat), T.height ≤ gg ∧ Aside (Place wr s6 s7 T i) ∧ Aside (Below W1.heap.size W1 wr))
  case atStart => exact ⟨t, 0, Nat.le_refl _, ⟨rfl, rfl, HG.out, AT.rep_below HT.out q1⟩, Below.refl _ _⟩
  case round =>
    obtain ⟨T, i, hgg, P, B⟩ := hrel
    have PP := Aside0.mk P.out
    have BB := Aside0.mk B.out
    obtain rfl := PP.out.a
    obtain rfl := PP.out.ix
    clear P B
    have pr := (BB.out.block w.heap.size (by omega)).trans p1
    have kr := (BB.out.block (w.heap.size + 1) (by omega)).trans k1
    have IN := Aside0.mk (inner_c T wr PP.out.r)
    cases T with
    | nil =>
      have IN2 : Aside0 (Calls Tryz.prog 77 #[.pointer none] wr fun e w' => e = .returned (.bool false) ∧ w' = wr) := ⟨IN.out⟩
      have qr : Below w.heap.size w wr := q1.trans (BB.out.mono (by omega))
      clear PP IN BB pr
      rw [show AT.nil.adr = none from rfl]
      go_upto_region 10 with (go_at_call 77; refine IN2.out.mono ?_; rintro e w' ⟨rfl, hw⟩; replace hw := hw.symm; subst hw)
      go_region
      have kd : wr.drew.heap[w.heap.size + 1]? = some (.cells zD 31 (0, 0)) := kr
      have hiz := info31 (List.replicate 32 0) rfl
      have hzz := zD_size (List.replicate 32 0) rfl
      have hz1 := dig_one (List.replicate 32 0)
      go_wp2_with (refine wpList_store_row rfl 31 (.tmp 4) (.tmp 41) rfl (w.heap.size + 1) zD rfl rfl 31 _ kd hiz hzz hz1 ?_)
      have hgf := setRow_heap wr.drew (w.heap.size + 1) _ zD 31 (0, 0) kd
      refine bodyPost_ret (results_ct rfl _ _ (w.heap.size + 1) 31 _ (0, 0) _ rfl hgf Tryz.underlying31 rfl hiz) rfl ?_
      exact ⟨⟨List.replicate 32 0, false, rfl, rfl⟩, below_setRow qr.drew _ (by omega) _⟩
    | leaf b q u =>
      obtain ⟨c, hg⟩ := PP.out.g
      have hq := hg.1
      have hr := PP.out.r
      have hu := hg.2.1
      have hiq := info31l q hq.len
      have hiu := info31l u hu
      have hiua := info31 u hu
      have RQ : wr.drew.rangeAt b 35 (q.map (Value.int .u8)) := kn_range hr.2.2 0 q fun i x hi => by rw [Nat.zero_add, List.getElem?_append_left (List.getElem?_eq_some_iff.1 hi).1]; exact hi
      have RU : wr.drew.rangeAt b 67 (u.map (Value.int .u8)) := kn_range hr.2.2 32 u fun i x hi => by rw [List.getElem?_append_right (by rw [hq.len]; omega), hq.len, Nat.add_sub_cancel_left]; exact hi
      have RPP : wr.drew.rangeAt w.heap.size 0 (p.map (Value.int .u8)) := block_range pr
      have IN2 : Aside0 (Calls Tryz.prog 77 #[.pointer (some ⟨b, 0, none⟩)] wr fun e w' => e = .returned (.bool false) ∧ w' = wr) := ⟨IN.out⟩
      have qr : Below w.heap.size w wr := q1.trans (BB.out.mono (by omega))
      have EG := fun x y a b w => run_guard_dv .neq (Or.inr rfl) x y a b w
      have EQ := run_ne_dv q p hq hp
      have kd : wr.drew.heap[w.heap.size + 1]? = some (.cells zD 31 (0, 0)) := kr
      have hzu := zD_size u hu
      have h1u := dig_one u
      have HU := Aside0.mk hu
      clear PP IN BB pr hg hr hq hu
      rw [show (AT.leaf b q u).adr = some ⟨b, 0, none⟩ from rfl]
      by_cases hne : q = p
      · rw [decide_eq_true hne, Bool.not_true] at EQ
        clear hne
        go_upto_region 10 with (go_at_call 77; refine IN2.out.mono ?_; rintro e w' ⟨rfl, hw⟩; replace hw := hw.symm; subst hw)
        refine wp_region_held_drew (S := (fun W => W = wr.drew)) (by kernel_rfl) (by rfl) (fun hHeld => ?_)
        refine wpAnyH_take (i := 0) (oi := _) (v := ?_) rfl (by kernel_rfl) (by kernel_rfl) (by kernel_rfl) (fun _ _ _ h => h) (Or.inl ⟨by rfl, ?_⟩) (by assumption) ?_
        rotate_left
        · (intro w hSw; (try dsimp only at hSw); subst hSw; go_simp; (try with_reducible rfl))
        (try simp only [uA, uB, uC, uD, uE, uF, uG, uH])
        refine wpAnyH_take (i := 1) (oi := _) (v := .bool false) rfl (by kernel_rfl) (by kernel_rfl) (by kernel_rfl) (fun _ _ _ h => h) (Or.inl ⟨by rfl, ?_⟩) (by assumption) ?_
        rotate_left 0
        · (intro w hSw; (try dsimp only at hSw); subst hSw; go_simp; (try with_reducible rfl))
        (try simp only [uA, uB, uC, uD, uE, uF, uG, uH])
        refine wpAnyH_take (i := 2) (oi := _) (v := .bool false) rfl (by kernel_rfl) (by kernel_rfl) (by kernel_rfl) (fun _ _ _ h => h) (Or.inl ⟨by rfl, ?_⟩) (by assumption) ?_
        rotate_left 0
        · (intro w hSw; (try dsimp only at hSw); subst hSw; go_simp; (try with_reducible rfl))
        (try simp only [uA, uB, uC, uD, uE, uF, uG, uH])
        refine wpAnyH_take (i := 3) (oi := _) (v := ?_) rfl (by kernel_rfl) (by kernel_rfl) (by kernel_rfl) (fun _ _ _ h => h) (Or.inl ⟨by rfl, ?_⟩) (by assumption) ?_
        rotate_left
        · (intro w hSw; (try dsimp only at hSw); subst hSw; go_simp; (try with_reducible rfl))
        (try simp only [uA, uB, uC, uD, uE, uF, uG, uH])
        refine wpAnyH_take (i := 4) (oi := _) (v := ?_) rfl (by kernel_rfl) (by kernel_rfl) (by kernel_rfl) (fun _ _ _ h => h) (Or.inl ⟨by rfl, ?_⟩) (by assumption) ?_
        rotate_left
        · (intro w hSw; (try dsimp only at hSw); subst hSw; go_simp; (try with_reducible rfl))
        (try simp only [uA, uB, uC, uD, uE, uF, uG, uH])
        refine wpAnyH_take (i := 5) (oi := _) (v := ?_) rfl (by kernel_rfl) (by kernel_rfl) (by kernel_rfl) (fun _ _ _ h => h) (Or.inl ⟨by rfl, ?_⟩) (by assumption) ?_
        rotate_left
        · (intro w hSw; (try dsimp only at hSw); subst hSw; go_simp; (try with_reducible rfl))
        (try simp only [uA, uB, uC, uD, uE, uF, uG, uH])
        refine wpAnyH_take (i := 6) (oi := _) (v := ?_) rfl (by kernel_rfl) (by kernel_rfl) (by kernel_rfl) (fun _ _ _ h => h) (Or.inl ⟨by rfl, ?_⟩) (by assumption) ?_
        rotate_left
        · (intro w hSw; (try dsimp only at hSw); subst hSw; go_simp; (try with_reducible rfl))
        (try simp only [uA, uB, uC, uD, uE, uF, uG, uH])
        refine wpAnyH_take (i := 7) (oi := _) (v := _) rfl (by kernel_rfl) (by kernel_rfl) (by kernel_rfl) (fun _ _ _ h => h) (yieldsIf_load_mid (by rfl) 31 (.tmp 36) rfl b 35 rfl _ _ (fun W hW => by rw [hW]; exact RQ) Tryz.underlying31 rfl hiq) (by assumption) ?_
        (try simp only [uA, uB, uC, uD, uE, uF, uG, uH])
        refine wpAnyH_take (i := 8) (oi := _) (v := _) rfl (by kernel_rfl) (by kernel_rfl) (by kernel_rfl) (fun _ _ _ h => h) (yieldsIf_load_mid (by rfl) 31 (.tmp 3) rfl w.heap.size 0 rfl _ _ (fun W hW => by rw [hW]; exact RPP) Tryz.underlying31 rfl hi31l) (by assumption) ?_
        (try simp only [uA, uB, uC, uD, uE, uF, uG, uH])
        refine wpAnyH_take (i := 9) (oi := _) (v := .bool false) rfl (by kernel_rfl) (by kernel_rfl) (by kernel_rfl) (fun _ _ _ h => h) (Or.inl ⟨by rfl, ?_⟩) (by assumption) ?_
        rotate_left 0
        · (intro w hSw; (try dsimp only at hSw); subst hSw; go_simp; (try with_reducible rfl))
        (try simp only [uA, uB, uC, uD, uE, uF, uG, uH])
        refine wpAnyH_take (i := 10) (oi := _) (v := .bool false) rfl (by kernel_rfl) (by kernel_rfl) (by kernel_rfl) (fun _ _ _ h => h) (Or.inl ⟨by rfl, ?_⟩) (by assumption) ?_
        rotate_left 0
        · (intro w hSw; (try dsimp only at hSw); subst hSw; go_simp; (try with_reducible rfl))
        (try simp only [uA, uB, uC, uD, uE, uF, uG, uH])
        refine wpAnyH_done (by kernel_rfl) ?_ _
        clear EQ EG RQ RPP
        go_wp2_with (first | (refine wpList_load_mid rfl 31 (.tmp 45) rfl b 67 rfl _ _ RU Tryz.underlying31 rfl hiu ?_) | (refine wpList_store_row rfl 31 (.tmp 4) (.tmp 46) rfl (w.heap.size + 1) _ rfl rfl 31 _ kd hiua hzu h1u ?_))
        have hgf := setRow_heap wr.drew (w.heap.size + 1) _ (u.map (Value.int .u8)).toArray 31 (0, 0) kd
        refine bodyPost_ret (results_ct rfl _ _ (w.heap.size + 1) 31 _ (0, 0) _ rfl hgf Tryz.underlying31 rfl hiua) rfl ?_
        exact ⟨⟨u, true, rfl, HU.out⟩, below_setRow qr.drew _ (by omega) _⟩
      · rw [decide_eq_false hne, Bool.not_false] at EQ
        clear hne
        go_upto_region 10 with (go_at_call 77; refine IN2.out.mono ?_; rintro e w' ⟨rfl, hw⟩; replace hw := hw.symm; subst hw)
        refine wp_region_held_drew (S := (fun W => W = wr.drew)) (by kernel_rfl) (by rfl) (fun hHeld => ?_)
        refine wpAnyH_take (i := 0) (oi := _) (v := ?_) rfl (by kernel_rfl) (by kernel_rfl) (by kernel_rfl) (fun _ _ _ h => h) (Or.inl ⟨by rfl, ?_⟩) (by assumption) ?_
        rotate_left
        · (intro w hSw; (try dsimp only at hSw); subst hSw; go_simp; (try with_reducible rfl))
        (try simp only [uA, uB, uC, uD, uE, uF, uG, uH])
        refine wpAnyH_take (i := 1) (oi := _) (v := .bool false) rfl (by kernel_rfl) (by kernel_rfl) (by kernel_rfl) (fun _ _ _ h => h) (Or.inl ⟨by rfl, ?_⟩) (by assumption) ?_
        rotate_left 0
        · (intro w hSw; (try dsimp only at hSw); subst hSw; go_simp; (try with_reducible rfl))
        (try simp only [uA, uB, uC, uD, uE, uF, uG, uH])
        refine wpAnyH_take (i := 2) (oi := _) (v := .bool false) rfl (by kernel_rfl) (by kernel_rfl) (by kernel_rfl) (fun _ _ _ h => h) (Or.inl ⟨by rfl, ?_⟩) (by assumption) ?_
        rotate_left 0
        · (intro w hSw; (try dsimp only at hSw); subst hSw; go_simp; (try with_reducible rfl))
        (try simp only [uA, uB, uC, uD, uE, uF, uG, uH])
        refine wpAnyH_take (i := 3) (oi := _) (v := ?_) rfl (by kernel_rfl) (by kernel_rfl) (by kernel_rfl) (fun _ _ _ h => h) (Or.inl ⟨by rfl, ?_⟩) (by assumption) ?_
        rotate_left
        · (intro w hSw; (try dsimp only at hSw); subst hSw; go_simp; (try with_reducible rfl))
        (try simp only [uA, uB, uC, uD, uE, uF, uG, uH])
        refine wpAnyH_take (i := 4) (oi := _) (v := ?_) rfl (by kernel_rfl) (by kernel_rfl) (by kernel_rfl) (fun _ _ _ h => h) (Or.inl ⟨by rfl, ?_⟩) (by assumption) ?_
        rotate_left
        · (intro w hSw; (try dsimp only at hSw); subst hSw; go_simp; (try with_reducible rfl))
        (try simp only [uA, uB, uC, uD, uE, uF, uG, uH])
        refine wpAnyH_take (i := 5) (oi := _) (v := ?_) rfl (by kernel_rfl) (by kernel_rfl) (by kernel_rfl) (fun _ _ _ h => h) (Or.inl ⟨by rfl, ?_⟩) (by assumption) ?_
        rotate_left
        · (intro w hSw; (try dsimp only at hSw); subst hSw; go_simp; (try with_reducible rfl))
        (try simp only [uA, uB, uC, uD, uE, uF, uG, uH])
        refine wpAnyH_take (i := 6) (oi := _) (v := ?_) rfl (by kernel_rfl) (by kernel_rfl) (by kernel_rfl) (fun _ _ _ h => h) (Or.inl ⟨by rfl, ?_⟩) (by assumption) ?_
        rotate_left
        · (intro w hSw; (try dsimp only at hSw); subst hSw; go_simp; (try with_reducible rfl))
        (try simp only [uA, uB, uC, uD, uE, uF, uG, uH])
        refine wpAnyH_take (i := 7) (oi := _) (v := _) rfl (by kernel_rfl) (by kernel_rfl) (by kernel_rfl) (fun _ _ _ h => h) (yieldsIf_load_mid (by rfl) 31 (.tmp 36) rfl b 35 rfl _ _ (fun W hW => by rw [hW]; exact RQ) Tryz.underlying31 rfl hiq) (by assumption) ?_
        (try simp only [uA, uB, uC, uD, uE, uF, uG, uH])
        refine wpAnyH_take (i := 8) (oi := _) (v := _) rfl (by kernel_rfl) (by kernel_rfl) (by kernel_rfl) (fun _ _ _ h => h) (yieldsIf_load_mid (by rfl) 31 (.tmp 3) rfl w.heap.size 0 rfl _ _ (fun W hW => by rw [hW]; exact RPP) Tryz.underlying31 rfl hi31l) (by assumption) ?_
        (try simp only [uA, uB, uC, uD, uE, uF, uG, uH])
        refine wpAnyH_take (i := 9) (oi := _) (v := .bool true) rfl (by kernel_rfl) (by kernel_rfl) (by kernel_rfl) (fun _ _ _ h => h) (Or.inl ⟨by rfl, ?_⟩) (by assumption) ?_
        rotate_left 0
        · (intro w hSw; (try dsimp only at hSw); subst hSw; go_simp; (try with_reducible rfl))
        (try simp only [uA, uB, uC, uD, uE, uF, uG, uH])
        refine wpAnyH_take (i := 10) (oi := _) (v := .bool true) rfl (by kernel_rfl) (by kernel_rfl) (by kernel_rfl) (fun _ _ _ h => h) (Or.inl ⟨by rfl, ?_⟩) (by assumption) ?_
        rotate_left 0
        · (intro w hSw; (try dsimp only at hSw); subst hSw; go_simp; (try with_reducible rfl))
        (try simp only [uA, uB, uC, uD, uE, uF, uG, uH])
        refine wpAnyH_done (by kernel_rfl) ?_ _
        clear EQ EG RQ RPP RU
        have hiz := info31 (List.replicate 32 0) rfl
        have hzz := zD_size (List.replicate 32 0) rfl
        have hz1 := dig_one (List.replicate 32 0)
        go_wp2_with (refine wpList_store_row rfl 31 (.tmp 4) (.tmp 41) rfl (w.heap.size + 1) zD rfl rfl 31 _ kd hiz hzz hz1 ?_)
        have hgf := setRow_heap wr.drew (w.heap.size + 1) _ zD 31 (0, 0) kd
        refine bodyPost_ret (results_ct rfl _ _ (w.heap.size + 1) 31 _ (0, 0) _ rfl hgf Tryz.underlying31 rfl hiz) rfl ?_
        exact ⟨⟨List.replicate 32 0, false, rfl, rfl⟩, below_setRow qr.drew _ (by omega) _⟩
    | node b l r =>
      obtain ⟨c, hg⟩ := PP.out.g
      have hi : i < 256 := hg.1
      have hw1 : wrap64 ((i : Int) + 1) = ((i + 1 : Nat) : Int) := by unfold wrap64; omega
      have hr := PP.out.r
      have c99 : wr.cell? ⟨b, 99, none⟩ = some (.pointer l.adr) := cell_in hr.2.1 (kn_left _ _ _ _ rfl rfl)
      have c100 : wr.cell? ⟨b, 100, none⟩ = some (.pointer r.adr) := cell_in hr.2.1 (kn_right _ _ _ _ rfl rfl)
      have hbl := (Array.getElem?_eq_some_iff.1 hr.2.1).1
      have RR := Aside0.mk hr
      have GG := Aside0.mk hg
      have IN2 : Aside0 (Calls Tryz.prog 77 #[.pointer (some ⟨b, 0, none⟩)] wr fun e w' => e = .returned (.bool true) ∧ w' = wr) := ⟨IN.out⟩
      clear hr hg PP IN
      rw [show (AT.node b l r).adr = some ⟨b, 0, none⟩ from rfl]
      go_upto_region 7 with (go_at_call 77; refine IN2.out.mono ?_; rintro e w' ⟨rfl, hw⟩; replace hw := hw.symm; subst hw)
      go_wp2_with (refine wpList_load_row rfl 31 (.tmp 3) rfl w.heap.size rfl 31 _ (0, 0) _ pr Tryz.underlying31 rfl hi31 ?_)
      refine (HR.out i wr).mono ?_
      rintro e W5 ⟨rfl, b5⟩
      have B5 : Aside0 (Below W1.heap.size W1 W5) := ⟨BB.out.trans (b5.mono BB.out.size)⟩
      have R5 : Aside0 ((AT.node b l r).rep W5) := ⟨AT.rep_below RR.out b5⟩
      have d99 : W5.cell? ⟨b, 99, none⟩ = some (.pointer l.adr) := (b5.cell (p := ⟨b, 99, none⟩) hbl).trans c99
      have d100 : W5.cell? ⟨b, 100, none⟩ = some (.pointer r.adr) := (b5.cell (p := ⟨b, 100, none⟩) hbl).trans c100
      clear b5 c99 c100 pr kr RR BB IN2
      cases hb : bitB p i
      · go_wp2_with fail
        go_roundg l.height
        case measure =>
          have : (AT.node b l r).height = l.height + r.height + 1 := rfl
          omega
        case rel => exact ⟨l, i + 1, Nat.le_refl _, ⟨rfl, by go_num, ⟨_, GG.out.2.2.1⟩, R5.out.2.2.1⟩, B5.out⟩
      · go_wp2_with fail
        go_roundg r.height
        case measure =>
          have : (AT.node b l r).height = l.height + r.height + 1 := rfl
          omega
        case rel => exact ⟨r, i + 1, Nat.le_refl _, ⟨rfl, by go_num, ⟨_, GG.out.2.2.2⟩, R5.out.2.2.2⟩, B5.out⟩
end Go.Proofs.YtadkeohohehmcaaGreatDoor.Top
end
section
/- A new tree; a tree's root. -/
namespace Go.Proofs.YtadkeohohehmcaaGreatDoor.Top
open Go.RowKit Go.Proofs.YtadkeohohehmcaaGreatDoorW.PrintWords Go.Proofs.YtadkeohohehmcaaGreatDoorW.PrintLast Go.Proofs.YtadkeohohehmcaaGreatDoorW.PrintMore Go.Proofs.YtadkeohohehmcaaGreatDoor.PTop
set_option linter.unusedVariables false
set_option linter.unusedSimpArgs false
attribute [local go_sem] Oper.semAt_some

/-- A tree's own cells. -/
def trC (n : Int) (x : Option Addr) : Array Value := #[.int .i64 32, .int .i64 n, .pointer x]
def NewPost (w : World) (e : Ending) (w' : World) : Prop := ∃ tb : Nat, e = .returned (.tuple #[.pointer (some ⟨tb, 0, none⟩), .int .i64 0]) ∧ w'.heap[tb]? = some (.cells (trC 0 none) 110 (0, 0)) ∧ w.heap.size ≤ tb ∧ Below w.heap.size w w'
set_option maxHeartbeats 2000000 in
set_option maxRecDepth 100000 in
theorem newt_c (w : World) : Calls Tryz.prog 33 #[.int .i64 32] w fun e w' => NewPost w e w' := by
  go_enter Tryz.func33, Tryz.ntmps33
  go_wp2_with (go_at_call 56; refine (width_c w).mono ?_; rintro e W1 ⟨rfl, hd⟩)
  refine bodyPost_ret (results_tmp2 rfl _ _ _) rfl ?_
  have hb := hd.below
  refine ⟨W1.heap.size, rfl, blk_new W1 _, hb.size, hb.alloc hb.size _⟩

set_option maxHeartbeats 4000000 in
set_option maxRecDepth 100000 in
theorem roott_c (KS : List Int) (tb : Nat) (n : Int) (t : AT) (w : World) (hk : HKey KS w) (htb : w.heap[tb]? = some (.cells (trC n t.adr) 110 (0, 0))) (ht : t.rep w) (nd : t.blocks.Nodup) (nz : 0 ∉ t.blocks) (ntb : tb ∉ t.blocks) :
    Calls Tryz.prog 35 #[.pointer (some ⟨tb, 0, none⟩)] w fun e w' => e = .returned (dv (t.un.dig KS)) ∧ Tou t.blocks w w' := by
  have hl := U.dig_len KS t.un
  have htl : tb < w.heap.size := (Array.getElem?_eq_some_iff.1 htb).1
  have hw0 := hk.pos
  have NA : ∀ k ∈ t.blocks, k < w.heap.size := fun k hm => AT.rep_lt ht k hm
  have CD : Aside0 (∀ W : World, Below w.heap.size w W → Calls Tryz.prog 60 #[.pointer t.adr, .int .i64 32] W fun e w' => e = .returned (dv (t.un.dig KS)) ∧ Tou t.blocks W w') := ⟨fun W hW => dig_c KS t W (hk.below hW hw0) (AT.rep_below ht hW) nd nz⟩
  have NN := Aside0.mk NA
  clear hk ht nd nz NA
  generalize t.un.dig KS = d at *
  generalize t.adr = ta at *
  generalize t.blocks = bs at *
  go_enter Tryz.func35, Tryz.ntmps35
  go_upto_region 1 with (refine wpList_allocW rfl 31 rfl zD zero31 ?_; intro W1 b1 s1 k1)
  have c0 : W1.cell? ⟨tb, 0, none⟩ = some (.int .i64 32) := cell_in (l := [.int .i64 32, .int .i64 n, .pointer ta]) ((b1.block tb htl).trans htb) rfl
  have c2 : W1.cell? ⟨tb, 2, none⟩ = some (.pointer ta) := cell_in (l := [.int .i64 32, .int .i64 n, .pointer ta]) ((b1.block tb htl).trans htb) rfl
  clear htb
  go_upto_region 3 with fail
  refine wp_region_held_drew (S := (fun W => W.cell? ⟨tb, 0, none⟩ = some (.int .i64 32) ∧ W.cell? ⟨tb, 2, none⟩ = some (.pointer ta))) (by kernel_rfl) (by exact ⟨c0, c2⟩) (fun hHeld => ?_)
  refine wpAnyH_take (i := 0) (oi := _) (v := ?_) rfl (by kernel_rfl) (by kernel_rfl) (by kernel_rfl) (fun _ _ _ h => h) (Or.inl ⟨by rfl, ?_⟩) (by assumption) ?_
  rotate_left
  · (intro w hSw; (try dsimp only at hSw); have s1_ := hSw.1; have s2_ := hSw.2; clear hSw; go_simp; (try with_reducible rfl))
  (try simp only [uA, uB, uC, uD, uE, uF, uG, uH])
  refine wpAnyH_take (i := 1) (oi := _) (v := ?_) rfl (by kernel_rfl) (by kernel_rfl) (by kernel_rfl) (fun _ _ _ h => h) (Or.inl ⟨by rfl, ?_⟩) (by assumption) ?_
  rotate_left
  · (intro w hSw; (try dsimp only at hSw); have s1_ := hSw.1; have s2_ := hSw.2; clear hSw; go_simp; (try with_reducible rfl))
  (try simp only [uA, uB, uC, uD, uE, uF, uG, uH])
  refine wpAnyH_take (i := 2) (oi := _) (v := ?_) rfl (by kernel_rfl) (by kernel_rfl) (by kernel_rfl) (fun _ _ _ h => h) (Or.inl ⟨by rfl, ?_⟩) (by assumption) ?_
  rotate_left
  · (intro w hSw; (try dsimp only at hSw); have s1_ := hSw.1; have s2_ := hSw.2; clear hSw; go_simp; (try with_reducible rfl))
  (try simp only [uA, uB, uC, uD, uE, uF, uG, uH])
  refine wpAnyH_take (i := 3) (oi := _) (v := ?_) rfl (by kernel_rfl) (by kernel_rfl) (by kernel_rfl) (fun _ _ _ h => h) (Or.inl ⟨by rfl, ?_⟩) (by assumption) ?_
  rotate_left
  · (intro w hSw; (try dsimp only at hSw); have s1_ := hSw.1; have s2_ := hSw.2; clear hSw; go_simp; (try with_reducible rfl))
  (try simp only [uA, uB, uC, uD, uE, uF, uG, uH])
  refine wpAnyH_take (i := 4) (oi := _) (v := ?_) rfl (by kernel_rfl) (by kernel_rfl) (by kernel_rfl) (fun _ _ _ h => h) (Or.inl ⟨by rfl, ?_⟩) (by assumption) ?_
  rotate_left
  · (intro w hSw; (try dsimp only at hSw); have s1_ := hSw.1; have s2_ := hSw.2; clear hSw; go_simp; (try with_reducible rfl))
  (try simp only [uA, uB, uC, uD, uE, uF, uG, uH])
  refine wpAnyH_take (i := 5) (oi := _) (v := ?_) rfl (by kernel_rfl) (by kernel_rfl) (by kernel_rfl) (fun _ _ _ h => h) (Or.inl ⟨by rfl, ?_⟩) (by assumption) ?_
  rotate_left
  · (intro w hSw; (try dsimp only at hSw); have s1_ := hSw.1; have s2_ := hSw.2; clear hSw; go_simp; (try with_reducible rfl))
  (try simp only [uA, uB, uC, uD, uE, uF, uG, uH])
  refine wpAnyH_take (i := 6) (oi := _) (v := ?_) rfl (by kernel_rfl) (by kernel_rfl) (by kernel_rfl) (fun _ _ _ h => h) (Or.inl ⟨by rfl, ?_⟩) (by assumption) ?_
  rotate_left
  · (intro w hSw; (try dsimp only at hSw); have s1_ := hSw.1; have s2_ := hSw.2; clear hSw; go_simp; (try with_reducible rfl))
  (try simp only [uA, uB, uC, uD, uE, uF, uG, uH])
  refine wpAnyH_take (i := 7) (oi := _) (v := ?_) rfl (by kernel_rfl) (by kernel_rfl) (by kernel_rfl) (fun _ _ _ h => h) (Or.inl ⟨by rfl, ?_⟩) (by assumption) ?_
  rotate_left
  · (intro w hSw; (try dsimp only at hSw); have s1_ := hSw.1; have s2_ := hSw.2; clear hSw; go_simp; (try with_reducible rfl))
  (try simp only [uA, uB, uC, uD, uE, uF, uG, uH])
  refine wpAnyH_ready (rs := [8]) (by kernel_rfl) (by decide) (AllReadyH.cons rfl (fun K' hK => ?_) AllReadyH.nil)
  rw [if_pos (by rfl)]
  go_simp
  refine (CD.out W1.drew b1.drew).mono ?_
  rintro e W2 ⟨rfl, h2⟩
  (try dsimp only)
  refine hK.out _ _ (by exact ⟨(h2.cell ntb (Nat.lt_of_lt_of_le htl b1.size)).trans c0, (h2.cell ntb (Nat.lt_of_lt_of_le htl b1.size)).trans c2⟩) (fun hHeld => ?_)
  clear hK
  (try simp only [uA, uB, uC, uD, uE, uF, uG, uH])
  have nw : w.heap.size ∉ bs := fun hm => Nat.lt_irrefl _ (NN.out _ hm)
  have k2 : W2.heap[w.heap.size]? = some (.cells zD 31 (0, 0)) := (h2.block _ nw (by simp; omega)).trans k1
  have T2 : Tou bs w W2 := (Tou.of_below bs b1).trans ((Tou.of_below bs ((Below.refl _ W1).drew)).trans h2)
  have hi31 := info31 _ hl
  have hz := zD_size _ hl
  have h1c := dig_one d
  refine wpAnyH_ready (rs := [9]) (by kernel_rfl) (by decide) (AllReadyH.cons rfl (fun K' hK => ?_) AllReadyH.nil)
  rw [if_pos (by rfl)]
  refine wp_store_row 31 (.tmp 2) (.tmp 14) rfl w.heap.size _ rfl rfl 31 _ k2 hi31 hz h1c ?_
  refine hK.out _ _ (by exact ⟨(World.cell?_of_block (w := W2) (setRow_other W2 w.heap.size tb _ (by omega))).trans hHeld.1, (World.cell?_of_block (w := W2) (setRow_other W2 w.heap.size tb _ (by omega))).trans hHeld.2⟩) (fun hHeld => ?_)
  clear hK
  refine wpAnyH_done (by kernel_rfl) ?_ _
  clear CD c0 c2 k1
  go_wp2_with fail
  have hgf := setRow_heap W2 w.heap.size _ (d.map (Value.int .u8)).toArray 31 (0, 0) k2
  refine bodyPost_ret (results_cell_row rfl _ _ w.heap.size 31 _ (0, 0) _ rfl hgf Tryz.underlying31 rfl hi31) rfl ?_
  exact ⟨rfl, T2.os, T2.tape, T2.output, by rw [size_setRow]; exact T2.size, fun k hk hkl => (setRow_other W2 w.heap.size k _ (by omega)).trans (T2.block k hk hkl)⟩
end Go.Proofs.YtadkeohohehmcaaGreatDoor.Top
end
