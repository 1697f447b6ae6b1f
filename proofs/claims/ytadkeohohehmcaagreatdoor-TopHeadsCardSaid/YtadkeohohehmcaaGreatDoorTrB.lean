/- Several texts in one. -/
import Derived.Test.YtadkeohohehmcaaGreatDoorTrA
section
/- A leaf comes into a tree: the way down. -/
namespace Go.Proofs.YtadkeohohehmcaaGreatDoor.Top
open Go.RowKit Go.Proofs.YtadkeohohehmcaaGreatDoorW.PrintWords Go.Proofs.YtadkeohohehmcaaGreatDoorW.PrintLast Go.Proofs.YtadkeohohehmcaaGreatDoorW.PrintMore Go.Proofs.YtadkeohohehmcaaGreatDoor.PTop
set_option linter.unusedVariables false
set_option linter.unusedSimpArgs false
attribute [local go_sem] Oper.semAt_some

set_option maxRecDepth 100000 in
theorem kn_set (x y : Value) : (Tryz.zeroCells152.setIfInBounds 99 x).setIfInBounds 100 y = (kn z32i z32i x y).toArray := by kernel_rfl
theorem AT.rep_lt {w : World} : ∀ {t : AT}, t.rep w → ∀ b ∈ t.blocks, b < w.heap.size
  | .nil, _, b, hb => by cases hb
  | .leaf k p v, h, b, hb => by
    obtain rfl := List.mem_singleton.1 hb
    exact (Array.getElem?_eq_some_iff.1 h.2.2).1
  | .node k l r, h, b, hb => by
    rcases List.mem_cons.1 hb with rfl | hb
    · exact (Array.getElem?_eq_some_iff.1 h.2.1).1
    · rcases List.mem_append.1 hb with hb | hb
      · exact AT.rep_lt h.2.2.1 b hb
      · exact AT.rep_lt h.2.2.2 b hb
theorem AT.rep_frame {w w' : World} : ∀ {t : AT}, t.rep w → (∀ b ∈ t.blocks, w'.heap[b]? = w.heap[b]?) → t.rep w'
  | .nil, _, _ => trivial
  | .leaf k p v, h, hb => ⟨h.1, h.2.1, (hb k (List.mem_singleton.2 rfl)).trans h.2.2⟩
  | .node k l r, h, hb => ⟨h.1, (hb k List.mem_cons_self).trans h.2.1, AT.rep_frame h.2.2.1 (fun b hm => hb b (List.mem_cons_of_mem _ (List.mem_append_left _ hm))), AT.rep_frame h.2.2.2 (fun b hm => hb b (List.mem_cons_of_mem _ (List.mem_append_right _ hm)))⟩
theorem AT.rep_below {w w' : World} {t : AT} (h : t.rep w) (hb : Below w.heap.size w w') : t.rep w' := AT.rep_frame h fun b hm => hb.block b (AT.rep_lt h b hm)
theorem AT.adr_some {t : AT} (h : t.un ≠ .nil) : t.adr.isSome = true := by
  cases t with
  | nil => exact absurd rfl h
  | leaf b p v => rfl
  | node b l r => rfl
theorem kn_set_left (p v : List Int) (x y z : Value) (hp : p.length = 32) (hv : v.length = 32) : (kn p v x y).set 99 z = kn p v z y := by
  unfold kn
  rw [List.set_append_right _ _ (by simp [hp, hv, z32i])]
  simp [hp, hv, z32i]
theorem kn_set_right (p v : List Int) (x y z : Value) (hp : p.length = 32) (hv : v.length = 32) : (kn p v x y).set 100 z = kn p v x z := by
  unfold kn
  rw [List.set_append_right _ _ (by simp [hp, hv, z32i])]
  simp [hp, hv, z32i]
theorem block_range {W : World} {b : Nat} {l : List Value} {t : TypeId} {fr : Nat × Nat} (h : W.heap[b]? = some (.cells l.toArray t fr)) : W.rangeAt b 0 l := fun i u hi => cell_in h (by rw [Nat.zero_add]; exact hi)
/-- The contract below, for the induction. -/
def WithH (p v : List Int) (n : Nat) : Prop := ∀ (t : AT) (c : Nat → Bool) (i : Nat) (w : World), i + n = 256 → (∀ j, j < i → bitB p j = c j) → t.un.good c i → t.rep w → t.blocks.Nodup →
  Calls Tryz.prog 59 #[.pointer t.adr, dv (p ++ v), .int .i64 i] w fun e w' => WithPost p v n t w e w'

set_option maxHeartbeats 4000000 in
set_option maxRecDepth 100000 in
theorem with_node (p v : List Int) (hp : PathOk p) (hv : v.length = 32) (n : Nat) (IH : WithH p v n) (b : Nat) (l r : AT) (c : Nat → Bool) (w : World) (hn : n < 256) (hpc : ∀ j, j < 255 - n → bitB p j = c j) (hg : (AT.node b l r).un.good c (255 - n)) (ht : (AT.node b l r).rep w) (hd : (AT.node b l r).blocks.Nodup) :
    Calls Tryz.prog 59 #[.pointer (some ⟨b, 0, none⟩), dv (p ++ v), .int .i64 ((255 - n : Nat) : Int)] w fun e w' => WithPost p v (n + 1) (.node b l r) w e w' := by
  have hi89 : (Tryz.prog.info? 89).map (·.size) = some ((p ++ v).map (Value.int .u8)).length := by rw [List.length_map, List.length_append, hp.len, hv]; kernel_rfl
  have hi89a := info89 (p ++ v) (by rw [List.length_append, hp.len, hv])
  have h1p := dig_one (p ++ v)
  have hip := info31l p hp.len
  have HIP : Aside0 (255 - n + 1 + n = 256) := ⟨by omega⟩
  have HIB : Aside0 (255 - n < 256) := ⟨by omega⟩
  have hi1 : IntKind.i64.wrap (((255 - n : Nat) : Int) + 1) = ((255 - n + 1 : Nat) : Int) := (i64_w _).trans (by unfold wrap64; omega)
  have UW : Aside0 (U.with p v (n + 1) (AT.node b l r).un = if bitB p (255 - n) then .node l.un (U.with p v n r.un) else .node (U.with p v n l.un) r.un) := ⟨by rw [AT.un, U.with]⟩
  generalize 255 - n = i at *
  have BB := Aside0.mk (built_both (.pointer l.adr) (.pointer r.adr) rfl rfl)
  have hi152 : (Tryz.prog.info? 152).map (·.size) = some (kn z32i z32i (.pointer l.adr) (.pointer r.adr)).toArray.size := by rw [List.size_toArray, kn_len _ _ _ _ rfl rfl]; kernel_rfl
  have hkb : b < w.heap.size := (Array.getElem?_eq_some_iff.1 ht.2.1).1
  have PV : Aside0 (dv (p ++ v) = .agg ((p ++ v).map (Value.int .u8)).toArray) := ⟨rfl⟩
  rw [PV.out]
  have RP : Aside0 (∀ W : World, W.heap[w.heap.size]? = some (.cells ((p ++ v).map (Value.int .u8)).toArray 89 (0, 0)) → W.rangeAt w.heap.size 0 (p.map (Value.int .u8))) := ⟨fun W h => pair_cells h 0 p fun i u hi => by rw [Nat.zero_add, List.getElem?_append_left (List.getElem?_eq_some_iff.1 hi).1]; exact hi⟩
  generalize (p ++ v).map (Value.int .u8) = lf at *
  have k0 := blk_new w (.cells lf.toArray 89)
  have b0 : Below w.heap.size w (w.alloc (.cells lf.toArray 89)) := (Below.refl _ w).alloc (Nat.le_refl _) _
  have hb0 : b ≠ w.heap.size := by omega
  have t0 := (b0.drew.block b hkb).trans ht.2.1
  have IN : Aside0 (Calls Tryz.prog 77 #[.pointer (some ⟨b, 0, none⟩)] (w.alloc (.cells lf.toArray 89)).drew fun e w' => e = .returned (.bool true) ∧ w' = (w.alloc (.cells lf.toArray 89)).drew) := ⟨by
    have := inner_knot b l.adr r.adr (w.alloc (.cells lf.toArray 89)).drew (cell_in t0 (kn_left _ _ _ _ rfl rfl)) (cell_in t0 (kn_right _ _ _ _ rfl rfl))
    have e : (l.adr.isSome || r.adr.isSome) = true := by rcases ht.1 with h1 | h1 <;> simp [h1]
    rw [e] at this
    exact this⟩
  have IN2 := IN
  have c99 : (w.alloc (.cells lf.toArray 89)).drew.cell? ⟨b, 99, none⟩ = some (.pointer l.adr) := cell_in t0 (kn_left _ _ _ _ rfl rfl)
  have c100 : (w.alloc (.cells lf.toArray 89)).drew.cell? ⟨b, 100, none⟩ = some (.pointer r.adr) := cell_in t0 (kn_right _ _ _ _ rfl rfl)
  have HB := kn_set (.pointer l.adr) (.pointer r.adr)
  obtain ⟨ks, hks⟩ : ∃ ks, (kn z32i z32i (.pointer l.adr) (.pointer r.adr)).toArray = ks := ⟨_, rfl⟩
  have KS := Aside0.mk hks
  rw [hks] at hi152
  rw [hks] at HB
  obtain ⟨la, hla⟩ : ∃ la, l.adr = la := ⟨_, rfl⟩
  obtain ⟨ra, hra⟩ : ∃ ra, r.adr = ra := ⟨_, rfl⟩
  have LA := Aside0.mk hla
  have RA := Aside0.mk hra
  rw [hla] at c99 HB
  rw [hra] at c100 HB
  have HT := Aside0.mk ht
  have HG := Aside0.mk hg
  have HD := Aside0.mk hd
  clear hla hra hks BB t0 ht hg hd
  go_enter Tryz.func59, Tryz.ntmps59
  go_upto_region 1 with fail
  refine wp_region_held_drew (S := (fun W => W = (w.alloc (.cells lf.toArray 89)).drew)) (by kernel_rfl) (by rfl) (fun hHeld => ?_)
  refine wpAnyH_take (i := 0) (oi := _) (v := ?_) rfl (by kernel_rfl) (by kernel_rfl) (by kernel_rfl) (fun _ _ _ h => h) (Or.inl ⟨by rfl, ?_⟩) (by assumption) ?_
  rotate_left
  · (intro w hSw; (try dsimp only at hSw); subst hSw; go_simp; (try with_reducible rfl))
  (try simp only [uA, uB, uC, uD, uE, uF, uG, uH])
  refine wpAnyH_take (i := 1) (oi := _) (v := .bool false) rfl (by kernel_rfl) (by kernel_rfl) (by kernel_rfl) (fun _ _ _ h => h) (Or.inl ⟨by rfl, ?_⟩) (by assumption) ?_
  rotate_left 0
  · (intro w hSw; (try dsimp only at hSw); subst hSw; go_simp; (try with_reducible rfl))
  (try simp only [uA, uB, uC, uD, uE, uF, uG, uH])
  refine wpAnyH_take (i := 2) (oi := _) (v := .bool false) rfl (by kernel_rfl) (by kernel_rfl) (by kernel_rfl) (fun _ _ _ h => h) (Or.inl ⟨by rfl, ?_⟩) (by assumption) ?_
  rotate_left 0
  · (intro w hSw; (try dsimp only at hSw); subst hSw; go_simp; (try with_reducible rfl))
  (try simp only [uA, uB, uC, uD, uE, uF, uG, uH])
  refine wpAnyH_take (i := 3) (oi := _) (v := ?_) rfl (by kernel_rfl) (by kernel_rfl) (by kernel_rfl) (fun _ _ _ h => h) (Or.inl ⟨by rfl, ?_⟩) (by assumption) ?_
  rotate_left
  · (intro w hSw; (try dsimp only at hSw); subst hSw; go_simp; (try with_reducible rfl))
  (try simp only [uA, uB, uC, uD, uE, uF, uG, uH])
  refine wpAnyH_ready (rs := [4]) (by kernel_rfl) (by decide) (AllReadyH.cons rfl (fun K' hK => ?_) AllReadyH.nil)
  rw [if_pos (by rfl)]
  go_simp
  refine (IN.out).mono ?_
  rintro e w' ⟨rfl, rfl⟩
  (try dsimp only)
  refine hK.out _ _ (by rfl) (fun hHeld => ?_)
  clear hK
  (try simp only [uA, uB, uC, uD, uE, uF, uG, uH])
  refine wpAnyH_take (i := 5) (oi := _) (v := .bool false) rfl (by kernel_rfl) (by kernel_rfl) (by kernel_rfl) (fun _ _ _ h => h) (Or.inl ⟨by rfl, ?_⟩) (by assumption) ?_
  rotate_left 0
  · (intro w hSw; (try dsimp only at hSw); subst hSw; go_simp; (try with_reducible rfl))
  (try simp only [uA, uB, uC, uD, uE, uF, uG, uH])
  refine wpAnyH_take (i := 6) (oi := _) (v := .bool false) rfl (by kernel_rfl) (by kernel_rfl) (by kernel_rfl) (fun _ _ _ h => h) (Or.inl ⟨by rfl, ?_⟩) (by assumption) ?_
  rotate_left 0
  · (intro w hSw; (try dsimp only at hSw); subst hSw; go_simp; (try with_reducible rfl))
  (try simp only [uA, uB, uC, uD, uE, uF, uG, uH])
  refine wpAnyH_take (i := 7) (oi := _) (v := undef) rfl (by kernel_rfl) (by kernel_rfl) (by kernel_rfl) (fun _ _ _ h => h) (Or.inr ⟨by rfl, rfl⟩) (by assumption) ?_
  (try simp only [uA, uB, uC, uD, uE, uF, uG, uH])
  refine wpAnyH_take (i := 8) (oi := _) (v := undef) rfl (by kernel_rfl) (by kernel_rfl) (by kernel_rfl) (fun _ _ _ h => h) (Or.inr ⟨by rfl, rfl⟩) (by assumption) ?_
  (try simp only [uA, uB, uC, uD, uE, uF, uG, uH])
  refine wpAnyH_take (i := 9) (oi := _) (v := undef) rfl (by kernel_rfl) (by kernel_rfl) (by kernel_rfl) (fun _ _ _ h => h) (Or.inr ⟨by rfl, rfl⟩) (by assumption) ?_
  (try simp only [uA, uB, uC, uD, uE, uF, uG, uH])
  refine wpAnyH_take (i := 10) (oi := _) (v := undef) rfl (by kernel_rfl) (by kernel_rfl) (by kernel_rfl) (fun _ _ _ h => h) (Or.inr ⟨by rfl, rfl⟩) (by assumption) ?_
  (try simp only [uA, uB, uC, uD, uE, uF, uG, uH])
  refine wpAnyH_take (i := 11) (oi := _) (v := undef) rfl (by kernel_rfl) (by kernel_rfl) (by kernel_rfl) (fun _ _ _ h => h) (Or.inr ⟨by rfl, rfl⟩) (by assumption) ?_
  (try simp only [uA, uB, uC, uD, uE, uF, uG, uH])
  refine wpAnyH_take (i := 12) (oi := _) (v := undef) rfl (by kernel_rfl) (by kernel_rfl) (by kernel_rfl) (fun _ _ _ h => h) (Or.inr ⟨by rfl, rfl⟩) (by assumption) ?_
  (try simp only [uA, uB, uC, uD, uE, uF, uG, uH])
  refine wpAnyH_take (i := 13) (oi := _) (v := undef) rfl (by kernel_rfl) (by kernel_rfl) (by kernel_rfl) (fun _ _ _ h => h) (Or.inr ⟨by rfl, rfl⟩) (by assumption) ?_
  (try simp only [uA, uB, uC, uD, uE, uF, uG, uH])
  refine wpAnyH_take (i := 14) (oi := _) (v := undef) rfl (by kernel_rfl) (by kernel_rfl) (by kernel_rfl) (fun _ _ _ h => h) (Or.inr ⟨by rfl, rfl⟩) (by assumption) ?_
  (try simp only [uA, uB, uC, uD, uE, uF, uG, uH])
  refine wpAnyH_take (i := 15) (oi := _) (v := .bool false) rfl (by kernel_rfl) (by kernel_rfl) (by kernel_rfl) (fun _ _ _ h => h) (Or.inl ⟨by rfl, ?_⟩) (by assumption) ?_
  rotate_left 0
  · (intro w hSw; (try dsimp only at hSw); subst hSw; go_simp; (try with_reducible rfl))
  (try simp only [uA, uB, uC, uD, uE, uF, uG, uH])
  refine wpAnyH_take (i := 16) (oi := _) (v := .bool false) rfl (by kernel_rfl) (by kernel_rfl) (by kernel_rfl) (fun _ _ _ h => h) (Or.inl ⟨by rfl, ?_⟩) (by assumption) ?_
  rotate_left 0
  · (intro w hSw; (try dsimp only at hSw); subst hSw; go_simp; (try with_reducible rfl))
  (try simp only [uA, uB, uC, uD, uE, uF, uG, uH])
  refine wpAnyH_take (i := 17) (oi := _) (v := .bool false) rfl (by kernel_rfl) (by kernel_rfl) (by kernel_rfl) (fun _ _ _ h => h) (Or.inl ⟨by rfl, ?_⟩) (by assumption) ?_
  rotate_left 0
  · (intro w hSw; (try dsimp only at hSw); subst hSw; go_simp; (try with_reducible rfl))
  (try simp only [uA, uB, uC, uD, uE, uF, uG, uH])
  refine wpAnyH_done (by kernel_rfl) ?_ _
  clear IN
  go_upto_region 8 with (go_at_call 77; refine IN2.out.mono ?_; rintro e w' ⟨rfl, rfl⟩)
  refine wp_region_held_drew (S := (fun W => W.cell? ⟨b, 99, none⟩ = some (.pointer la) ∧ W.cell? ⟨b, 100, none⟩ = some (.pointer ra))) (by kernel_rfl) (by exact ⟨c99, c100⟩) (fun hHeld => ?_)
  refine wpAnyH_take (i := 0) (oi := _) (v := ?_) rfl (by kernel_rfl) (by kernel_rfl) (by kernel_rfl) (fun _ _ _ h => h) (Or.inl ⟨by rfl, ?_⟩) (by assumption) ?_
  rotate_left
  · (intro w hSw; (try dsimp only at hSw); have c1 := hSw.1; have c2 := hSw.2; clear hSw; go_simp; (try with_reducible rfl))
  (try simp only [uA, uB, uC, uD, uE, uF, uG, uH])
  refine wpAnyH_take (i := 1) (oi := _) (v := ?_) rfl (by kernel_rfl) (by kernel_rfl) (by kernel_rfl) (fun _ _ _ h => h) (Or.inl ⟨by rfl, ?_⟩) (by assumption) ?_
  rotate_left
  · (intro w hSw; (try dsimp only at hSw); have c1 := hSw.1; have c2 := hSw.2; clear hSw; go_simp; (try with_reducible rfl))
  (try simp only [uA, uB, uC, uD, uE, uF, uG, uH])
  refine wpAnyH_take (i := 2) (oi := _) (v := ?_) rfl (by kernel_rfl) (by kernel_rfl) (by kernel_rfl) (fun _ _ _ h => h) (Or.inl ⟨by rfl, ?_⟩) (by assumption) ?_
  rotate_left
  · (intro w hSw; (try dsimp only at hSw); have c1 := hSw.1; have c2 := hSw.2; clear hSw; go_simp; (try with_reducible rfl))
  (try simp only [uA, uB, uC, uD, uE, uF, uG, uH])
  refine wpAnyH_take (i := 3) (oi := _) (v := ?_) rfl (by kernel_rfl) (by kernel_rfl) (by kernel_rfl) (fun _ _ _ h => h) (Or.inl ⟨by rfl, ?_⟩) (by assumption) ?_
  rotate_left
  · (intro w hSw; (try dsimp only at hSw); have c1 := hSw.1; have c2 := hSw.2; clear hSw; go_simp; (try with_reducible rfl))
  (try simp only [uA, uB, uC, uD, uE, uF, uG, uH])
  refine wpAnyH_take (i := 4) (oi := _) (v := ?_) rfl (by kernel_rfl) (by kernel_rfl) (by kernel_rfl) (fun _ _ _ h => h) (Or.inl ⟨by rfl, ?_⟩) (by assumption) ?_
  rotate_left
  · (intro w hSw; (try dsimp only at hSw); have c1 := hSw.1; have c2 := hSw.2; clear hSw; go_simp; (try with_reducible rfl))
  (try simp only [uA, uB, uC, uD, uE, uF, uG, uH])
  refine wpAnyH_take (i := 5) (oi := _) (v := ?_) rfl (by kernel_rfl) (by kernel_rfl) (by kernel_rfl) (fun _ _ _ h => h) (Or.inl ⟨by rfl, ?_⟩) (by assumption) ?_
  rotate_left
  · (intro w hSw; (try dsimp only at hSw); have c1 := hSw.1; have c2 := hSw.2; clear hSw; go_simp; (try with_reducible rfl))
  (try simp only [uA, uB, uC, uD, uE, uF, uG, uH])
  refine wpAnyH_take (i := 6) (oi := _) (v := ?_) rfl (by kernel_rfl) (by kernel_rfl) (by kernel_rfl) (fun _ _ _ h => h) (Or.inl ⟨by rfl, ?_⟩) (by assumption) ?_
  rotate_left
  · (intro w hSw; (try dsimp only at hSw); have c1 := hSw.1; have c2 := hSw.2; clear hSw; go_simp; (try with_reducible rfl))
  (try simp only [uA, uB, uC, uD, uE, uF, uG, uH])
  refine wpAnyH_take (i := 7) (oi := _) (v := ?_) rfl (by kernel_rfl) (by kernel_rfl) (by kernel_rfl) (fun _ _ _ h => h) (Or.inl ⟨by rfl, ?_⟩) (by assumption) ?_
  rotate_left
  · (intro w hSw; (try dsimp only at hSw); have c1 := hSw.1; have c2 := hSw.2; clear hSw; go_simp; (try with_reducible rfl))
  (try simp only [uA, uB, uC, uD, uE, uF, uG, uH])
  refine wpAnyH_take (i := 8) (oi := _) (v := .agg ks) rfl (by kernel_rfl) (by kernel_rfl) (by kernel_rfl) (fun _ _ _ h => h) (Or.inl ⟨by rfl, ?_⟩) (by assumption) ?_
  rotate_left 0
  · (intro w hSw; (try dsimp only at hSw); have c1 := hSw.1; have c2 := hSw.2; clear hSw; go_simp; (try with_reducible rfl))
  (try simp only [uA, uB, uC, uD, uE, uF, uG, uH])
  refine wpAnyH_ready (rs := [9]) (by kernel_rfl) (by decide) (AllReadyH.cons rfl (fun K' hK => ?_) AllReadyH.nil)
  rw [if_pos (by rfl)]
  go_simp
  refine hK.out _ _ (by exact ⟨(World.cell?_alloc_past _ _ _ (by simp; omega)).trans c99, (World.cell?_alloc_past _ _ _ (by simp; omega)).trans c100⟩) (fun hHeld => ?_)
  clear hK
  (try simp only [uA, uB, uC, uD, uE, uF, uG, uH])
  refine wpAnyH_take (i := 10) (oi := _) (v := ?_) rfl (by kernel_rfl) (by kernel_rfl) (by kernel_rfl) (fun _ _ _ h => h) (Or.inl ⟨by rfl, ?_⟩) (by assumption) ?_
  rotate_left
  · (intro w hSw; (try dsimp only at hSw); have c1 := hSw.1; have c2 := hSw.2; clear hSw; go_simp; (try with_reducible rfl))
  (try simp only [uA, uB, uC, uD, uE, uF, uG, uH])
  refine wpAnyH_done (by kernel_rfl) ?_ _
  obtain ⟨W1, hW1⟩ : ∃ W1, ((w.alloc (.cells lf.toArray 89)).alloc (.cells ks 152)).drew.drew = W1 := ⟨_, rfl⟩
  rw [hW1]
  have q1 : Below w.heap.size w W1 := by rw [← hW1]; exact ((b0.alloc b0.size _).drew).drew
  have s1 : W1.heap.size = w.heap.size + 2 := by rw [← hW1]; simp
  have k1 : W1.heap[w.heap.size]? = some (.cells lf.toArray 89 (0, 0)) := by rw [← hW1]; exact blk_alloc k0 _
  have n1 : W1.heap[w.heap.size + 1]? = some (.cells ks 152 (0, 0)) := by
    rw [← hW1]
    have h := blk_new (w.alloc (.cells lf.toArray 89)) (.cells ks 152)
    rw [show (w.alloc (.cells lf.toArray 89)).heap.size = w.heap.size + 1 by simp] at h
    exact h
  have RP1 := RP.out W1 k1
  clear hW1 k0 b0 c99 c100 HB IN2 hHeld
  go_upto_region 9 with fail
  go_wp2_with (refine wpList_load_mid rfl 31 (.tmp 71) rfl w.heap.size 0 rfl _ _ RP1 Tryz.underlying31 rfl hip ?_)
  refine (right_c p hp.len i W1).mono ?_
  rintro e W2 ⟨rfl, b2⟩
  have q2 : Below w.heap.size w W2 := q1.trans (b2.mono (by omega))
  have k2 := (b2.block _ (by omega)).trans k1
  have n2 := (b2.block _ (by omega)).trans n1
  have s2 : w.heap.size + 2 ≤ W2.heap.size := by have := b2.size; omega
  clear b2 k1 n1 RP1 q1 s1
  cases hb : bitB p i
  · have CALL : Aside0 (∀ W : World, Below w.heap.size w W → Calls Tryz.prog 59 #[.pointer la, .agg lf.toArray, .int .i64 ((i + 1 : Nat) : Int)] W fun e w' => WithPost p v n l W e w') := ⟨fun W hW => by
      rw [← PV.out, ← LA.out]
      have hpc' := U.good_step hpc
      rw [hb] at hpc'
      have hD := HD.out
      rw [AT.blocks, List.nodup_cons, List.nodup_append] at hD
      exact IH l _ (i + 1) W HIP.out hpc' HG.out.2.2.1 (AT.rep_below HT.out.2.2.1 hW) hD.2.1⟩
    have cl : W2.cell? ⟨w.heap.size + 1, 99, none⟩ = some (.pointer la) := by
      rw [← KS.out, LA.out, RA.out] at n2
      exact cell_in n2 (kn_left _ _ _ _ rfl rfl)
    have fz : ∀ W : World, (∃ cs, W.heap[w.heap.size + 1]? = some (.cells cs 152 (0, 0))) → W.frozen? ⟨w.heap.size + 1, 99, none⟩ = false := fun W ⟨cs, h⟩ => frozen_in h
    go_upto_region 11 with fail
    refine wp_region_held_drew (S := (fun W => Below w.heap.size w W ∧ W.heap[w.heap.size]? = some (.cells lf.toArray 89 (0, 0)))) (by kernel_rfl) (by exact ⟨q2.drew, k2⟩) (fun hHeld => ?_)
    refine wpAnyH_take (i := 0) (oi := _) (v := ?_) rfl (by kernel_rfl) (by kernel_rfl) (by kernel_rfl) (fun _ _ _ h => h) (Or.inl ⟨by rfl, ?_⟩) (by assumption) ?_
    rotate_left
    · (intro w hSw; (try dsimp only at hSw); clear hSw; go_simp; (try with_reducible rfl))
    (try simp only [uA, uB, uC, uD, uE, uF, uG, uH])
    refine wpAnyH_take (i := 1) (oi := _) (v := ?_) rfl (by kernel_rfl) (by kernel_rfl) (by kernel_rfl) (fun _ _ _ h => h) (Or.inl ⟨by rfl, ?_⟩) (by assumption) ?_
    rotate_left
    · (intro w hSw; (try dsimp only at hSw); clear hSw; go_simp; (try with_reducible rfl))
    (try simp only [uA, uB, uC, uD, uE, uF, uG, uH])
    refine wpAnyH_take (i := 2) (oi := _) (v := ?_) rfl (by kernel_rfl) (by kernel_rfl) (by kernel_rfl) (fun _ _ _ h => h) (Or.inl ⟨by rfl, ?_⟩) (by assumption) ?_
    rotate_left
    · (intro w hSw; (try dsimp only at hSw); clear hSw; go_simp; (try with_reducible rfl))
    (try simp only [uA, uB, uC, uD, uE, uF, uG, uH])
    refine wpAnyH_take (i := 3) (oi := _) (v := ?_) rfl (by kernel_rfl) (by kernel_rfl) (by kernel_rfl) (fun _ _ _ h => h) (Or.inl ⟨by rfl, ?_⟩) (by assumption) ?_
    rotate_left
    · (intro w hSw; (try dsimp only at hSw); clear hSw; go_simp; (try with_reducible rfl))
    (try simp only [uA, uB, uC, uD, uE, uF, uG, uH])
    refine wpAnyH_take (i := 5) (oi := _) (v := _) rfl (by kernel_rfl) (by kernel_rfl) (by kernel_rfl) (fun _ _ _ h => h) (yieldsIf_load_mid (by rfl) 89 (.tmp 4) rfl w.heap.size 0 rfl _ _ (fun W hW => block_range hW.2) Tryz.underlying89 rfl hi89) (by assumption) ?_
    (try simp only [uA, uB, uC, uD, uE, uF, uG, uH])
    refine wpAnyH_take (i := 6) (oi := _) (v := ?_) rfl (by kernel_rfl) (by kernel_rfl) (by kernel_rfl) (fun _ _ _ h => h) (Or.inl ⟨by rfl, ?_⟩) (by assumption) ?_
    rotate_left
    · (intro w hSw; (try dsimp only at hSw); clear hSw; go_simp; (try with_reducible rfl))
    (try simp only [uA, uB, uC, uD, uE, uF, uG, uH])
    refine wpAnyH_take (i := 7) (oi := _) (v := ?_) rfl (by kernel_rfl) (by kernel_rfl) (by kernel_rfl) (fun _ _ _ h => h) (Or.inl ⟨by rfl, ?_⟩) (by assumption) ?_
    rotate_left
    · (intro w hSw; (try dsimp only at hSw); clear hSw; go_simp; (try with_reducible rfl))
    (try simp only [uA, uB, uC, uD, uE, uF, uG, uH])
    refine wpAnyH_ready (rs := [4]) (by kernel_rfl) (by decide) (AllReadyH.cons rfl (fun K' hK => ?_) AllReadyH.nil)
    rw [if_pos (by rfl)]
    go_simp
    refine hK.out _ _ (by exact ⟨q2.drew, k2⟩) (fun hHeld => ?_)
    clear hK
    (try simp only [uA, uB, uC, uD, uE, uF, uG, uH])
    refine wpAnyH_ready (rs := [8]) (by kernel_rfl) (by decide) (AllReadyH.cons rfl (fun K' hK => ?_) AllReadyH.nil)
    rw [if_pos (by rfl)]
    go_simp
    refine (CALL.out W2.drew q2.drew).mono ?_
    rintro e w' ⟨t', rfl, hr', hu', hb', hnd', hbl'⟩
    (try dsimp only)
    refine hK.out _ _ (by exact ⟨q2.drew.trans (hb'.mono q2.size), (hb'.block _ (Nat.lt_of_lt_of_le (Nat.lt_add_of_pos_right (by decide)) s2)).trans k2⟩) (fun hHeld => ?_)
    clear hK
    (try simp only [uA, uB, uC, uD, uE, uF, uG, uH])
    have q3 : Below w.heap.size w w' := q2.drew.trans (hb'.mono q2.size)
    have k3 : w'.heap[w.heap.size]? = some (.cells lf.toArray 89 (0, 0)) := (hb'.block _ (Nat.lt_of_lt_of_le (Nat.lt_add_of_pos_right (by decide)) s2)).trans k2
    have n3 : w'.heap[w.heap.size + 1]? = some (.cells ks 152 (0, 0)) := (hb'.block _ s2).trans n2
    have cl3 : w'.cell? ⟨w.heap.size + 1, 99, none⟩ = some (.pointer la) := (hb'.cell (p := ⟨w.heap.size + 1, 99, none⟩) s2).trans cl
    have fz3 := fz w' ⟨ks, n3⟩
    refine wpAnyH_take (i := 9) (oi := _) (v := ?_) rfl (by kernel_rfl) (by kernel_rfl) (by kernel_rfl) (fun _ _ _ h => h) (Or.inl ⟨by rfl, ?_⟩) (by assumption) ?_
    rotate_left
    · (intro w hSw; (try dsimp only at hSw); clear hSw; go_simp; (try with_reducible rfl))
    (try simp only [uA, uB, uC, uD, uE, uF, uG, uH])
    refine wpAnyH_take (i := 10) (oi := _) (v := ?_) rfl (by kernel_rfl) (by kernel_rfl) (by kernel_rfl) (fun _ _ _ h => h) (Or.inl ⟨by rfl, ?_⟩) (by assumption) ?_
    rotate_left
    · (intro w hSw; (try dsimp only at hSw); clear hSw; go_simp; (try with_reducible rfl))
    (try simp only [uA, uB, uC, uD, uE, uF, uG, uH])
    refine wpAnyH_ready (rs := [11]) (by kernel_rfl) (by decide) (AllReadyH.cons rfl (fun K' hK => ?_) AllReadyH.nil)
    rw [if_pos (by rfl)]
    go_simp
    refine hK.out _ _ (by exact ⟨q3.setCell (by simp) _, (Below.heap_setCell _ _ _ _ (by simp)).trans k3⟩) (fun hHeld => ?_)
    clear hK
    (try simp only [uA, uB, uC, uD, uE, uF, uG, uH])
    refine wpAnyH_done (by kernel_rfl) ?_ _
    have n4 : (w'.setCell ⟨w.heap.size + 1, 99, none⟩ (.pointer t'.adr)).heap[w.heap.size + 1]? = some (.cells (kn z32i z32i (.pointer t'.adr) (.pointer r.adr)).toArray 152 (0, 0)) := by
      rw [← KS.out] at n3
      have := set_list (i := 99) (v := .pointer t'.adr) n3
      rwa [kn_set_left _ _ _ _ _ rfl rfl] at this
    have q4 : Below w.heap.size w (w'.setCell ⟨w.heap.size + 1, 99, none⟩ (.pointer t'.adr)) := q3.setCell (by simp) _
    have fr : ∀ k, k ≠ w.heap.size + 1 → (w'.setCell ⟨w.heap.size + 1, 99, none⟩ (.pointer t'.adr)).heap[k]? = w'.heap[k]? := fun k hk => Below.heap_setCell _ _ _ _ hk
    have hll := fun k hk => AT.rep_lt HT.out.2.2.1 k hk
    have hrl := fun k hk => AT.rep_lt HT.out.2.2.2 k hk
    have nin : ∀ k ∈ t'.blocks, k ≠ w.heap.size + 1 := fun k hk => by
      rcases hbl' k hk with h | h
      · have := hll k h
        omega
      · have h2 : W2.heap.size ≤ k := h
        omega
    have ro : r.rep (w'.setCell ⟨w.heap.size + 1, 99, none⟩ (.pointer t'.adr)) := AT.rep_below HT.out.2.2.2 q4
    have rt : t'.rep (w'.setCell ⟨w.heap.size + 1, 99, none⟩ (.pointer t'.adr)) := AT.rep_frame hr' fun k hk => fr k (nin k hk)
    have HDD := HD.out
    have UE := UW.out
    rw [hb] at UE
    generalize w'.setCell ⟨w.heap.size + 1, 99, none⟩ (.pointer t'.adr) = W5 at *
    clear cl cl3 fz fz3 n2 n3 k2 k3 CALL fr hHeld
    go_wp2_with fail
    go_ret
    have hne : t'.adr.isSome = true := AT.adr_some (by rw [hu']; exact U.with_ne _ _ _ _)
    refine ⟨.node (w.heap.size + 1) t' r, rfl, ⟨Or.inl hne, n4, rt, ro⟩, by rw [UE, AT.un, hu']; rfl, q4, ?_, fun k hk => ?_⟩
    · rw [AT.blocks, List.nodup_cons]
      rw [AT.blocks, List.nodup_cons, List.nodup_append] at HDD
      refine ⟨fun hm => ?_, ?_⟩
      · rcases List.mem_append.1 hm with hm | hm
        · exact nin _ hm rfl
        · have := hrl _ hm; omega
      · rw [List.nodup_append]
        refine ⟨hnd', HDD.2.2.1, fun x hx y hy e => ?_⟩
        subst e
        rcases hbl' x hx with h | h
        · exact HDD.2.2.2 x h x hy rfl
        · have h2 : W2.heap.size ≤ x := h
          have := hrl x hy
          omega
    · rcases List.mem_cons.1 hk with rfl | hk
      · exact Or.inr (by omega)
      · rcases List.mem_append.1 hk with hm | hm
        · rcases hbl' k hm with h | h
          · exact Or.inl (List.mem_cons_of_mem _ (List.mem_append_left _ h))
          · have h2 : W2.heap.size ≤ k := h
            exact Or.inr (by omega)
        · exact Or.inl (List.mem_cons_of_mem _ (List.mem_append_right _ hm))
  · have CALL : Aside0 (∀ W : World, Below w.heap.size w W → Calls Tryz.prog 59 #[.pointer ra, .agg lf.toArray, .int .i64 ((i + 1 : Nat) : Int)] W fun e w' => WithPost p v n r W e w') := ⟨fun W hW => by
      rw [← PV.out, ← RA.out]
      have hpc' := U.good_step hpc
      rw [hb] at hpc'
      have hD := HD.out
      rw [AT.blocks, List.nodup_cons, List.nodup_append] at hD
      exact IH r _ (i + 1) W HIP.out hpc' HG.out.2.2.2 (AT.rep_below HT.out.2.2.2 hW) hD.2.2.1⟩
    have cl : W2.cell? ⟨w.heap.size + 1, 100, none⟩ = some (.pointer ra) := by
      rw [← KS.out, LA.out, RA.out] at n2
      exact cell_in n2 (kn_right _ _ _ _ rfl rfl)
    have fz : ∀ W : World, (∃ cs, W.heap[w.heap.size + 1]? = some (.cells cs 152 (0, 0))) → W.frozen? ⟨w.heap.size + 1, 100, none⟩ = false := fun W ⟨cs, h⟩ => frozen_in h
    go_upto_region 10 with fail
    refine wp_region_held_drew (S := (fun W => Below w.heap.size w W ∧ W.heap[w.heap.size]? = some (.cells lf.toArray 89 (0, 0)))) (by kernel_rfl) (by exact ⟨q2.drew, k2⟩) (fun hHeld => ?_)
    refine wpAnyH_take (i := 0) (oi := _) (v := ?_) rfl (by kernel_rfl) (by kernel_rfl) (by kernel_rfl) (fun _ _ _ h => h) (Or.inl ⟨by rfl, ?_⟩) (by assumption) ?_
    rotate_left
    · (intro w hSw; (try dsimp only at hSw); clear hSw; go_simp; (try with_reducible rfl))
    (try simp only [uA, uB, uC, uD, uE, uF, uG, uH])
    refine wpAnyH_take (i := 1) (oi := _) (v := ?_) rfl (by kernel_rfl) (by kernel_rfl) (by kernel_rfl) (fun _ _ _ h => h) (Or.inl ⟨by rfl, ?_⟩) (by assumption) ?_
    rotate_left
    · (intro w hSw; (try dsimp only at hSw); clear hSw; go_simp; (try with_reducible rfl))
    (try simp only [uA, uB, uC, uD, uE, uF, uG, uH])
    refine wpAnyH_take (i := 2) (oi := _) (v := ?_) rfl (by kernel_rfl) (by kernel_rfl) (by kernel_rfl) (fun _ _ _ h => h) (Or.inl ⟨by rfl, ?_⟩) (by assumption) ?_
    rotate_left
    · (intro w hSw; (try dsimp only at hSw); clear hSw; go_simp; (try with_reducible rfl))
    (try simp only [uA, uB, uC, uD, uE, uF, uG, uH])
    refine wpAnyH_take (i := 3) (oi := _) (v := ?_) rfl (by kernel_rfl) (by kernel_rfl) (by kernel_rfl) (fun _ _ _ h => h) (Or.inl ⟨by rfl, ?_⟩) (by assumption) ?_
    rotate_left
    · (intro w hSw; (try dsimp only at hSw); clear hSw; go_simp; (try with_reducible rfl))
    (try simp only [uA, uB, uC, uD, uE, uF, uG, uH])
    refine wpAnyH_take (i := 5) (oi := _) (v := _) rfl (by kernel_rfl) (by kernel_rfl) (by kernel_rfl) (fun _ _ _ h => h) (yieldsIf_load_mid (by rfl) 89 (.tmp 4) rfl w.heap.size 0 rfl _ _ (fun W hW => block_range hW.2) Tryz.underlying89 rfl hi89) (by assumption) ?_
    (try simp only [uA, uB, uC, uD, uE, uF, uG, uH])
    refine wpAnyH_take (i := 6) (oi := _) (v := ?_) rfl (by kernel_rfl) (by kernel_rfl) (by kernel_rfl) (fun _ _ _ h => h) (Or.inl ⟨by rfl, ?_⟩) (by assumption) ?_
    rotate_left
    · (intro w hSw; (try dsimp only at hSw); clear hSw; go_simp; (try with_reducible rfl))
    (try simp only [uA, uB, uC, uD, uE, uF, uG, uH])
    refine wpAnyH_take (i := 7) (oi := _) (v := ?_) rfl (by kernel_rfl) (by kernel_rfl) (by kernel_rfl) (fun _ _ _ h => h) (Or.inl ⟨by rfl, ?_⟩) (by assumption) ?_
    rotate_left
    · (intro w hSw; (try dsimp only at hSw); clear hSw; go_simp; (try with_reducible rfl))
    (try simp only [uA, uB, uC, uD, uE, uF, uG, uH])
    refine wpAnyH_ready (rs := [4]) (by kernel_rfl) (by decide) (AllReadyH.cons rfl (fun K' hK => ?_) AllReadyH.nil)
    rw [if_pos (by rfl)]
    go_simp
    refine hK.out _ _ (by exact ⟨q2.drew, k2⟩) (fun hHeld => ?_)
    clear hK
    (try simp only [uA, uB, uC, uD, uE, uF, uG, uH])
    refine wpAnyH_ready (rs := [8]) (by kernel_rfl) (by decide) (AllReadyH.cons rfl (fun K' hK => ?_) AllReadyH.nil)
    rw [if_pos (by rfl)]
    go_simp
    refine (CALL.out W2.drew q2.drew).mono ?_
    rintro e w' ⟨t', rfl, hr', hu', hb', hnd', hbl'⟩
    (try dsimp only)
    refine hK.out _ _ (by exact ⟨q2.drew.trans (hb'.mono q2.size), (hb'.block _ (Nat.lt_of_lt_of_le (Nat.lt_add_of_pos_right (by decide)) s2)).trans k2⟩) (fun hHeld => ?_)
    clear hK
    (try simp only [uA, uB, uC, uD, uE, uF, uG, uH])
    have q3 : Below w.heap.size w w' := q2.drew.trans (hb'.mono q2.size)
    have k3 : w'.heap[w.heap.size]? = some (.cells lf.toArray 89 (0, 0)) := (hb'.block _ (Nat.lt_of_lt_of_le (Nat.lt_add_of_pos_right (by decide)) s2)).trans k2
    have n3 : w'.heap[w.heap.size + 1]? = some (.cells ks 152 (0, 0)) := (hb'.block _ s2).trans n2
    have cl3 : w'.cell? ⟨w.heap.size + 1, 100, none⟩ = some (.pointer ra) := (hb'.cell (p := ⟨w.heap.size + 1, 100, none⟩) s2).trans cl
    have fz3 := fz w' ⟨ks, n3⟩
    refine wpAnyH_take (i := 9) (oi := _) (v := ?_) rfl (by kernel_rfl) (by kernel_rfl) (by kernel_rfl) (fun _ _ _ h => h) (Or.inl ⟨by rfl, ?_⟩) (by assumption) ?_
    rotate_left
    · (intro w hSw; (try dsimp only at hSw); clear hSw; go_simp; (try with_reducible rfl))
    (try simp only [uA, uB, uC, uD, uE, uF, uG, uH])
    refine wpAnyH_take (i := 10) (oi := _) (v := ?_) rfl (by kernel_rfl) (by kernel_rfl) (by kernel_rfl) (fun _ _ _ h => h) (Or.inl ⟨by rfl, ?_⟩) (by assumption) ?_
    rotate_left
    · (intro w hSw; (try dsimp only at hSw); clear hSw; go_simp; (try with_reducible rfl))
    (try simp only [uA, uB, uC, uD, uE, uF, uG, uH])
    refine wpAnyH_ready (rs := [11]) (by kernel_rfl) (by decide) (AllReadyH.cons rfl (fun K' hK => ?_) AllReadyH.nil)
    rw [if_pos (by rfl)]
    go_simp
    refine hK.out _ _ (by exact ⟨q3.setCell (by simp) _, (Below.heap_setCell _ _ _ _ (by simp)).trans k3⟩) (fun hHeld => ?_)
    clear hK
    (try simp only [uA, uB, uC, uD, uE, uF, uG, uH])
    refine wpAnyH_done (by kernel_rfl) ?_ _
    have n4 : (w'.setCell ⟨w.heap.size + 1, 100, none⟩ (.pointer t'.adr)).heap[w.heap.size + 1]? = some (.cells (kn z32i z32i (.pointer l.adr) (.pointer t'.adr)).toArray 152 (0, 0)) := by
      rw [← KS.out] at n3
      have := set_list (i := 100) (v := .pointer t'.adr) n3
      rwa [kn_set_right _ _ _ _ _ rfl rfl] at this
    have q4 : Below w.heap.size w (w'.setCell ⟨w.heap.size + 1, 100, none⟩ (.pointer t'.adr)) := q3.setCell (by simp) _
    have fr : ∀ k, k ≠ w.heap.size + 1 → (w'.setCell ⟨w.heap.size + 1, 100, none⟩ (.pointer t'.adr)).heap[k]? = w'.heap[k]? := fun k hk => Below.heap_setCell _ _ _ _ hk
    have hll := fun k hk => AT.rep_lt HT.out.2.2.1 k hk
    have hrl := fun k hk => AT.rep_lt HT.out.2.2.2 k hk
    have nin : ∀ k ∈ t'.blocks, k ≠ w.heap.size + 1 := fun k hk => by
      rcases hbl' k hk with h | h
      · have := hrl k h
        omega
      · have h2 : W2.heap.size ≤ k := h
        omega
    have ro : l.rep (w'.setCell ⟨w.heap.size + 1, 100, none⟩ (.pointer t'.adr)) := AT.rep_below HT.out.2.2.1 q4
    have rt : t'.rep (w'.setCell ⟨w.heap.size + 1, 100, none⟩ (.pointer t'.adr)) := AT.rep_frame hr' fun k hk => fr k (nin k hk)
    have HDD := HD.out
    have UE := UW.out
    rw [hb] at UE
    generalize w'.setCell ⟨w.heap.size + 1, 100, none⟩ (.pointer t'.adr) = W5 at *
    clear cl cl3 fz fz3 n2 n3 k2 k3 CALL fr hHeld
    go_wp2_with fail
    go_ret
    have hne : t'.adr.isSome = true := AT.adr_some (by rw [hu']; exact U.with_ne _ _ _ _)
    refine ⟨.node (w.heap.size + 1) l t', rfl, ⟨Or.inr hne, n4, ro, rt⟩, by rw [UE, AT.un, hu']; rfl, q4, ?_, fun k hk => ?_⟩
    · rw [AT.blocks, List.nodup_cons]
      rw [AT.blocks, List.nodup_cons, List.nodup_append] at HDD
      refine ⟨fun hm => ?_, ?_⟩
      · rcases List.mem_append.1 hm with hm | hm
        · have := hll _ hm; omega
        · exact nin _ hm rfl
      · rw [List.nodup_append]
        refine ⟨HDD.2.1, hnd', fun x hx y hy e => ?_⟩
        subst e
        rcases hbl' x hy with h | h
        · exact HDD.2.2.2 x hx x h rfl
        · have h2 : W2.heap.size ≤ x := h
          have := hll x hx
          omega
    · rcases List.mem_cons.1 hk with rfl | hk
      · exact Or.inr (by omega)
      · rcases List.mem_append.1 hk with hm | hm
        · exact Or.inl (List.mem_cons_of_mem _ (List.mem_append_left _ hm))
        · rcases hbl' k hm with h | h
          · exact Or.inl (List.mem_cons_of_mem _ (List.mem_append_right _ h))
          · have h2 : W2.heap.size ≤ k := h
            exact Or.inr (by omega)
end Go.Proofs.YtadkeohohehmcaaGreatDoor.Top
end
section
/- A leaf comes into a tree: two leaves part. -/
namespace Go.Proofs.YtadkeohohehmcaaGreatDoor.Top
open Go.RowKit Go.Proofs.YtadkeohohehmcaaGreatDoorW.PrintWords Go.Proofs.YtadkeohohehmcaaGreatDoorW.PrintLast Go.Proofs.YtadkeohohehmcaaGreatDoorW.PrintMore Go.Proofs.YtadkeohohehmcaaGreatDoor.PTop
set_option linter.unusedVariables false
set_option linter.unusedSimpArgs false
attribute [local go_sem] Oper.semAt_some

def z89 : List Value := (List.replicate 64 0).map (Value.int .u8)
theorem zero89 : (Tryz.prog.info? 89).map (·.zero) = some (some (.agg z89.toArray)) := by kernel_rfl
set_option maxRecDepth 100000 in
theorem kn_set1 (x : Value) : Tryz.zeroCells152.setIfInBounds 99 x = (kn z32i z32i x (.pointer none)).toArray := by kernel_rfl

/-- The new node's two children. -/
structure Kids (p v q u : List Int) (n i : Nat) (c : Nat → Bool) (kb : Nat) (w W : World) (l r : AT) (la ra : Option Addr) : Prop where
  la : l.adr = la
  ra : r.adr = ra
  rl : l.rep W
  rr : r.rep W
  nd : (l.blocks ++ r.blocks).Nodup
  lb : ∀ k ∈ l.blocks, w.heap.size ≤ k
  rb : ∀ k ∈ r.blocks, w.heap.size ≤ k
  gl : U.good (updC c i false) (i + 1) l.un
  gr : U.good (updC c i true) (i + 1) r.un
  ue : U.with p v (n + 1) (AT.leaf kb q u).un = if bitB p i then .node l.un (U.with p v n r.un) else .node (U.with p v n l.un) r.un

set_option maxHeartbeats 4000000 in
set_option maxRecDepth 100000 in
theorem with_split (p v q u : List Int) (hp : PathOk p) (hv : v.length = 32) (hq : PathOk q) (hne : q ≠ p) (n : Nat) (IH : WithH p v n) (kb : Nat) (c : Nat → Bool) (w : World) (hn : n < 256) (hpc : ∀ j, j < 255 - n → bitB p j = c j) (hqc : ∀ j, j < 255 - n → bitB q j = c j) (ht : (AT.leaf kb q u).rep w) :
    Calls Tryz.prog 59 #[.pointer (some ⟨kb, 0, none⟩), dv (p ++ v), .int .i64 ((255 - n : Nat) : Int)] w fun e w' => WithPost p v (n + 1) (.leaf kb q u) w e w' := by
  have hu := ht.2.1
  have hi89 : (Tryz.prog.info? 89).map (·.size) = some ((p ++ v).map (Value.int .u8)).length := by rw [List.length_map, List.length_append, hp.len, hv]; kernel_rfl
  have hi89a := info89 (p ++ v) (by rw [List.length_append, hp.len, hv])
  have hi89q : (Tryz.prog.info? 89).map (·.size) = some ((q ++ u).map (Value.int .u8)).length := by rw [List.length_map, List.length_append, hq.len, hu]; kernel_rfl
  have hi89qa := info89 (q ++ u) (by rw [List.length_append, hq.len, hu])
  have hz89 : z89.toArray.size = ((q ++ u).map (Value.int .u8)).toArray.size := by rw [List.size_toArray, List.size_toArray, List.length_map, List.length_append, hq.len, hu]; rfl
  have h1p := dig_one (p ++ v)
  have h1q := dig_one (q ++ u)
  have hip := info31l p hp.len
  have hiq := info31l q hq.len
  have HIP : Aside0 (255 - n + 1 + n = 256) := ⟨by omega⟩
  have HIB : Aside0 (255 - n < 256) := ⟨by omega⟩
  have hi1 : IntKind.i64.wrap (((255 - n : Nat) : Int) + 1) = ((255 - n + 1 : Nat) : Int) := (i64_w _).trans (by unfold wrap64; omega)
  have UW : Aside0 (U.with p v (n + 1) (AT.leaf kb q u).un = if bitB q (255 - n) then (if bitB p (255 - n) then .node .nil (U.with p v n (.leaf q u)) else .node (U.with p v n .nil) (.leaf q u)) else (if bitB p (255 - n) then .node (.leaf q u) (U.with p v n .nil) else .node (U.with p v n (.leaf q u)) .nil)) := ⟨by rw [AT.un, U.with, if_neg hne]⟩
  generalize 255 - n = i at *
  have hkb : kb < w.heap.size := (Array.getElem?_eq_some_iff.1 ht.2.2).1
  have EQ := run_eq_dv q p hq hp
  have EG := fun x y a b w => run_guard_dv .eql (Or.inl rfl) x y a b w
  rw [decide_eq_false hne] at EQ
  have PV : Aside0 (dv (p ++ v) = .agg ((p ++ v).map (Value.int .u8)).toArray) := ⟨rfl⟩
  rw [PV.out]
  have RP : Aside0 (∀ W : World, W.heap[w.heap.size]? = some (.cells ((p ++ v).map (Value.int .u8)).toArray 89 (0, 0)) → W.rangeAt w.heap.size 0 (p.map (Value.int .u8))) := ⟨fun W h => pair_cells h 0 p fun i u hi => by rw [Nat.zero_add, List.getElem?_append_left (List.getElem?_eq_some_iff.1 hi).1]; exact hi⟩
  have RQ7 : Aside0 (∀ (W : World) (b : Nat), W.heap[b]? = some (.cells ((q ++ u).map (Value.int .u8)).toArray 89 (0, 0)) → W.rangeAt b 0 (q.map (Value.int .u8))) := ⟨fun W b h => pair_cells h 0 q fun i u hi => by rw [Nat.zero_add, List.getElem?_append_left (List.getElem?_eq_some_iff.1 hi).1]; exact hi⟩
  have k0 := blk_new w (.cells ((p ++ v).map (Value.int .u8)).toArray 89)
  have b0 : Below w.heap.size w (w.alloc (.cells ((p ++ v).map (Value.int .u8)).toArray 89)) := (Below.refl _ w).alloc (Nat.le_refl _) _
  have s0 : (w.alloc (.cells ((p ++ v).map (Value.int .u8)).toArray 89)).heap.size = w.heap.size + 1 := by simp
  have t0 : (w.alloc (.cells ((p ++ v).map (Value.int .u8)).toArray 89)).drew.heap[kb]? = some (.cells (kn q u (.pointer none) (.pointer none)).toArray 152 (0, 0)) := (b0.drew.block kb hkb).trans ht.2.2
  have RL := RP.out (w.alloc (.cells ((p ++ v).map (Value.int .u8)).toArray 89)).drew k0
  generalize (p ++ v).map (Value.int .u8) = lf at *
  have IN : Aside0 (Calls Tryz.prog 77 #[.pointer (some ⟨kb, 0, none⟩)] (w.alloc (.cells lf.toArray 89)).drew fun e w' => e = .returned (.bool false) ∧ w' = (w.alloc (.cells lf.toArray 89)).drew) := ⟨inner_c (.leaf kb q u) (w.alloc (.cells lf.toArray 89)).drew ⟨ht.1, ht.2.1, t0⟩⟩
  have IN2 := IN
  have RQ : (w.alloc (.cells lf.toArray 89)).drew.rangeAt kb 35 (q.map (Value.int .u8)) := kn_range t0 0 q fun i u hi => by rw [Nat.zero_add, List.getElem?_append_left (List.getElem?_eq_some_iff.1 hi).1]; exact hi
  have RQU : (w.alloc (.cells lf.toArray 89)).drew.rangeAt kb 35 ((q ++ u).map (Value.int .u8)) := kn_range t0 0 (q ++ u) fun i u hi => by rw [Nat.zero_add]; exact hi
  have BL := Aside0.mk (built_leaf q u hq.len hu)
  have KR : Aside0 (∀ (W : World) (b : Nat), W.heap[b]? = some (.cells (kn q u (.pointer none) (.pointer none)).toArray 152 (0, 0)) → (AT.leaf b q u).rep W) := ⟨fun W b h => ⟨hq.len, hu, h⟩⟩
  have hi152 : (Tryz.prog.info? 152).map (·.size) = some (kn q u (.pointer none) (.pointer none)).toArray.size := by rw [List.size_toArray, kn_len _ _ _ _ hq.len hu]; kernel_rfl
  generalize (q ++ u).map (Value.int .u8) = lq at *
  clear t0 ht
  generalize (kn q u (.pointer none) (.pointer none)).toArray = kq at *
  go_enter Tryz.func59, Tryz.ntmps59
  go_upto_region 1 with fail
  refine wp_region_held_drew (S := (fun W => W = (w.alloc (.cells lf.toArray 89)).drew)) (by kernel_rfl) (by rfl) (fun hHeld => ?_)
  refine wpAnyH_take (i := 0) (oi := _) (v := ?_) rfl (by kernel_rfl) (by kernel_rfl) (by kernel_rfl) (fun _ _ _ h => h) (Or.inl ⟨by rfl, ?_⟩) (by assumption) ?_
  rotate_left
  · (intro w hSw; (try dsimp only at hSw); subst hSw; go_simp; (try with_reducible rfl))
  (try simp only [uA, uB, uC, uD, uE, uF, uG, uH])
  refine wpAnyH_take (i := 1) (oi := _) (v := .bool false) rfl (by kernel_rfl) (by kernel_rfl) (by kernel_rfl) (fun _ _ _ h => h) (Or.inl ⟨by rfl, ?_⟩) (by assumption) ?_
  rotate_left 0
  · (intro w hSw; (try dsimp only at hSw); subst hSw; go_simp; (try with_reducible rfl))
  (try simp only [uA, uB, uC, uD, uE, uF, uG, uH])
  refine wpAnyH_take (i := 2) (oi := _) (v := .bool false) rfl (by kernel_rfl) (by kernel_rfl) (by kernel_rfl) (fun _ _ _ h => h) (Or.inl ⟨by rfl, ?_⟩) (by assumption) ?_
  rotate_left 0
  · (intro w hSw; (try dsimp only at hSw); subst hSw; go_simp; (try with_reducible rfl))
  (try simp only [uA, uB, uC, uD, uE, uF, uG, uH])
  refine wpAnyH_take (i := 3) (oi := _) (v := ?_) rfl (by kernel_rfl) (by kernel_rfl) (by kernel_rfl) (fun _ _ _ h => h) (Or.inl ⟨by rfl, ?_⟩) (by assumption) ?_
  rotate_left
  · (intro w hSw; (try dsimp only at hSw); subst hSw; go_simp; (try with_reducible rfl))
  (try simp only [uA, uB, uC, uD, uE, uF, uG, uH])
  refine wpAnyH_ready (rs := [4]) (by kernel_rfl) (by decide) (AllReadyH.cons rfl (fun K' hK => ?_) AllReadyH.nil)
  rw [if_pos (by rfl)]
  go_simp
  refine (IN.out).mono ?_
  rintro e w' ⟨rfl, rfl⟩
  (try dsimp only)
  refine hK.out _ _ (by rfl) (fun hHeld => ?_)
  clear hK
  (try simp only [uA, uB, uC, uD, uE, uF, uG, uH])
  refine wpAnyH_take (i := 5) (oi := _) (v := .bool true) rfl (by kernel_rfl) (by kernel_rfl) (by kernel_rfl) (fun _ _ _ h => h) (Or.inl ⟨by rfl, ?_⟩) (by assumption) ?_
  rotate_left 0
  · (intro w hSw; (try dsimp only at hSw); subst hSw; go_simp; (try with_reducible rfl))
  (try simp only [uA, uB, uC, uD, uE, uF, uG, uH])
  refine wpAnyH_take (i := 6) (oi := _) (v := .bool true) rfl (by kernel_rfl) (by kernel_rfl) (by kernel_rfl) (fun _ _ _ h => h) (Or.inl ⟨by rfl, ?_⟩) (by assumption) ?_
  rotate_left 0
  · (intro w hSw; (try dsimp only at hSw); subst hSw; go_simp; (try with_reducible rfl))
  (try simp only [uA, uB, uC, uD, uE, uF, uG, uH])
  refine wpAnyH_take (i := 7) (oi := _) (v := ?_) rfl (by kernel_rfl) (by kernel_rfl) (by kernel_rfl) (fun _ _ _ h => h) (Or.inl ⟨by rfl, ?_⟩) (by assumption) ?_
  rotate_left
  · (intro w hSw; (try dsimp only at hSw); subst hSw; go_simp; (try with_reducible rfl))
  (try simp only [uA, uB, uC, uD, uE, uF, uG, uH])
  refine wpAnyH_take (i := 8) (oi := _) (v := ?_) rfl (by kernel_rfl) (by kernel_rfl) (by kernel_rfl) (fun _ _ _ h => h) (Or.inl ⟨by rfl, ?_⟩) (by assumption) ?_
  rotate_left
  · (intro w hSw; (try dsimp only at hSw); subst hSw; go_simp; (try with_reducible rfl))
  (try simp only [uA, uB, uC, uD, uE, uF, uG, uH])
  refine wpAnyH_take (i := 9) (oi := _) (v := ?_) rfl (by kernel_rfl) (by kernel_rfl) (by kernel_rfl) (fun _ _ _ h => h) (Or.inl ⟨by rfl, ?_⟩) (by assumption) ?_
  rotate_left
  · (intro w hSw; (try dsimp only at hSw); subst hSw; go_simp; (try with_reducible rfl))
  (try simp only [uA, uB, uC, uD, uE, uF, uG, uH])
  refine wpAnyH_take (i := 10) (oi := _) (v := ?_) rfl (by kernel_rfl) (by kernel_rfl) (by kernel_rfl) (fun _ _ _ h => h) (Or.inl ⟨by rfl, ?_⟩) (by assumption) ?_
  rotate_left
  · (intro w hSw; (try dsimp only at hSw); subst hSw; go_simp; (try with_reducible rfl))
  (try simp only [uA, uB, uC, uD, uE, uF, uG, uH])
  refine wpAnyH_take (i := 11) (oi := _) (v := _) rfl (by kernel_rfl) (by kernel_rfl) (by kernel_rfl) (fun _ _ _ h => h) (yieldsIf_load_mid (by rfl) 31 (.tmp 20) rfl kb 35 rfl _ _ (fun W hW => by rw [hW]; exact RQ) Tryz.underlying31 rfl hiq) (by assumption) ?_
  (try simp only [uA, uB, uC, uD, uE, uF, uG, uH])
  refine wpAnyH_take (i := 12) (oi := _) (v := ?_) rfl (by kernel_rfl) (by kernel_rfl) (by kernel_rfl) (fun _ _ _ h => h) (Or.inl ⟨by rfl, ?_⟩) (by assumption) ?_
  rotate_left
  · (intro w hSw; (try dsimp only at hSw); subst hSw; go_simp; (try with_reducible rfl))
  (try simp only [uA, uB, uC, uD, uE, uF, uG, uH])
  refine wpAnyH_take (i := 13) (oi := _) (v := _) rfl (by kernel_rfl) (by kernel_rfl) (by kernel_rfl) (fun _ _ _ h => h) (yieldsIf_load_mid (by rfl) 31 (.tmp 22) rfl w.heap.size 0 rfl _ _ (fun W hW => by rw [hW]; exact RL) Tryz.underlying31 rfl hip) (by assumption) ?_
  (try simp only [uA, uB, uC, uD, uE, uF, uG, uH])
  refine wpAnyH_take (i := 14) (oi := _) (v := .bool false) rfl (by kernel_rfl) (by kernel_rfl) (by kernel_rfl) (fun _ _ _ h => h) (Or.inl ⟨by rfl, ?_⟩) (by assumption) ?_
  rotate_left 0
  · (intro w hSw; (try dsimp only at hSw); subst hSw; go_simp; (try with_reducible rfl))
  (try simp only [uA, uB, uC, uD, uE, uF, uG, uH])
  refine wpAnyH_take (i := 15) (oi := _) (v := .bool false) rfl (by kernel_rfl) (by kernel_rfl) (by kernel_rfl) (fun _ _ _ h => h) (Or.inl ⟨by rfl, ?_⟩) (by assumption) ?_
  rotate_left 0
  · (intro w hSw; (try dsimp only at hSw); subst hSw; go_simp; (try with_reducible rfl))
  (try simp only [uA, uB, uC, uD, uE, uF, uG, uH])
  refine wpAnyH_take (i := 16) (oi := _) (v := .bool false) rfl (by kernel_rfl) (by kernel_rfl) (by kernel_rfl) (fun _ _ _ h => h) (Or.inl ⟨by rfl, ?_⟩) (by assumption) ?_
  rotate_left 0
  · (intro w hSw; (try dsimp only at hSw); subst hSw; go_simp; (try with_reducible rfl))
  (try simp only [uA, uB, uC, uD, uE, uF, uG, uH])
  refine wpAnyH_take (i := 17) (oi := _) (v := .bool false) rfl (by kernel_rfl) (by kernel_rfl) (by kernel_rfl) (fun _ _ _ h => h) (Or.inl ⟨by rfl, ?_⟩) (by assumption) ?_
  rotate_left 0
  · (intro w hSw; (try dsimp only at hSw); subst hSw; go_simp; (try with_reducible rfl))
  (try simp only [uA, uB, uC, uD, uE, uF, uG, uH])
  refine wpAnyH_done (by kernel_rfl) ?_ _
  clear IN hHeld RQ RL EQ EG
  go_upto_region 4 with (go_at_call 77; refine IN2.out.mono ?_; rintro e w' ⟨rfl, rfl⟩)
  obtain ⟨W0, hW0⟩ : ∃ W0, (w.alloc (.cells lf.toArray 89)).drew = W0 := ⟨_, rfl⟩
  have q0 : Below w.heap.size w W0 := by rw [← hW0]; exact b0.drew
  have z0 : W0.heap.size = w.heap.size + 1 := by rw [← hW0]; exact s0
  have f0 : W0.heap[w.heap.size]? = some (.cells lf.toArray 89 (0, 0)) := by rw [← hW0]; exact k0
  rw [hW0] at RQU ⊢
  have Z0 := Aside0.mk z0
  clear hW0 b0 s0 k0 IN2 z0
  go_upto_region 5 with (first | (refine wpList_load_mid rfl 89 (.tmp 36) rfl kb 35 rfl _ _ RQU Tryz.underlying89 rfl hi89q ?_) | (refine wpList_allocW rfl 89 rfl z89.toArray zero89 ?_; intro W3 b3 s3 k3) | (refine wpList_store_row rfl 89 (.tmp 7) (.tmp 37) rfl W0.heap.size _ rfl rfl 89 _ k3 hi89qa hz89 h1q ?_))
  have z0 := Z0.out
  rw [z0] at k3 s3 ⊢
  have f3 := (b3.block w.heap.size (by omega)).trans f0
  have q3 : Below w.heap.size w W3 := q0.trans (b3.mono (by omega))
  have k4 := setRow_heap W3 (w.heap.size + 1) _ lq.toArray 89 (0, 0) k3
  have f4 := (setRow_other W3 (w.heap.size + 1) w.heap.size lq.toArray (by omega)).trans f3
  have q4 := below_setRow q3 (w.heap.size + 1) (by omega) lq.toArray
  have z4 : (W3.setRow (w.heap.size + 1) lq.toArray).heap.size = w.heap.size + 2 := by rw [size_setRow]; omega
  generalize W3.setRow (w.heap.size + 1) lq.toArray = W4 at *
  clear b3 k3 s3 f3 q3 RQU f0 q0 z0 Z0
  go_upto_region 6 with (first | (refine wpList_load_row rfl 89 (.tmp 7) rfl (w.heap.size + 1) rfl 89 _ (0, 0) _ k4 Tryz.underlying89 rfl hi89qa ?_) | (refine wpList_build2 rfl 152 _ rfl [(1, .agg lq.toArray)] (by simp only [List.map_toArray, List.map_cons, List.map_nil, List.toList_toArray]; rfl) _ BL.out ?_))
  have z5 : ((W4.alloc (.cells kq 152)).alloc (.cells (Tryz.zeroCells152.setIfInBounds 99 (.pointer (some ⟨w.heap.size + 2, 0, none⟩))) 152)).heap.size = w.heap.size + 4 := by simp; omega
  have q5 : Below w.heap.size w ((W4.alloc (.cells kq 152)).alloc (.cells (Tryz.zeroCells152.setIfInBounds 99 (.pointer (some ⟨w.heap.size + 2, 0, none⟩))) 152)) := (q4.alloc (by omega) _).alloc (by simp; omega) _
  have f5 := blk_alloc (blk_alloc f4 (.cells kq 152)) (.cells (Tryz.zeroCells152.setIfInBounds 99 (.pointer (some ⟨w.heap.size + 2, 0, none⟩))) 152)
  have k5 := blk_alloc (blk_alloc k4 (.cells kq 152)) (.cells (Tryz.zeroCells152.setIfInBounds 99 (.pointer (some ⟨w.heap.size + 2, 0, none⟩))) 152)
  have m5 := blk_alloc (blk_new W4 (.cells kq 152)) (.cells (Tryz.zeroCells152.setIfInBounds 99 (.pointer (some ⟨w.heap.size + 2, 0, none⟩))) 152)
  have n5 := blk_new (W4.alloc (.cells kq 152)) (.cells (Tryz.zeroCells152.setIfInBounds 99 (.pointer (some ⟨w.heap.size + 2, 0, none⟩))) 152)
  rw [show (W4.alloc (.cells kq 152)).heap.size = w.heap.size + 3 by simp; omega, kn_set1] at n5
  rw [z4] at m5
  rw [kn_set1] at z5 q5 f5 k5 m5 ⊢
  rw [show w.heap.size + 2 + 1 = w.heap.size + 3 from rfl]
  generalize (W4.alloc (.cells kq 152)).alloc (.cells (kn z32i z32i (.pointer (some ⟨w.heap.size + 2, 0, none⟩)) (.pointer none)).toArray 152) = W5 at *
  clear f4 k4 q4 z4 W4
  have RQ5 := RQ7.out W5 _ k5
  go_wp2_with (refine wpList_load_mid rfl 31 (.tmp 43) rfl (w.heap.size + 1) 0 rfl _ _ RQ5 Tryz.underlying31 rfl hiq ?_)
  refine (right_c q hq.len i W5).mono ?_
  rintro e W6 ⟨rfl, b6⟩
  have q6 : Below w.heap.size w W6 := q5.trans (b6.mono (by omega))
  have f6 := (b6.block _ (by omega)).trans f5
  have m6 := (b6.block _ (by omega)).trans m5
  have n6 := (b6.block _ (by omega)).trans n5
  have z6 : w.heap.size + 4 ≤ W6.heap.size := by have := b6.size; omega
  clear b6 f5 k5 m5 n5 RQ5 q5 z5 W5
  have LR6 := KR.out W6 _ m6
  have c6 : W6.cell? ⟨w.heap.size + 3, 99, none⟩ = some (.pointer (some ⟨w.heap.size + 2, 0, none⟩)) := cell_in n6 (kn_left _ _ _ _ rfl rfl)
  have c6' : W6.cell? ⟨w.heap.size + 3, 100, none⟩ = some (.pointer none) := cell_in n6 (kn_right _ _ _ _ rfl rfl)
  have g6 : W6.frozen? ⟨w.heap.size + 3, 99, none⟩ = false := frozen_in n6
  have g6' : W6.frozen? ⟨w.heap.size + 3, 100, none⟩ = false := frozen_in n6
  have hqs := U.good_step hqc
  have hbk : ∀ k ∈ (AT.leaf (w.heap.size + 2) q u).blocks, w.heap.size ≤ k := fun k hk => by
    obtain rfl := List.mem_singleton.1 hk
    omega
  have hnk : ∀ k ∈ AT.nil.blocks, w.heap.size ≤ k := fun k hk => nomatch hk
  cases hbq : bitB q i
  · rw [hbq] at hqs
    go_upto_region 8 with fail
    obtain ⟨WS, hWS⟩ : ∃ WS, W6 = WS := ⟨_, rfl⟩
    obtain ⟨la, hla⟩ : ∃ la : Option Addr, some ⟨w.heap.size + 2, 0, none⟩ = la := ⟨_, rfl⟩
    obtain ⟨ra, hra⟩ : ∃ ra : Option Addr, none = ra := ⟨_, rfl⟩
    have cS : WS.cell? ⟨w.heap.size + 3, 99, none⟩ = some (.pointer la) := by rw [← hWS, ← hla]; exact c6
    have cS' : WS.cell? ⟨w.heap.size + 3, 100, none⟩ = some (.pointer ra) := by rw [← hWS, ← hra]; exact c6'
    have KD : ∃ l r : AT, Aside0 (Kids p v q u n i c kb w WS l r la ra) := ⟨.leaf (w.heap.size + 2) q u, .nil, ⟨⟨hla, hra, by rw [← hWS]; exact LR6, trivial, by simp [AT.blocks], hbk, hnk, ⟨hq, hu, hqs⟩, trivial, by rw [UW.out, hbq]; rfl⟩⟩⟩
    rw [hWS] at q6 f6 z6 ⊢
    clear hla hra hWS c6 c6' g6 g6' LR6 m6 n6 W6
    obtain ⟨l, r, KD⟩ := KD
    have HB := kn_set (.pointer la) (.pointer ra)
    obtain ⟨ks, hks⟩ : ∃ ks, (kn z32i z32i (.pointer la) (.pointer ra)).toArray = ks := ⟨_, rfl⟩
    have KS := Aside0.mk hks
    have hi152k : (Tryz.prog.info? 152).map (·.size) = some ks.size := by rw [← hks, List.size_toArray, kn_len _ _ _ _ rfl rfl]; kernel_rfl
    rw [hks] at HB
    clear hks hi152
    refine wp_region_held_drew (S := (fun W => W.cell? ⟨w.heap.size + 3, 99, none⟩ = some (.pointer la) ∧ W.cell? ⟨w.heap.size + 3, 100, none⟩ = some (.pointer ra))) (by kernel_rfl) (by exact ⟨cS, cS'⟩) (fun hHeld => ?_)
    refine wpAnyH_take (i := 0) (oi := _) (v := ?_) rfl (by kernel_rfl) (by kernel_rfl) (by kernel_rfl) (fun _ _ _ h => h) (Or.inl ⟨by rfl, ?_⟩) (by assumption) ?_
    rotate_left
    · (intro w hSw; (try dsimp only at hSw); have c1 := hSw.1; have c2 := hSw.2; clear hSw; go_simp; (try with_reducible rfl))
    (try simp only [uA, uB, uC, uD, uE, uF, uG, uH])
    refine wpAnyH_take (i := 1) (oi := _) (v := ?_) rfl (by kernel_rfl) (by kernel_rfl) (by kernel_rfl) (fun _ _ _ h => h) (Or.inl ⟨by rfl, ?_⟩) (by assumption) ?_
    rotate_left
    · (intro w hSw; (try dsimp only at hSw); have c1 := hSw.1; have c2 := hSw.2; clear hSw; go_simp; (try with_reducible rfl))
    (try simp only [uA, uB, uC, uD, uE, uF, uG, uH])
    refine wpAnyH_take (i := 2) (oi := _) (v := ?_) rfl (by kernel_rfl) (by kernel_rfl) (by kernel_rfl) (fun _ _ _ h => h) (Or.inl ⟨by rfl, ?_⟩) (by assumption) ?_
    rotate_left
    · (intro w hSw; (try dsimp only at hSw); have c1 := hSw.1; have c2 := hSw.2; clear hSw; go_simp; (try with_reducible rfl))
    (try simp only [uA, uB, uC, uD, uE, uF, uG, uH])
    refine wpAnyH_take (i := 3) (oi := _) (v := ?_) rfl (by kernel_rfl) (by kernel_rfl) (by kernel_rfl) (fun _ _ _ h => h) (Or.inl ⟨by rfl, ?_⟩) (by assumption) ?_
    rotate_left
    · (intro w hSw; (try dsimp only at hSw); have c1 := hSw.1; have c2 := hSw.2; clear hSw; go_simp; (try with_reducible rfl))
    (try simp only [uA, uB, uC, uD, uE, uF, uG, uH])
    refine wpAnyH_take (i := 4) (oi := _) (v := ?_) rfl (by kernel_rfl) (by kernel_rfl) (by kernel_rfl) (fun _ _ _ h => h) (Or.inl ⟨by rfl, ?_⟩) (by assumption) ?_
    rotate_left
    · (intro w hSw; (try dsimp only at hSw); have c1 := hSw.1; have c2 := hSw.2; clear hSw; go_simp; (try with_reducible rfl))
    (try simp only [uA, uB, uC, uD, uE, uF, uG, uH])
    refine wpAnyH_take (i := 5) (oi := _) (v := ?_) rfl (by kernel_rfl) (by kernel_rfl) (by kernel_rfl) (fun _ _ _ h => h) (Or.inl ⟨by rfl, ?_⟩) (by assumption) ?_
    rotate_left
    · (intro w hSw; (try dsimp only at hSw); have c1 := hSw.1; have c2 := hSw.2; clear hSw; go_simp; (try with_reducible rfl))
    (try simp only [uA, uB, uC, uD, uE, uF, uG, uH])
    refine wpAnyH_take (i := 6) (oi := _) (v := ?_) rfl (by kernel_rfl) (by kernel_rfl) (by kernel_rfl) (fun _ _ _ h => h) (Or.inl ⟨by rfl, ?_⟩) (by assumption) ?_
    rotate_left
    · (intro w hSw; (try dsimp only at hSw); have c1 := hSw.1; have c2 := hSw.2; clear hSw; go_simp; (try with_reducible rfl))
    (try simp only [uA, uB, uC, uD, uE, uF, uG, uH])
    refine wpAnyH_take (i := 7) (oi := _) (v := ?_) rfl (by kernel_rfl) (by kernel_rfl) (by kernel_rfl) (fun _ _ _ h => h) (Or.inl ⟨by rfl, ?_⟩) (by assumption) ?_
    rotate_left
    · (intro w hSw; (try dsimp only at hSw); have c1 := hSw.1; have c2 := hSw.2; clear hSw; go_simp; (try with_reducible rfl))
    (try simp only [uA, uB, uC, uD, uE, uF, uG, uH])
    refine wpAnyH_take (i := 8) (oi := _) (v := .agg ks) rfl (by kernel_rfl) (by kernel_rfl) (by kernel_rfl) (fun _ _ _ h => h) (Or.inl ⟨by rfl, ?_⟩) (by assumption) ?_
    rotate_left 0
    · (intro w hSw; (try dsimp only at hSw); have c1 := hSw.1; have c2 := hSw.2; clear hSw; go_simp; (try with_reducible rfl))
    (try simp only [uA, uB, uC, uD, uE, uF, uG, uH])
    refine wpAnyH_ready (rs := [9]) (by kernel_rfl) (by decide) (AllReadyH.cons rfl (fun K' hK => ?_) AllReadyH.nil)
    rw [if_pos (by rfl)]
    go_simp
    refine hK.out _ _ (by exact ⟨(World.cell?_alloc_past _ _ _ (by first | omega | (simp; omega))).trans cS, (World.cell?_alloc_past _ _ _ (by first | omega | (simp; omega))).trans cS'⟩) (fun hHeld => ?_)
    clear hK
    (try simp only [uA, uB, uC, uD, uE, uF, uG, uH])
    refine wpAnyH_take (i := 10) (oi := _) (v := ?_) rfl (by kernel_rfl) (by kernel_rfl) (by kernel_rfl) (fun _ _ _ h => h) (Or.inl ⟨by rfl, ?_⟩) (by assumption) ?_
    rotate_left
    · (intro w hSw; (try dsimp only at hSw); have c1 := hSw.1; have c2 := hSw.2; clear hSw; go_simp; (try with_reducible rfl))
    (try simp only [uA, uB, uC, uD, uE, uF, uG, uH])
    refine wpAnyH_done (by kernel_rfl) ?_ _
    obtain ⟨W1, hW1⟩ : ∃ W1, (WS.alloc (.cells ks 152)).drew = W1 := ⟨_, rfl⟩
    rw [hW1]
    have o1 : Below WS.heap.size WS W1 := by rw [← hW1]; exact ((Below.refl _ WS).alloc (Nat.le_refl _) _).drew
    have q1 : Below w.heap.size w W1 := q6.trans (o1.mono (by omega))
    have s1 : W1.heap.size = WS.heap.size + 1 := by rw [← hW1]; simp
    have k1 : W1.heap[w.heap.size]? = some (.cells lf.toArray 89 (0, 0)) := (o1.block _ (by omega)).trans f6
    have n1 : W1.heap[WS.heap.size]? = some (.cells ks 152 (0, 0)) := by
      rw [← hW1]
      exact blk_new WS (.cells ks 152)
    have RP1 := RP.out W1 k1
    clear hW1 cS cS' HB hHeld f6
    go_upto_region 9 with fail
    go_wp2_with (refine wpList_load_mid rfl 31 (.tmp 71) rfl w.heap.size 0 rfl _ _ RP1 Tryz.underlying31 rfl hip ?_)
    refine (right_c p hp.len i W1).mono ?_
    rintro e W2 ⟨rfl, b2⟩
    have o2 : Below WS.heap.size WS W2 := o1.trans (b2.mono (by omega))
    have q2 : Below w.heap.size w W2 := q1.trans (b2.mono (by omega))
    have k2 := (b2.block _ (by omega)).trans k1
    have n2 := (b2.block _ (by omega)).trans n1
    have s2 : WS.heap.size < W2.heap.size := by have := b2.size; omega
    clear b2 k1 n1 RP1 q1 s1 o1
    cases hb : bitB p i
    · have CALL : Aside0 (∀ W : World, Below WS.heap.size WS W → Calls Tryz.prog 59 #[.pointer la, .agg lf.toArray, .int .i64 ((i + 1 : Nat) : Int)] W fun e w' => WithPost p v n l W e w') := ⟨fun W hW => by
        rw [← PV.out, ← KD.out.la]
        have hpc' := U.good_step hpc
        rw [hb] at hpc'
        have hD := KD.out.nd
        rw [List.nodup_append] at hD
        exact IH l _ (i + 1) W HIP.out hpc' KD.out.gl (AT.rep_below KD.out.rl hW) hD.1⟩
      have cl : W2.cell? ⟨WS.heap.size, 99, none⟩ = some (.pointer la) := by
        rw [← KS.out] at n2
        exact cell_in n2 (kn_left _ _ _ _ rfl rfl)
      have fz : ∀ W : World, (∃ cs, W.heap[WS.heap.size]? = some (.cells cs 152 (0, 0))) → W.frozen? ⟨WS.heap.size, 99, none⟩ = false := fun W ⟨cs, h⟩ => frozen_in h
      go_upto_region 11 with fail
      refine wp_region_held_drew (S := (fun W => Below WS.heap.size WS W ∧ Below w.heap.size w W ∧ W.heap[w.heap.size]? = some (.cells lf.toArray 89 (0, 0)))) (by kernel_rfl) (by exact ⟨o2.drew, q2.drew, k2⟩) (fun hHeld => ?_)
      refine wpAnyH_take (i := 0) (oi := _) (v := ?_) rfl (by kernel_rfl) (by kernel_rfl) (by kernel_rfl) (fun _ _ _ h => h) (Or.inl ⟨by rfl, ?_⟩) (by assumption) ?_
      rotate_left
      · (intro w hSw; (try dsimp only at hSw); clear hSw; go_simp; (try with_reducible rfl))
      (try simp only [uA, uB, uC, uD, uE, uF, uG, uH])
      refine wpAnyH_take (i := 1) (oi := _) (v := ?_) rfl (by kernel_rfl) (by kernel_rfl) (by kernel_rfl) (fun _ _ _ h => h) (Or.inl ⟨by rfl, ?_⟩) (by assumption) ?_
      rotate_left
      · (intro w hSw; (try dsimp only at hSw); clear hSw; go_simp; (try with_reducible rfl))
      (try simp only [uA, uB, uC, uD, uE, uF, uG, uH])
      refine wpAnyH_take (i := 2) (oi := _) (v := ?_) rfl (by kernel_rfl) (by kernel_rfl) (by kernel_rfl) (fun _ _ _ h => h) (Or.inl ⟨by rfl, ?_⟩) (by assumption) ?_
      rotate_left
      · (intro w hSw; (try dsimp only at hSw); clear hSw; go_simp; (try with_reducible rfl))
      (try simp only [uA, uB, uC, uD, uE, uF, uG, uH])
      refine wpAnyH_take (i := 3) (oi := _) (v := ?_) rfl (by kernel_rfl) (by kernel_rfl) (by kernel_rfl) (fun _ _ _ h => h) (Or.inl ⟨by rfl, ?_⟩) (by assumption) ?_
      rotate_left
      · (intro w hSw; (try dsimp only at hSw); clear hSw; go_simp; (try with_reducible rfl))
      (try simp only [uA, uB, uC, uD, uE, uF, uG, uH])
      refine wpAnyH_take (i := 5) (oi := _) (v := _) rfl (by kernel_rfl) (by kernel_rfl) (by kernel_rfl) (fun _ _ _ h => h) (yieldsIf_load_mid (by rfl) 89 (.tmp 4) rfl w.heap.size 0 rfl _ _ (fun W hW => block_range hW.2.2) Tryz.underlying89 rfl hi89) (by assumption) ?_
      (try simp only [uA, uB, uC, uD, uE, uF, uG, uH])
      refine wpAnyH_take (i := 6) (oi := _) (v := ?_) rfl (by kernel_rfl) (by kernel_rfl) (by kernel_rfl) (fun _ _ _ h => h) (Or.inl ⟨by rfl, ?_⟩) (by assumption) ?_
      rotate_left
      · (intro w hSw; (try dsimp only at hSw); clear hSw; go_simp; (try with_reducible rfl))
      (try simp only [uA, uB, uC, uD, uE, uF, uG, uH])
      refine wpAnyH_take (i := 7) (oi := _) (v := ?_) rfl (by kernel_rfl) (by kernel_rfl) (by kernel_rfl) (fun _ _ _ h => h) (Or.inl ⟨by rfl, ?_⟩) (by assumption) ?_
      rotate_left
      · (intro w hSw; (try dsimp only at hSw); clear hSw; go_simp; (try with_reducible rfl))
      (try simp only [uA, uB, uC, uD, uE, uF, uG, uH])
      refine wpAnyH_ready (rs := [4]) (by kernel_rfl) (by decide) (AllReadyH.cons rfl (fun K' hK => ?_) AllReadyH.nil)
      rw [if_pos (by rfl)]
      go_simp
      refine hK.out _ _ (by exact ⟨o2.drew, q2.drew, k2⟩) (fun hHeld => ?_)
      clear hK
      (try simp only [uA, uB, uC, uD, uE, uF, uG, uH])
      refine wpAnyH_ready (rs := [8]) (by kernel_rfl) (by decide) (AllReadyH.cons rfl (fun K' hK => ?_) AllReadyH.nil)
      rw [if_pos (by rfl)]
      go_simp
      refine (CALL.out W2.drew o2.drew).mono ?_
      rintro e w' ⟨t', rfl, hr', hu', hb', hnd', hbl'⟩
      (try dsimp only)
      refine hK.out _ _ (by exact ⟨o2.drew.trans (hb'.mono o2.size), q2.drew.trans (hb'.mono q2.size), (hb'.block _ (Nat.lt_of_lt_of_le (by omega) s2)).trans k2⟩) (fun hHeld => ?_)
      clear hK
      (try simp only [uA, uB, uC, uD, uE, uF, uG, uH])
      have o3 : Below WS.heap.size WS w' := o2.drew.trans (hb'.mono o2.size)
      have q3 : Below w.heap.size w w' := q2.drew.trans (hb'.mono q2.size)
      have k3 : w'.heap[w.heap.size]? = some (.cells lf.toArray 89 (0, 0)) := (hb'.block _ (Nat.lt_of_lt_of_le (by omega) s2)).trans k2
      have n3 : w'.heap[WS.heap.size]? = some (.cells ks 152 (0, 0)) := (hb'.block _ s2).trans n2
      have cl3 : w'.cell? ⟨WS.heap.size, 99, none⟩ = some (.pointer la) := (hb'.cell (p := ⟨WS.heap.size, 99, none⟩) s2).trans cl
      have fz3 := fz w' ⟨ks, n3⟩
      refine wpAnyH_take (i := 9) (oi := _) (v := ?_) rfl (by kernel_rfl) (by kernel_rfl) (by kernel_rfl) (fun _ _ _ h => h) (Or.inl ⟨by rfl, ?_⟩) (by assumption) ?_
      rotate_left
      · (intro w hSw; (try dsimp only at hSw); clear hSw; go_simp; (try with_reducible rfl))
      (try simp only [uA, uB, uC, uD, uE, uF, uG, uH])
      refine wpAnyH_take (i := 10) (oi := _) (v := ?_) rfl (by kernel_rfl) (by kernel_rfl) (by kernel_rfl) (fun _ _ _ h => h) (Or.inl ⟨by rfl, ?_⟩) (by assumption) ?_
      rotate_left
      · (intro w hSw; (try dsimp only at hSw); clear hSw; go_simp; (try with_reducible rfl))
      (try simp only [uA, uB, uC, uD, uE, uF, uG, uH])
      refine wpAnyH_ready (rs := [11]) (by kernel_rfl) (by decide) (AllReadyH.cons rfl (fun K' hK => ?_) AllReadyH.nil)
      rw [if_pos (by rfl)]
      go_simp
      refine hK.out _ _ (by exact ⟨o3.setCell (Nat.le_refl _) _, q3.setCell (by simp; omega) _, (Below.heap_setCell _ _ _ _ (by simp; omega)).trans k3⟩) (fun hHeld => ?_)
      clear hK
      (try simp only [uA, uB, uC, uD, uE, uF, uG, uH])
      refine wpAnyH_done (by kernel_rfl) ?_ _
      have n4 : (w'.setCell ⟨WS.heap.size, 99, none⟩ (.pointer t'.adr)).heap[WS.heap.size]? = some (.cells (kn z32i z32i (.pointer t'.adr) (.pointer ra)).toArray 152 (0, 0)) := by
        rw [← KS.out] at n3
        have := set_list (i := 99) (v := .pointer t'.adr) n3
        rwa [kn_set_left _ _ _ _ _ rfl rfl] at this
      have q4 : Below w.heap.size w (w'.setCell ⟨WS.heap.size, 99, none⟩ (.pointer t'.adr)) := q3.setCell (by simp; omega) _
      have o4 : Below WS.heap.size WS (w'.setCell ⟨WS.heap.size, 99, none⟩ (.pointer t'.adr)) := o3.setCell (Nat.le_refl _) _
      have fr : ∀ k, k ≠ WS.heap.size → (w'.setCell ⟨WS.heap.size, 99, none⟩ (.pointer t'.adr)).heap[k]? = w'.heap[k]? := fun k hk => Below.heap_setCell _ _ _ _ hk
      have hll := fun k hk => AT.rep_lt KD.out.rl k hk
      have hrl := fun k hk => AT.rep_lt KD.out.rr k hk
      have nin : ∀ k ∈ t'.blocks, k ≠ WS.heap.size := fun k hk => by
        rcases hbl' k hk with h | h
        · have := hll k h
          omega
        · have h2 : W2.heap.size ≤ k := h
          omega
      have ro : r.rep (w'.setCell ⟨WS.heap.size, 99, none⟩ (.pointer t'.adr)) := AT.rep_below KD.out.rr o4
      have rt : t'.rep (w'.setCell ⟨WS.heap.size, 99, none⟩ (.pointer t'.adr)) := AT.rep_frame hr' fun k hk => fr k (nin k hk)
      have HDD := KD.out.nd
      have UE := KD.out.ue
      rw [hb] at UE
      have KA := Aside0.mk KD.out.ra
      generalize w'.setCell ⟨WS.heap.size, 99, none⟩ (.pointer t'.adr) = W5 at *
      clear cl cl3 fz fz3 n2 n3 k2 k3 CALL fr hHeld
      go_wp2_with fail
      go_ret
      have hne' : t'.adr.isSome = true := AT.adr_some (by rw [hu']; exact U.with_ne _ _ _ _)
      rw [← KA.out] at n4
      refine ⟨.node WS.heap.size t' r, rfl, ⟨Or.inl hne', n4, rt, ro⟩, by rw [UE, AT.un, hu']; rfl, q4, ?_, fun k hk => ?_⟩
      · rw [AT.blocks, List.nodup_cons]
        rw [List.nodup_append] at HDD
        refine ⟨fun hm => ?_, ?_⟩
        · rcases List.mem_append.1 hm with hm | hm
          · exact nin _ hm rfl
          · have := hrl _ hm; omega
        · rw [List.nodup_append]
          refine ⟨hnd', HDD.2.1, fun x hx y hy e => ?_⟩
          subst e
          rcases hbl' x hx with h | h
          · exact HDD.2.2 x h x hy rfl
          · have h2 : W2.heap.size ≤ x := h
            have := hrl x hy
            omega
      · refine Or.inr ?_
        rcases List.mem_cons.1 hk with rfl | hk
        · omega
        · rcases List.mem_append.1 hk with hm | hm
          · rcases hbl' k hm with h | h
            · exact KD.out.lb k h
            · have h2 : W2.heap.size ≤ k := h
              omega
          · exact KD.out.rb k hm
    · have CALL : Aside0 (∀ W : World, Below WS.heap.size WS W → Calls Tryz.prog 59 #[.pointer ra, .agg lf.toArray, .int .i64 ((i + 1 : Nat) : Int)] W fun e w' => WithPost p v n r W e w') := ⟨fun W hW => by
        rw [← PV.out, ← KD.out.ra]
        have hpc' := U.good_step hpc
        rw [hb] at hpc'
        have hD := KD.out.nd
        rw [List.nodup_append] at hD
        exact IH r _ (i + 1) W HIP.out hpc' KD.out.gr (AT.rep_below KD.out.rr hW) hD.2.1⟩
      have cl : W2.cell? ⟨WS.heap.size, 100, none⟩ = some (.pointer ra) := by
        rw [← KS.out] at n2
        exact cell_in n2 (kn_right _ _ _ _ rfl rfl)
      have fz : ∀ W : World, (∃ cs, W.heap[WS.heap.size]? = some (.cells cs 152 (0, 0))) → W.frozen? ⟨WS.heap.size, 100, none⟩ = false := fun W ⟨cs, h⟩ => frozen_in h
      go_upto_region 10 with fail
      refine wp_region_held_drew (S := (fun W => Below WS.heap.size WS W ∧ Below w.heap.size w W ∧ W.heap[w.heap.size]? = some (.cells lf.toArray 89 (0, 0)))) (by kernel_rfl) (by exact ⟨o2.drew, q2.drew, k2⟩) (fun hHeld => ?_)
      refine wpAnyH_take (i := 0) (oi := _) (v := ?_) rfl (by kernel_rfl) (by kernel_rfl) (by kernel_rfl) (fun _ _ _ h => h) (Or.inl ⟨by rfl, ?_⟩) (by assumption) ?_
      rotate_left
      · (intro w hSw; (try dsimp only at hSw); clear hSw; go_simp; (try with_reducible rfl))
      (try simp only [uA, uB, uC, uD, uE, uF, uG, uH])
      refine wpAnyH_take (i := 1) (oi := _) (v := ?_) rfl (by kernel_rfl) (by kernel_rfl) (by kernel_rfl) (fun _ _ _ h => h) (Or.inl ⟨by rfl, ?_⟩) (by assumption) ?_
      rotate_left
      · (intro w hSw; (try dsimp only at hSw); clear hSw; go_simp; (try with_reducible rfl))
      (try simp only [uA, uB, uC, uD, uE, uF, uG, uH])
      refine wpAnyH_take (i := 2) (oi := _) (v := ?_) rfl (by kernel_rfl) (by kernel_rfl) (by kernel_rfl) (fun _ _ _ h => h) (Or.inl ⟨by rfl, ?_⟩) (by assumption) ?_
      rotate_left
      · (intro w hSw; (try dsimp only at hSw); clear hSw; go_simp; (try with_reducible rfl))
      (try simp only [uA, uB, uC, uD, uE, uF, uG, uH])
      refine wpAnyH_take (i := 3) (oi := _) (v := ?_) rfl (by kernel_rfl) (by kernel_rfl) (by kernel_rfl) (fun _ _ _ h => h) (Or.inl ⟨by rfl, ?_⟩) (by assumption) ?_
      rotate_left
      · (intro w hSw; (try dsimp only at hSw); clear hSw; go_simp; (try with_reducible rfl))
      (try simp only [uA, uB, uC, uD, uE, uF, uG, uH])
      refine wpAnyH_take (i := 5) (oi := _) (v := _) rfl (by kernel_rfl) (by kernel_rfl) (by kernel_rfl) (fun _ _ _ h => h) (yieldsIf_load_mid (by rfl) 89 (.tmp 4) rfl w.heap.size 0 rfl _ _ (fun W hW => block_range hW.2.2) Tryz.underlying89 rfl hi89) (by assumption) ?_
      (try simp only [uA, uB, uC, uD, uE, uF, uG, uH])
      refine wpAnyH_take (i := 6) (oi := _) (v := ?_) rfl (by kernel_rfl) (by kernel_rfl) (by kernel_rfl) (fun _ _ _ h => h) (Or.inl ⟨by rfl, ?_⟩) (by assumption) ?_
      rotate_left
      · (intro w hSw; (try dsimp only at hSw); clear hSw; go_simp; (try with_reducible rfl))
      (try simp only [uA, uB, uC, uD, uE, uF, uG, uH])
      refine wpAnyH_take (i := 7) (oi := _) (v := ?_) rfl (by kernel_rfl) (by kernel_rfl) (by kernel_rfl) (fun _ _ _ h => h) (Or.inl ⟨by rfl, ?_⟩) (by assumption) ?_
      rotate_left
      · (intro w hSw; (try dsimp only at hSw); clear hSw; go_simp; (try with_reducible rfl))
      (try simp only [uA, uB, uC, uD, uE, uF, uG, uH])
      refine wpAnyH_ready (rs := [4]) (by kernel_rfl) (by decide) (AllReadyH.cons rfl (fun K' hK => ?_) AllReadyH.nil)
      rw [if_pos (by rfl)]
      go_simp
      refine hK.out _ _ (by exact ⟨o2.drew, q2.drew, k2⟩) (fun hHeld => ?_)
      clear hK
      (try simp only [uA, uB, uC, uD, uE, uF, uG, uH])
      refine wpAnyH_ready (rs := [8]) (by kernel_rfl) (by decide) (AllReadyH.cons rfl (fun K' hK => ?_) AllReadyH.nil)
      rw [if_pos (by rfl)]
      go_simp
      refine (CALL.out W2.drew o2.drew).mono ?_
      rintro e w' ⟨t', rfl, hr', hu', hb', hnd', hbl'⟩
      (try dsimp only)
      refine hK.out _ _ (by exact ⟨o2.drew.trans (hb'.mono o2.size), q2.drew.trans (hb'.mono q2.size), (hb'.block _ (Nat.lt_of_lt_of_le (by omega) s2)).trans k2⟩) (fun hHeld => ?_)
      clear hK
      (try simp only [uA, uB, uC, uD, uE, uF, uG, uH])
      have o3 : Below WS.heap.size WS w' := o2.drew.trans (hb'.mono o2.size)
      have q3 : Below w.heap.size w w' := q2.drew.trans (hb'.mono q2.size)
      have k3 : w'.heap[w.heap.size]? = some (.cells lf.toArray 89 (0, 0)) := (hb'.block _ (Nat.lt_of_lt_of_le (by omega) s2)).trans k2
      have n3 : w'.heap[WS.heap.size]? = some (.cells ks 152 (0, 0)) := (hb'.block _ s2).trans n2
      have cl3 : w'.cell? ⟨WS.heap.size, 100, none⟩ = some (.pointer ra) := (hb'.cell (p := ⟨WS.heap.size, 100, none⟩) s2).trans cl
      have fz3 := fz w' ⟨ks, n3⟩
      refine wpAnyH_take (i := 9) (oi := _) (v := ?_) rfl (by kernel_rfl) (by kernel_rfl) (by kernel_rfl) (fun _ _ _ h => h) (Or.inl ⟨by rfl, ?_⟩) (by assumption) ?_
      rotate_left
      · (intro w hSw; (try dsimp only at hSw); clear hSw; go_simp; (try with_reducible rfl))
      (try simp only [uA, uB, uC, uD, uE, uF, uG, uH])
      refine wpAnyH_take (i := 10) (oi := _) (v := ?_) rfl (by kernel_rfl) (by kernel_rfl) (by kernel_rfl) (fun _ _ _ h => h) (Or.inl ⟨by rfl, ?_⟩) (by assumption) ?_
      rotate_left
      · (intro w hSw; (try dsimp only at hSw); clear hSw; go_simp; (try with_reducible rfl))
      (try simp only [uA, uB, uC, uD, uE, uF, uG, uH])
      refine wpAnyH_ready (rs := [11]) (by kernel_rfl) (by decide) (AllReadyH.cons rfl (fun K' hK => ?_) AllReadyH.nil)
      rw [if_pos (by rfl)]
      go_simp
      refine hK.out _ _ (by exact ⟨o3.setCell (Nat.le_refl _) _, q3.setCell (by simp; omega) _, (Below.heap_setCell _ _ _ _ (by simp; omega)).trans k3⟩) (fun hHeld => ?_)
      clear hK
      (try simp only [uA, uB, uC, uD, uE, uF, uG, uH])
      refine wpAnyH_done (by kernel_rfl) ?_ _
      have n4 : (w'.setCell ⟨WS.heap.size, 100, none⟩ (.pointer t'.adr)).heap[WS.heap.size]? = some (.cells (kn z32i z32i (.pointer la) (.pointer t'.adr)).toArray 152 (0, 0)) := by
        rw [← KS.out] at n3
        have := set_list (i := 100) (v := .pointer t'.adr) n3
        rwa [kn_set_right _ _ _ _ _ rfl rfl] at this
      have q4 : Below w.heap.size w (w'.setCell ⟨WS.heap.size, 100, none⟩ (.pointer t'.adr)) := q3.setCell (by simp; omega) _
      have o4 : Below WS.heap.size WS (w'.setCell ⟨WS.heap.size, 100, none⟩ (.pointer t'.adr)) := o3.setCell (Nat.le_refl _) _
      have fr : ∀ k, k ≠ WS.heap.size → (w'.setCell ⟨WS.heap.size, 100, none⟩ (.pointer t'.adr)).heap[k]? = w'.heap[k]? := fun k hk => Below.heap_setCell _ _ _ _ hk
      have hll := fun k hk => AT.rep_lt KD.out.rl k hk
      have hrl := fun k hk => AT.rep_lt KD.out.rr k hk
      have nin : ∀ k ∈ t'.blocks, k ≠ WS.heap.size := fun k hk => by
        rcases hbl' k hk with h | h
        · have := hrl k h
          omega
        · have h2 : W2.heap.size ≤ k := h
          omega
      have ro : l.rep (w'.setCell ⟨WS.heap.size, 100, none⟩ (.pointer t'.adr)) := AT.rep_below KD.out.rl o4
      have rt : t'.rep (w'.setCell ⟨WS.heap.size, 100, none⟩ (.pointer t'.adr)) := AT.rep_frame hr' fun k hk => fr k (nin k hk)
      have HDD := KD.out.nd
      have UE := KD.out.ue
      rw [hb] at UE
      have KA := Aside0.mk KD.out.la
      generalize w'.setCell ⟨WS.heap.size, 100, none⟩ (.pointer t'.adr) = W5 at *
      clear cl cl3 fz fz3 n2 n3 k2 k3 CALL fr hHeld
      go_wp2_with fail
      go_ret
      have hne' : t'.adr.isSome = true := AT.adr_some (by rw [hu']; exact U.with_ne _ _ _ _)
      rw [← KA.out] at n4
      refine ⟨.node WS.heap.size l t', rfl, ⟨Or.inr hne', n4, ro, rt⟩, by rw [UE, AT.un, hu']; rfl, q4, ?_, fun k hk => ?_⟩
      · rw [AT.blocks, List.nodup_cons]
        rw [List.nodup_append] at HDD
        refine ⟨fun hm => ?_, ?_⟩
        · rcases List.mem_append.1 hm with hm | hm
          · have := hll _ hm; omega
          · exact nin _ hm rfl
        · rw [List.nodup_append]
          refine ⟨HDD.1, hnd', fun x hx y hy e => ?_⟩
          subst e
          rcases hbl' x hy with h | h
          · exact HDD.2.2 x hx x h rfl
          · have h2 : W2.heap.size ≤ x := h
            have := hll x hx
            omega
      · refine Or.inr ?_
        rcases List.mem_cons.1 hk with rfl | hk
        · omega
        · rcases List.mem_append.1 hk with hm | hm
          · exact KD.out.lb k hm
          · rcases hbl' k hm with h | h
            · exact KD.out.rb k h
            · have h2 : W2.heap.size ≤ k := h
              omega
  · rw [hbq] at hqs
    go_upto_region 7 with fail
    go_region
    go_upto_region 8 with fail
    obtain ⟨WS, hWS⟩ : ∃ WS, ((W6.setCell ⟨w.heap.size + 3, 99, none⟩ (.pointer none)).setCell ⟨w.heap.size + 3, 100, none⟩ (.pointer (some ⟨w.heap.size + 2, 0, none⟩))).drew = WS := ⟨_, rfl⟩
    obtain ⟨la, hla⟩ : ∃ la : Option Addr, none = la := ⟨_, rfl⟩
    obtain ⟨ra, hra⟩ : ∃ ra : Option Addr, some ⟨w.heap.size + 2, 0, none⟩ = ra := ⟨_, rfl⟩
    have n7 : WS.heap[w.heap.size + 3]? = some (.cells (kn z32i z32i (.pointer none) (.pointer (some ⟨w.heap.size + 2, 0, none⟩))).toArray 152 (0, 0)) := by
      have h1 := set_list (i := 99) (v := .pointer none) n6
      rw [kn_set_left _ _ _ _ _ rfl rfl] at h1
      have h2 := set_list (i := 100) (v := .pointer (some ⟨w.heap.size + 2, 0, none⟩)) h1
      rw [kn_set_right _ _ _ _ _ rfl rfl] at h2
      rw [← hWS]
      exact h2
    have fr7 : ∀ k, k ≠ w.heap.size + 3 → WS.heap[k]? = W6.heap[k]? := fun k hk => by
      rw [← hWS]
      exact (Below.heap_setCell _ _ _ _ hk).trans (Below.heap_setCell _ _ _ _ hk)
    have cS : WS.cell? ⟨w.heap.size + 3, 99, none⟩ = some (.pointer la) := by rw [← hla]; exact cell_in n7 (kn_left _ _ _ _ rfl rfl)
    have cS' : WS.cell? ⟨w.heap.size + 3, 100, none⟩ = some (.pointer ra) := by rw [← hra]; exact cell_in n7 (kn_right _ _ _ _ rfl rfl)
    have KD : ∃ l r : AT, Aside0 (Kids p v q u n i c kb w WS l r la ra) := ⟨.nil, .leaf (w.heap.size + 2) q u, ⟨⟨hla, hra, trivial, KR.out WS _ ((fr7 _ (by omega)).trans m6), by simp [AT.blocks], hnk, hbk, trivial, ⟨hq, hu, hqs⟩, by rw [UW.out, hbq]; rfl⟩⟩⟩
    have q7 : Below w.heap.size w WS := by rw [← hWS]; exact ((q6.setCell (by simp) _).setCell (by simp) _).drew
    have f7 := (fr7 _ (by omega)).trans f6
    have z7 : w.heap.size + 4 ≤ WS.heap.size := by rw [← hWS]; simpa [World.setCell] using z6
    rw [hWS]
    clear hla hra hWS c6 c6' g6 g6' LR6 m6 n6 q6 f6 z6 n7 fr7 W6
    have q6 := q7
    have f6 := f7
    have z6 := z7
    clear q7 f7 z7
    obtain ⟨l, r, KD⟩ := KD
    have HB := kn_set (.pointer la) (.pointer ra)
    obtain ⟨ks, hks⟩ : ∃ ks, (kn z32i z32i (.pointer la) (.pointer ra)).toArray = ks := ⟨_, rfl⟩
    have KS := Aside0.mk hks
    have hi152k : (Tryz.prog.info? 152).map (·.size) = some ks.size := by rw [← hks, List.size_toArray, kn_len _ _ _ _ rfl rfl]; kernel_rfl
    rw [hks] at HB
    clear hks hi152
    refine wp_region_held_drew (S := (fun W => W.cell? ⟨w.heap.size + 3, 99, none⟩ = some (.pointer la) ∧ W.cell? ⟨w.heap.size + 3, 100, none⟩ = some (.pointer ra))) (by kernel_rfl) (by exact ⟨cS, cS'⟩) (fun hHeld => ?_)
    refine wpAnyH_take (i := 0) (oi := _) (v := ?_) rfl (by kernel_rfl) (by kernel_rfl) (by kernel_rfl) (fun _ _ _ h => h) (Or.inl ⟨by rfl, ?_⟩) (by assumption) ?_
    rotate_left
    · (intro w hSw; (try dsimp only at hSw); have c1 := hSw.1; have c2 := hSw.2; clear hSw; go_simp; (try with_reducible rfl))
    (try simp only [uA, uB, uC, uD, uE, uF, uG, uH])
    refine wpAnyH_take (i := 1) (oi := _) (v := ?_) rfl (by kernel_rfl) (by kernel_rfl) (by kernel_rfl) (fun _ _ _ h => h) (Or.inl ⟨by rfl, ?_⟩) (by assumption) ?_
    rotate_left
    · (intro w hSw; (try dsimp only at hSw); have c1 := hSw.1; have c2 := hSw.2; clear hSw; go_simp; (try with_reducible rfl))
    (try simp only [uA, uB, uC, uD, uE, uF, uG, uH])
    refine wpAnyH_take (i := 2) (oi := _) (v := ?_) rfl (by kernel_rfl) (by kernel_rfl) (by kernel_rfl) (fun _ _ _ h => h) (Or.inl ⟨by rfl, ?_⟩) (by assumption) ?_
    rotate_left
    · (intro w hSw; (try dsimp only at hSw); have c1 := hSw.1; have c2 := hSw.2; clear hSw; go_simp; (try with_reducible rfl))
    (try simp only [uA, uB, uC, uD, uE, uF, uG, uH])
    refine wpAnyH_take (i := 3) (oi := _) (v := ?_) rfl (by kernel_rfl) (by kernel_rfl) (by kernel_rfl) (fun _ _ _ h => h) (Or.inl ⟨by rfl, ?_⟩) (by assumption) ?_
    rotate_left
    · (intro w hSw; (try dsimp only at hSw); have c1 := hSw.1; have c2 := hSw.2; clear hSw; go_simp; (try with_reducible rfl))
    (try simp only [uA, uB, uC, uD, uE, uF, uG, uH])
    refine wpAnyH_take (i := 4) (oi := _) (v := ?_) rfl (by kernel_rfl) (by kernel_rfl) (by kernel_rfl) (fun _ _ _ h => h) (Or.inl ⟨by rfl, ?_⟩) (by assumption) ?_
    rotate_left
    · (intro w hSw; (try dsimp only at hSw); have c1 := hSw.1; have c2 := hSw.2; clear hSw; go_simp; (try with_reducible rfl))
    (try simp only [uA, uB, uC, uD, uE, uF, uG, uH])
    refine wpAnyH_take (i := 5) (oi := _) (v := ?_) rfl (by kernel_rfl) (by kernel_rfl) (by kernel_rfl) (fun _ _ _ h => h) (Or.inl ⟨by rfl, ?_⟩) (by assumption) ?_
    rotate_left
    · (intro w hSw; (try dsimp only at hSw); have c1 := hSw.1; have c2 := hSw.2; clear hSw; go_simp; (try with_reducible rfl))
    (try simp only [uA, uB, uC, uD, uE, uF, uG, uH])
    refine wpAnyH_take (i := 6) (oi := _) (v := ?_) rfl (by kernel_rfl) (by kernel_rfl) (by kernel_rfl) (fun _ _ _ h => h) (Or.inl ⟨by rfl, ?_⟩) (by assumption) ?_
    rotate_left
    · (intro w hSw; (try dsimp only at hSw); have c1 := hSw.1; have c2 := hSw.2; clear hSw; go_simp; (try with_reducible rfl))
    (try simp only [uA, uB, uC, uD, uE, uF, uG, uH])
    refine wpAnyH_take (i := 7) (oi := _) (v := ?_) rfl (by kernel_rfl) (by kernel_rfl) (by kernel_rfl) (fun _ _ _ h => h) (Or.inl ⟨by rfl, ?_⟩) (by assumption) ?_
    rotate_left
    · (intro w hSw; (try dsimp only at hSw); have c1 := hSw.1; have c2 := hSw.2; clear hSw; go_simp; (try with_reducible rfl))
    (try simp only [uA, uB, uC, uD, uE, uF, uG, uH])
    refine wpAnyH_take (i := 8) (oi := _) (v := .agg ks) rfl (by kernel_rfl) (by kernel_rfl) (by kernel_rfl) (fun _ _ _ h => h) (Or.inl ⟨by rfl, ?_⟩) (by assumption) ?_
    rotate_left 0
    · (intro w hSw; (try dsimp only at hSw); have c1 := hSw.1; have c2 := hSw.2; clear hSw; go_simp; (try with_reducible rfl))
    (try simp only [uA, uB, uC, uD, uE, uF, uG, uH])
    refine wpAnyH_ready (rs := [9]) (by kernel_rfl) (by decide) (AllReadyH.cons rfl (fun K' hK => ?_) AllReadyH.nil)
    rw [if_pos (by rfl)]
    go_simp
    refine hK.out _ _ (by exact ⟨(World.cell?_alloc_past _ _ _ (by first | omega | (simp; omega))).trans cS, (World.cell?_alloc_past _ _ _ (by first | omega | (simp; omega))).trans cS'⟩) (fun hHeld => ?_)
    clear hK
    (try simp only [uA, uB, uC, uD, uE, uF, uG, uH])
    refine wpAnyH_take (i := 10) (oi := _) (v := ?_) rfl (by kernel_rfl) (by kernel_rfl) (by kernel_rfl) (fun _ _ _ h => h) (Or.inl ⟨by rfl, ?_⟩) (by assumption) ?_
    rotate_left
    · (intro w hSw; (try dsimp only at hSw); have c1 := hSw.1; have c2 := hSw.2; clear hSw; go_simp; (try with_reducible rfl))
    (try simp only [uA, uB, uC, uD, uE, uF, uG, uH])
    refine wpAnyH_done (by kernel_rfl) ?_ _
    obtain ⟨W1, hW1⟩ : ∃ W1, (WS.alloc (.cells ks 152)).drew = W1 := ⟨_, rfl⟩
    rw [hW1]
    have o1 : Below WS.heap.size WS W1 := by rw [← hW1]; exact ((Below.refl _ WS).alloc (Nat.le_refl _) _).drew
    have q1 : Below w.heap.size w W1 := q6.trans (o1.mono (by omega))
    have s1 : W1.heap.size = WS.heap.size + 1 := by rw [← hW1]; simp
    have k1 : W1.heap[w.heap.size]? = some (.cells lf.toArray 89 (0, 0)) := (o1.block _ (by omega)).trans f6
    have n1 : W1.heap[WS.heap.size]? = some (.cells ks 152 (0, 0)) := by
      rw [← hW1]
      exact blk_new WS (.cells ks 152)
    have RP1 := RP.out W1 k1
    clear hW1 cS cS' HB hHeld f6
    go_upto_region 9 with fail
    go_wp2_with (refine wpList_load_mid rfl 31 (.tmp 71) rfl w.heap.size 0 rfl _ _ RP1 Tryz.underlying31 rfl hip ?_)
    refine (right_c p hp.len i W1).mono ?_
    rintro e W2 ⟨rfl, b2⟩
    have o2 : Below WS.heap.size WS W2 := o1.trans (b2.mono (by omega))
    have q2 : Below w.heap.size w W2 := q1.trans (b2.mono (by omega))
    have k2 := (b2.block _ (by omega)).trans k1
    have n2 := (b2.block _ (by omega)).trans n1
    have s2 : WS.heap.size < W2.heap.size := by have := b2.size; omega
    clear b2 k1 n1 RP1 q1 s1 o1
    cases hb : bitB p i
    · have CALL : Aside0 (∀ W : World, Below WS.heap.size WS W → Calls Tryz.prog 59 #[.pointer la, .agg lf.toArray, .int .i64 ((i + 1 : Nat) : Int)] W fun e w' => WithPost p v n l W e w') := ⟨fun W hW => by
        rw [← PV.out, ← KD.out.la]
        have hpc' := U.good_step hpc
        rw [hb] at hpc'
        have hD := KD.out.nd
        rw [List.nodup_append] at hD
        exact IH l _ (i + 1) W HIP.out hpc' KD.out.gl (AT.rep_below KD.out.rl hW) hD.1⟩
      have cl : W2.cell? ⟨WS.heap.size, 99, none⟩ = some (.pointer la) := by
        rw [← KS.out] at n2
        exact cell_in n2 (kn_left _ _ _ _ rfl rfl)
      have fz : ∀ W : World, (∃ cs, W.heap[WS.heap.size]? = some (.cells cs 152 (0, 0))) → W.frozen? ⟨WS.heap.size, 99, none⟩ = false := fun W ⟨cs, h⟩ => frozen_in h
      go_upto_region 11 with fail
      refine wp_region_held_drew (S := (fun W => Below WS.heap.size WS W ∧ Below w.heap.size w W ∧ W.heap[w.heap.size]? = some (.cells lf.toArray 89 (0, 0)))) (by kernel_rfl) (by exact ⟨o2.drew, q2.drew, k2⟩) (fun hHeld => ?_)
      refine wpAnyH_take (i := 0) (oi := _) (v := ?_) rfl (by kernel_rfl) (by kernel_rfl) (by kernel_rfl) (fun _ _ _ h => h) (Or.inl ⟨by rfl, ?_⟩) (by assumption) ?_
      rotate_left
      · (intro w hSw; (try dsimp only at hSw); clear hSw; go_simp; (try with_reducible rfl))
      (try simp only [uA, uB, uC, uD, uE, uF, uG, uH])
      refine wpAnyH_take (i := 1) (oi := _) (v := ?_) rfl (by kernel_rfl) (by kernel_rfl) (by kernel_rfl) (fun _ _ _ h => h) (Or.inl ⟨by rfl, ?_⟩) (by assumption) ?_
      rotate_left
      · (intro w hSw; (try dsimp only at hSw); clear hSw; go_simp; (try with_reducible rfl))
      (try simp only [uA, uB, uC, uD, uE, uF, uG, uH])
      refine wpAnyH_take (i := 2) (oi := _) (v := ?_) rfl (by kernel_rfl) (by kernel_rfl) (by kernel_rfl) (fun _ _ _ h => h) (Or.inl ⟨by rfl, ?_⟩) (by assumption) ?_
      rotate_left
      · (intro w hSw; (try dsimp only at hSw); clear hSw; go_simp; (try with_reducible rfl))
      (try simp only [uA, uB, uC, uD, uE, uF, uG, uH])
      refine wpAnyH_take (i := 3) (oi := _) (v := ?_) rfl (by kernel_rfl) (by kernel_rfl) (by kernel_rfl) (fun _ _ _ h => h) (Or.inl ⟨by rfl, ?_⟩) (by assumption) ?_
      rotate_left
      · (intro w hSw; (try dsimp only at hSw); clear hSw; go_simp; (try with_reducible rfl))
      (try simp only [uA, uB, uC, uD, uE, uF, uG, uH])
      refine wpAnyH_take (i := 5) (oi := _) (v := _) rfl (by kernel_rfl) (by kernel_rfl) (by kernel_rfl) (fun _ _ _ h => h) (yieldsIf_load_mid (by rfl) 89 (.tmp 4) rfl w.heap.size 0 rfl _ _ (fun W hW => block_range hW.2.2) Tryz.underlying89 rfl hi89) (by assumption) ?_
      (try simp only [uA, uB, uC, uD, uE, uF, uG, uH])
      refine wpAnyH_take (i := 6) (oi := _) (v := ?_) rfl (by kernel_rfl) (by kernel_rfl) (by kernel_rfl) (fun _ _ _ h => h) (Or.inl ⟨by rfl, ?_⟩) (by assumption) ?_
      rotate_left
      · (intro w hSw; (try dsimp only at hSw); clear hSw; go_simp; (try with_reducible rfl))
      (try simp only [uA, uB, uC, uD, uE, uF, uG, uH])
      refine wpAnyH_take (i := 7) (oi := _) (v := ?_) rfl (by kernel_rfl) (by kernel_rfl) (by kernel_rfl) (fun _ _ _ h => h) (Or.inl ⟨by rfl, ?_⟩) (by assumption) ?_
      rotate_left
      · (intro w hSw; (try dsimp only at hSw); clear hSw; go_simp; (try with_reducible rfl))
      (try simp only [uA, uB, uC, uD, uE, uF, uG, uH])
      refine wpAnyH_ready (rs := [4]) (by kernel_rfl) (by decide) (AllReadyH.cons rfl (fun K' hK => ?_) AllReadyH.nil)
      rw [if_pos (by rfl)]
      go_simp
      refine hK.out _ _ (by exact ⟨o2.drew, q2.drew, k2⟩) (fun hHeld => ?_)
      clear hK
      (try simp only [uA, uB, uC, uD, uE, uF, uG, uH])
      refine wpAnyH_ready (rs := [8]) (by kernel_rfl) (by decide) (AllReadyH.cons rfl (fun K' hK => ?_) AllReadyH.nil)
      rw [if_pos (by rfl)]
      go_simp
      refine (CALL.out W2.drew o2.drew).mono ?_
      rintro e w' ⟨t', rfl, hr', hu', hb', hnd', hbl'⟩
      (try dsimp only)
      refine hK.out _ _ (by exact ⟨o2.drew.trans (hb'.mono o2.size), q2.drew.trans (hb'.mono q2.size), (hb'.block _ (Nat.lt_of_lt_of_le (by omega) s2)).trans k2⟩) (fun hHeld => ?_)
      clear hK
      (try simp only [uA, uB, uC, uD, uE, uF, uG, uH])
      have o3 : Below WS.heap.size WS w' := o2.drew.trans (hb'.mono o2.size)
      have q3 : Below w.heap.size w w' := q2.drew.trans (hb'.mono q2.size)
      have k3 : w'.heap[w.heap.size]? = some (.cells lf.toArray 89 (0, 0)) := (hb'.block _ (Nat.lt_of_lt_of_le (by omega) s2)).trans k2
      have n3 : w'.heap[WS.heap.size]? = some (.cells ks 152 (0, 0)) := (hb'.block _ s2).trans n2
      have cl3 : w'.cell? ⟨WS.heap.size, 99, none⟩ = some (.pointer la) := (hb'.cell (p := ⟨WS.heap.size, 99, none⟩) s2).trans cl
      have fz3 := fz w' ⟨ks, n3⟩
      refine wpAnyH_take (i := 9) (oi := _) (v := ?_) rfl (by kernel_rfl) (by kernel_rfl) (by kernel_rfl) (fun _ _ _ h => h) (Or.inl ⟨by rfl, ?_⟩) (by assumption) ?_
      rotate_left
      · (intro w hSw; (try dsimp only at hSw); clear hSw; go_simp; (try with_reducible rfl))
      (try simp only [uA, uB, uC, uD, uE, uF, uG, uH])
      refine wpAnyH_take (i := 10) (oi := _) (v := ?_) rfl (by kernel_rfl) (by kernel_rfl) (by kernel_rfl) (fun _ _ _ h => h) (Or.inl ⟨by rfl, ?_⟩) (by assumption) ?_
      rotate_left
      · (intro w hSw; (try dsimp only at hSw); clear hSw; go_simp; (try with_reducible rfl))
      (try simp only [uA, uB, uC, uD, uE, uF, uG, uH])
      refine wpAnyH_ready (rs := [11]) (by kernel_rfl) (by decide) (AllReadyH.cons rfl (fun K' hK => ?_) AllReadyH.nil)
      rw [if_pos (by rfl)]
      go_simp
      refine hK.out _ _ (by exact ⟨o3.setCell (Nat.le_refl _) _, q3.setCell (by simp; omega) _, (Below.heap_setCell _ _ _ _ (by simp; omega)).trans k3⟩) (fun hHeld => ?_)
      clear hK
      (try simp only [uA, uB, uC, uD, uE, uF, uG, uH])
      refine wpAnyH_done (by kernel_rfl) ?_ _
      have n4 : (w'.setCell ⟨WS.heap.size, 99, none⟩ (.pointer t'.adr)).heap[WS.heap.size]? = some (.cells (kn z32i z32i (.pointer t'.adr) (.pointer ra)).toArray 152 (0, 0)) := by
        rw [← KS.out] at n3
        have := set_list (i := 99) (v := .pointer t'.adr) n3
        rwa [kn_set_left _ _ _ _ _ rfl rfl] at this
      have q4 : Below w.heap.size w (w'.setCell ⟨WS.heap.size, 99, none⟩ (.pointer t'.adr)) := q3.setCell (by simp; omega) _
      have o4 : Below WS.heap.size WS (w'.setCell ⟨WS.heap.size, 99, none⟩ (.pointer t'.adr)) := o3.setCell (Nat.le_refl _) _
      have fr : ∀ k, k ≠ WS.heap.size → (w'.setCell ⟨WS.heap.size, 99, none⟩ (.pointer t'.adr)).heap[k]? = w'.heap[k]? := fun k hk => Below.heap_setCell _ _ _ _ hk
      have hll := fun k hk => AT.rep_lt KD.out.rl k hk
      have hrl := fun k hk => AT.rep_lt KD.out.rr k hk
      have nin : ∀ k ∈ t'.blocks, k ≠ WS.heap.size := fun k hk => by
        rcases hbl' k hk with h | h
        · have := hll k h
          omega
        · have h2 : W2.heap.size ≤ k := h
          omega
      have ro : r.rep (w'.setCell ⟨WS.heap.size, 99, none⟩ (.pointer t'.adr)) := AT.rep_below KD.out.rr o4
      have rt : t'.rep (w'.setCell ⟨WS.heap.size, 99, none⟩ (.pointer t'.adr)) := AT.rep_frame hr' fun k hk => fr k (nin k hk)
      have HDD := KD.out.nd
      have UE := KD.out.ue
      rw [hb] at UE
      have KA := Aside0.mk KD.out.ra
      generalize w'.setCell ⟨WS.heap.size, 99, none⟩ (.pointer t'.adr) = W5 at *
      clear cl cl3 fz fz3 n2 n3 k2 k3 CALL fr hHeld
      go_wp2_with fail
      go_ret
      have hne' : t'.adr.isSome = true := AT.adr_some (by rw [hu']; exact U.with_ne _ _ _ _)
      rw [← KA.out] at n4
      refine ⟨.node WS.heap.size t' r, rfl, ⟨Or.inl hne', n4, rt, ro⟩, by rw [UE, AT.un, hu']; rfl, q4, ?_, fun k hk => ?_⟩
      · rw [AT.blocks, List.nodup_cons]
        rw [List.nodup_append] at HDD
        refine ⟨fun hm => ?_, ?_⟩
        · rcases List.mem_append.1 hm with hm | hm
          · exact nin _ hm rfl
          · have := hrl _ hm; omega
        · rw [List.nodup_append]
          refine ⟨hnd', HDD.2.1, fun x hx y hy e => ?_⟩
          subst e
          rcases hbl' x hx with h | h
          · exact HDD.2.2 x h x hy rfl
          · have h2 : W2.heap.size ≤ x := h
            have := hrl x hy
            omega
      · refine Or.inr ?_
        rcases List.mem_cons.1 hk with rfl | hk
        · omega
        · rcases List.mem_append.1 hk with hm | hm
          · rcases hbl' k hm with h | h
            · exact KD.out.lb k h
            · have h2 : W2.heap.size ≤ k := h
              omega
          · exact KD.out.rb k hm
    · have CALL : Aside0 (∀ W : World, Below WS.heap.size WS W → Calls Tryz.prog 59 #[.pointer ra, .agg lf.toArray, .int .i64 ((i + 1 : Nat) : Int)] W fun e w' => WithPost p v n r W e w') := ⟨fun W hW => by
        rw [← PV.out, ← KD.out.ra]
        have hpc' := U.good_step hpc
        rw [hb] at hpc'
        have hD := KD.out.nd
        rw [List.nodup_append] at hD
        exact IH r _ (i + 1) W HIP.out hpc' KD.out.gr (AT.rep_below KD.out.rr hW) hD.2.1⟩
      have cl : W2.cell? ⟨WS.heap.size, 100, none⟩ = some (.pointer ra) := by
        rw [← KS.out] at n2
        exact cell_in n2 (kn_right _ _ _ _ rfl rfl)
      have fz : ∀ W : World, (∃ cs, W.heap[WS.heap.size]? = some (.cells cs 152 (0, 0))) → W.frozen? ⟨WS.heap.size, 100, none⟩ = false := fun W ⟨cs, h⟩ => frozen_in h
      go_upto_region 10 with fail
      refine wp_region_held_drew (S := (fun W => Below WS.heap.size WS W ∧ Below w.heap.size w W ∧ W.heap[w.heap.size]? = some (.cells lf.toArray 89 (0, 0)))) (by kernel_rfl) (by exact ⟨o2.drew, q2.drew, k2⟩) (fun hHeld => ?_)
      refine wpAnyH_take (i := 0) (oi := _) (v := ?_) rfl (by kernel_rfl) (by kernel_rfl) (by kernel_rfl) (fun _ _ _ h => h) (Or.inl ⟨by rfl, ?_⟩) (by assumption) ?_
      rotate_left
      · (intro w hSw; (try dsimp only at hSw); clear hSw; go_simp; (try with_reducible rfl))
      (try simp only [uA, uB, uC, uD, uE, uF, uG, uH])
      refine wpAnyH_take (i := 1) (oi := _) (v := ?_) rfl (by kernel_rfl) (by kernel_rfl) (by kernel_rfl) (fun _ _ _ h => h) (Or.inl ⟨by rfl, ?_⟩) (by assumption) ?_
      rotate_left
      · (intro w hSw; (try dsimp only at hSw); clear hSw; go_simp; (try with_reducible rfl))
      (try simp only [uA, uB, uC, uD, uE, uF, uG, uH])
      refine wpAnyH_take (i := 2) (oi := _) (v := ?_) rfl (by kernel_rfl) (by kernel_rfl) (by kernel_rfl) (fun _ _ _ h => h) (Or.inl ⟨by rfl, ?_⟩) (by assumption) ?_
      rotate_left
      · (intro w hSw; (try dsimp only at hSw); clear hSw; go_simp; (try with_reducible rfl))
      (try simp only [uA, uB, uC, uD, uE, uF, uG, uH])
      refine wpAnyH_take (i := 3) (oi := _) (v := ?_) rfl (by kernel_rfl) (by kernel_rfl) (by kernel_rfl) (fun _ _ _ h => h) (Or.inl ⟨by rfl, ?_⟩) (by assumption) ?_
      rotate_left
      · (intro w hSw; (try dsimp only at hSw); clear hSw; go_simp; (try with_reducible rfl))
      (try simp only [uA, uB, uC, uD, uE, uF, uG, uH])
      refine wpAnyH_take (i := 5) (oi := _) (v := _) rfl (by kernel_rfl) (by kernel_rfl) (by kernel_rfl) (fun _ _ _ h => h) (yieldsIf_load_mid (by rfl) 89 (.tmp 4) rfl w.heap.size 0 rfl _ _ (fun W hW => block_range hW.2.2) Tryz.underlying89 rfl hi89) (by assumption) ?_
      (try simp only [uA, uB, uC, uD, uE, uF, uG, uH])
      refine wpAnyH_take (i := 6) (oi := _) (v := ?_) rfl (by kernel_rfl) (by kernel_rfl) (by kernel_rfl) (fun _ _ _ h => h) (Or.inl ⟨by rfl, ?_⟩) (by assumption) ?_
      rotate_left
      · (intro w hSw; (try dsimp only at hSw); clear hSw; go_simp; (try with_reducible rfl))
      (try simp only [uA, uB, uC, uD, uE, uF, uG, uH])
      refine wpAnyH_take (i := 7) (oi := _) (v := ?_) rfl (by kernel_rfl) (by kernel_rfl) (by kernel_rfl) (fun _ _ _ h => h) (Or.inl ⟨by rfl, ?_⟩) (by assumption) ?_
      rotate_left
      · (intro w hSw; (try dsimp only at hSw); clear hSw; go_simp; (try with_reducible rfl))
      (try simp only [uA, uB, uC, uD, uE, uF, uG, uH])
      refine wpAnyH_ready (rs := [4]) (by kernel_rfl) (by decide) (AllReadyH.cons rfl (fun K' hK => ?_) AllReadyH.nil)
      rw [if_pos (by rfl)]
      go_simp
      refine hK.out _ _ (by exact ⟨o2.drew, q2.drew, k2⟩) (fun hHeld => ?_)
      clear hK
      (try simp only [uA, uB, uC, uD, uE, uF, uG, uH])
      refine wpAnyH_ready (rs := [8]) (by kernel_rfl) (by decide) (AllReadyH.cons rfl (fun K' hK => ?_) AllReadyH.nil)
      rw [if_pos (by rfl)]
      go_simp
      refine (CALL.out W2.drew o2.drew).mono ?_
      rintro e w' ⟨t', rfl, hr', hu', hb', hnd', hbl'⟩
      (try dsimp only)
      refine hK.out _ _ (by exact ⟨o2.drew.trans (hb'.mono o2.size), q2.drew.trans (hb'.mono q2.size), (hb'.block _ (Nat.lt_of_lt_of_le (by omega) s2)).trans k2⟩) (fun hHeld => ?_)
      clear hK
      (try simp only [uA, uB, uC, uD, uE, uF, uG, uH])
      have o3 : Below WS.heap.size WS w' := o2.drew.trans (hb'.mono o2.size)
      have q3 : Below w.heap.size w w' := q2.drew.trans (hb'.mono q2.size)
      have k3 : w'.heap[w.heap.size]? = some (.cells lf.toArray 89 (0, 0)) := (hb'.block _ (Nat.lt_of_lt_of_le (by omega) s2)).trans k2
      have n3 : w'.heap[WS.heap.size]? = some (.cells ks 152 (0, 0)) := (hb'.block _ s2).trans n2
      have cl3 : w'.cell? ⟨WS.heap.size, 100, none⟩ = some (.pointer ra) := (hb'.cell (p := ⟨WS.heap.size, 100, none⟩) s2).trans cl
      have fz3 := fz w' ⟨ks, n3⟩
      refine wpAnyH_take (i := 9) (oi := _) (v := ?_) rfl (by kernel_rfl) (by kernel_rfl) (by kernel_rfl) (fun _ _ _ h => h) (Or.inl ⟨by rfl, ?_⟩) (by assumption) ?_
      rotate_left
      · (intro w hSw; (try dsimp only at hSw); clear hSw; go_simp; (try with_reducible rfl))
      (try simp only [uA, uB, uC, uD, uE, uF, uG, uH])
      refine wpAnyH_take (i := 10) (oi := _) (v := ?_) rfl (by kernel_rfl) (by kernel_rfl) (by kernel_rfl) (fun _ _ _ h => h) (Or.inl ⟨by rfl, ?_⟩) (by assumption) ?_
      rotate_left
      · (intro w hSw; (try dsimp only at hSw); clear hSw; go_simp; (try with_reducible rfl))
      (try simp only [uA, uB, uC, uD, uE, uF, uG, uH])
      refine wpAnyH_ready (rs := [11]) (by kernel_rfl) (by decide) (AllReadyH.cons rfl (fun K' hK => ?_) AllReadyH.nil)
      rw [if_pos (by rfl)]
      go_simp
      refine hK.out _ _ (by exact ⟨o3.setCell (Nat.le_refl _) _, q3.setCell (by simp; omega) _, (Below.heap_setCell _ _ _ _ (by simp; omega)).trans k3⟩) (fun hHeld => ?_)
      clear hK
      (try simp only [uA, uB, uC, uD, uE, uF, uG, uH])
      refine wpAnyH_done (by kernel_rfl) ?_ _
      have n4 : (w'.setCell ⟨WS.heap.size, 100, none⟩ (.pointer t'.adr)).heap[WS.heap.size]? = some (.cells (kn z32i z32i (.pointer la) (.pointer t'.adr)).toArray 152 (0, 0)) := by
        rw [← KS.out] at n3
        have := set_list (i := 100) (v := .pointer t'.adr) n3
        rwa [kn_set_right _ _ _ _ _ rfl rfl] at this
      have q4 : Below w.heap.size w (w'.setCell ⟨WS.heap.size, 100, none⟩ (.pointer t'.adr)) := q3.setCell (by simp; omega) _
      have o4 : Below WS.heap.size WS (w'.setCell ⟨WS.heap.size, 100, none⟩ (.pointer t'.adr)) := o3.setCell (Nat.le_refl _) _
      have fr : ∀ k, k ≠ WS.heap.size → (w'.setCell ⟨WS.heap.size, 100, none⟩ (.pointer t'.adr)).heap[k]? = w'.heap[k]? := fun k hk => Below.heap_setCell _ _ _ _ hk
      have hll := fun k hk => AT.rep_lt KD.out.rl k hk
      have hrl := fun k hk => AT.rep_lt KD.out.rr k hk
      have nin : ∀ k ∈ t'.blocks, k ≠ WS.heap.size := fun k hk => by
        rcases hbl' k hk with h | h
        · have := hrl k h
          omega
        · have h2 : W2.heap.size ≤ k := h
          omega
      have ro : l.rep (w'.setCell ⟨WS.heap.size, 100, none⟩ (.pointer t'.adr)) := AT.rep_below KD.out.rl o4
      have rt : t'.rep (w'.setCell ⟨WS.heap.size, 100, none⟩ (.pointer t'.adr)) := AT.rep_frame hr' fun k hk => fr k (nin k hk)
      have HDD := KD.out.nd
      have UE := KD.out.ue
      rw [hb] at UE
      have KA := Aside0.mk KD.out.la
      generalize w'.setCell ⟨WS.heap.size, 100, none⟩ (.pointer t'.adr) = W5 at *
      clear cl cl3 fz fz3 n2 n3 k2 k3 CALL fr hHeld
      go_wp2_with fail
      go_ret
      have hne' : t'.adr.isSome = true := AT.adr_some (by rw [hu']; exact U.with_ne _ _ _ _)
      rw [← KA.out] at n4
      refine ⟨.node WS.heap.size l t', rfl, ⟨Or.inr hne', n4, ro, rt⟩, by rw [UE, AT.un, hu']; rfl, q4, ?_, fun k hk => ?_⟩
      · rw [AT.blocks, List.nodup_cons]
        rw [List.nodup_append] at HDD
        refine ⟨fun hm => ?_, ?_⟩
        · rcases List.mem_append.1 hm with hm | hm
          · have := hll _ hm; omega
          · exact nin _ hm rfl
        · rw [List.nodup_append]
          refine ⟨HDD.1, hnd', fun x hx y hy e => ?_⟩
          subst e
          rcases hbl' x hy with h | h
          · exact HDD.2.2 x hx x h rfl
          · have h2 : W2.heap.size ≤ x := h
            have := hll x hx
            omega
      · refine Or.inr ?_
        rcases List.mem_cons.1 hk with rfl | hk
        · omega
        · rcases List.mem_append.1 hk with hm | hm
          · exact KD.out.lb k hm
          · rcases hbl' k hm with h | h
            · exact KD.out.rb k h
            · have h2 : W2.heap.size ≤ k := h
              omega
end Go.Proofs.YtadkeohohehmcaaGreatDoor.Top
end
section
/- A leaf comes into a tree: the whole. -/
namespace Go.Proofs.YtadkeohohehmcaaGreatDoor.Top
open Go.RowKit
set_option linter.unusedVariables false

theorem with_same_un (p v u : List Int) (n : Nat) : U.with p v n (.leaf p u) = .leaf p v := by
  cases n with
  | zero => rw [U.with]
  | succ n => rw [U.with, if_pos rfl]
theorem with_same' (p v u : List Int) (hp : PathOk p) (hv : v.length = 32) (n i kb : Nat) (w : World) (ht : (AT.leaf kb p u).rep w) : Calls Tryz.prog 59 #[.pointer (AT.leaf kb p u).adr, dv (p ++ v), .int .i64 i] w fun e w' => WithPost p v n (.leaf kb p u) w e w' := by
  refine (with_same p v u hp hv n i kb w ht).mono ?_
  rintro e w' ⟨t', h1, h2, h3, h4, h5, h6⟩
  refine ⟨t', h1, h2, ?_, h4, h5, fun b hb => ?_⟩
  · rw [h3, AT.un, AT.un, with_same_un, with_leaf_eq]
  · rcases h6 b hb with h | h
    · cases h
    · exact Or.inr h
/-- '(*smt.knot).with'. -/
theorem with_c (p v : List Int) (hp : PathOk p) (hv : v.length = 32) : ∀ n, WithH p v n
  | 0 => fun t c i w hi hpc hg ht hd => by
    cases t with
    | nil => exact with_nil p v hp hv 0 i w
    | leaf b q u =>
      by_cases e : q = p
      · subst e
        exact with_same' q v u hp hv 0 i b w ht
      · have := U.good_leaf_eq hp hpc hg e
        omega
    | node b l r =>
      have := hg.1
      omega
  | n + 1 => fun t c i w hi hpc hg ht hd => by
    obtain rfl : i = 255 - n := by omega
    cases t with
    | nil => exact with_nil p v hp hv (n + 1) _ w
    | leaf b q u =>
      by_cases e : q = p
      · subst e
        exact with_same' q v u hp hv (n + 1) _ b w ht
      · exact with_split p v q u hp hv hg.1 e n (with_c p v hp hv n) b c w (by omega) hpc hg.2.2 ht
    | node b l r => exact with_node p v hp hv n (with_c p v hp hv n) b l r c w (by omega) hpc hg ht hd
end Go.Proofs.YtadkeohohehmcaaGreatDoor.Top
end
