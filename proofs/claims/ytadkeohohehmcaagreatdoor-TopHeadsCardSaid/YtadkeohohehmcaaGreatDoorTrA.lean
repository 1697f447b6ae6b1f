/- Several texts in one. -/
import Derived.Test.YtadkeohohehmcaaGreatDoorShA
import Derived.Great.Walk
import Derived.Deep.RegionHeld3
import Derived.Laws.IdiomStrings
import Derived.Stop.BytesEq
section
/- A tree's knots: Empty, Leaf, Node; a path's bits. -/
namespace Go.Proofs.YtadkeohohehmcaaGreatDoor.Top
open Go.RowKit Go.Proofs.YtadkeohohehmcaaGreatDoorW.PrintWords Go.Proofs.YtadkeohohehmcaaGreatDoor.PTop
set_option linter.unusedVariables false
set_option linter.unusedSimpArgs false
attribute [local go_sem] Oper.semAt_some

theorem dv_size (d : List Int) : (dv d).cells.size = d.length := by simp [dv, Value.cells]
theorem pair_fill (d e : List Int) (hd : d.length = 32) (he : e.length = 32) : Tryz.prog.builtSlice 31 2 [(0, dv d), (1, dv e)] = some ((d ++ e).map (Value.int .u8)).toArray := by
  obtain ⟨ie, hie, hz, hs⟩ : ∃ ie, Tryz.prog.info? 31 = some ie ∧ ie.zero = some (.agg zD) ∧ ie.size = 32 := by
    have h1 : (Tryz.prog.info? 31).map (fun i => (i.zero, i.size)) = some (some (.agg zD), 32) := by kernel_rfl
    obtain ⟨ie, h2, h3⟩ := Option.map_eq_some_iff.1 h1
    exact ⟨ie, h2, (Prod.mk.inj h3).1, (Prod.mk.inj h3).2⟩
  unfold Program.builtSlice
  simp only [hie, hz, hs]
  rw [if_neg (by omega)]
  have := Great.fill_whole (s := 32) (by omega) [dv d, dv e] ((Array.range (2 * 32)).map ((Value.agg zD).cells[· % (Value.agg zD).cells.size]!)) (fun v hv => by
    rcases List.mem_cons.1 hv with rfl | hv
    · rw [dv_size, hd]
    · obtain rfl := List.mem_singleton.1 hv
      rw [dv_size, he]) (by simp)
  refine Eq.trans this ?_
  simp [dv, Value.cells]
theorem pair_cells {w : World} {b : Nat} {l : List Int} {t : TypeId} {fr : Nat × Nat} (h : w.heap[b]? = some (.cells (l.map (Value.int .u8)).toArray t fr)) (o : Nat) (m : List Int) (hm : ∀ i u, m[i]? = some u → l[o + i]? = some u) : w.rangeAt b o (m.map (Value.int .u8)) := fun i u hi => by
  rw [List.getElem?_map] at hi
  obtain ⟨x, hx, rfl⟩ := Option.map_eq_some_iff.1 hi
  exact cell_in h (by rw [List.getElem?_map, hm i x hx]; rfl)
theorem pair_src {w : World} {b : Nat} {d e : List Int} {t : TypeId} {fr : Nat × Nat} (hd : d.length = 32) (he : e.length = 32) (h : w.heap[b]? = some (.cells ((d ++ e).map (Value.int .u8)).toArray t fr)) : SrcD w (some ⟨b, 0, none⟩) 2 [d, e] b 0 := by
  refine ⟨fun _ => rfl, Nat.le_refl _, fun _ => (Array.getElem?_eq_some_iff.1 h).1, fun j hj => ?_, fun x hx => ?_⟩
  · rcases j with _ | j
    · exact pair_cells h 0 d fun i u hi => by rw [Nat.zero_add, List.getElem?_append_left (List.getElem?_eq_some_iff.1 hi).1]; exact hi
    · obtain rfl : j = 0 := by simp at hj; omega
      exact pair_cells h 32 e fun i u hi => by rw [List.getElem?_append_right (by omega), hd, Nat.add_sub_cancel_left]; exact hi
  · rcases List.mem_cons.1 hx with rfl | hx
    · exact hd
    · obtain rfl := List.mem_singleton.1 hx
      exact he
theorem info89 (l : List Int) (h : l.length = 64) : (Tryz.prog.info? 89).map (·.size) = some (l.map (Value.int .u8)).toArray.size := by rw [List.size_toArray, List.length_map, h]; kernel_rfl
theorem info31l (d : List Int) (h : d.length = 32) : (Tryz.prog.info? 31).map (·.size) = some (d.map (Value.int .u8)).length := by rw [List.length_map, h]; kernel_rfl

theorem wpList_buildPair {ops : Array Oper} {rest : List Oper} {o : Oper} {a : Act} {w : World} {Q : Exit → Act → World → Prop} (hg : o.guard = none) (x y : Operand) (ho : o.op = .buildSlice 183 2 #[(0, x), (1, y)])
    (d e : List Int) (hx : a.eval x = .agg (d.map (Value.int .u8)).toArray) (hy : a.eval y = .agg (e.map (Value.int .u8)).toArray) (cs : Array Value) (hf : Tryz.prog.builtSlice 31 2 [(0, dv d), (1, dv e)] = some cs)
    (h : ∀ W, Below w.heap.size w W → W.heap.size = w.heap.size + 1 → W.heap[w.heap.size]? = some (.cells cs 31 (0, 0)) → wpList Tryz.prog ops Q rest (a.put o.dst (.slice (some ⟨w.heap.size, 0, none⟩) 2 2)) W) : wpList Tryz.prog ops Q (o :: rest) a w := by
  refine Great.wpList_buildSliceTo hg 183 31 2 _ ho w.heap.size rfl o.dst rfl (by kernel_rfl) cs ?_ (h _ ((Below.refl _ w).alloc (Nat.le_refl _) _) (by simp) (blk_new w (.cells cs 31)))
  rw [← hf]
  simp only [List.map_toArray, List.map_cons, List.map_nil, hx, hy]
  rfl
/-- The sums of a tree's three kinds of knots. -/
def emptyF (KS : List Int) : List Int := summedF KS 2 []
def leafF (KS p v : List Int) : List Int := summedF KS 0 [p, v]
def nodeF (KS a b : List Int) : List Int := summedF KS 1 [a, b]
theorem emptyF_len (KS : List Int) : (emptyF KS).length = 32 := summedF_len _ _ _
theorem leafF_len (KS p v : List Int) : (leafF KS p v).length = 32 := summedF_len _ _ _
theorem nodeF_len (KS a b : List Int) : (nodeF KS a b).length = 32 := summedF_len _ _ _

set_option maxHeartbeats 1000000 in
set_option maxRecDepth 100000 in
theorem empty_c (KS : List Int) (w : World) (hk : HKey KS w) : Calls Tryz.prog 79 #[.int .i64 32] w fun e w' => e = .returned (dv (emptyF KS)) ∧ Below w.heap.size w w' := by
  have hw0 := hk.pos
  have hl := emptyF_len KS
  have C0 : Aside0 (∀ W1 : World, Below w.heap.size w W1 → Calls Tryz.prog 95 #[.int .i64 32, .int .u8 2, .slice none 0 0] W1 fun e w' => e = .returned (dv (emptyF KS)) ∧ Below W1.heap.size W1 w') := ⟨fun W1 b1 =>
    summed_c KS 2 none 0 [] 0 0 W1 (hk.below b1 hw0) ⟨fun h => absurd h (by decide), Nat.le_refl _, fun h => absurd h (by decide), fun j h => absurd h (by simp), fun d h => absurd h (by simp)⟩ (by simp)⟩
  clear hk
  generalize emptyF KS = d at *
  go_enter Tryz.func79, Tryz.ntmps79
  go_upto_region 1 with (refine wpList_allocW rfl 31 rfl zD zero31 ?_; intro W1 b1 s1 k1)
  go_wp2_with fail
  refine (C0.out W1 b1).mono ?_
  rintro e W2 ⟨rfl, b2⟩
  have k2 := (b2.block w.heap.size (by omega)).trans k1
  have q2 : Below w.heap.size w W2 := b1.trans (b2.mono (by omega))
  have hi31 := info31 _ hl
  have hz := zD_size _ hl
  have h1c := dig_one d
  clear C0 k1 b2 b1
  unfold dv
  go_wp2_with (refine wpList_store_row rfl 31 (.tmp 2) (.tmp 4) rfl w.heap.size _ rfl rfl 31 _ k2 hi31 hz h1c ?_)
  have hgf := setRow_heap W2 w.heap.size _ (d.map (Value.int .u8)).toArray 31 (0, 0) k2
  refine bodyPost_ret (results_cell_row rfl _ _ w.heap.size 31 _ (0, 0) _ rfl hgf Tryz.underlying31 rfl hi31) rfl ?_
  exact ⟨rfl, below_setRow q2 _ (Nat.le_refl _) _⟩

set_option maxHeartbeats 1000000 in
set_option maxRecDepth 100000 in
theorem leaf_c (KS : List Int) (p v : List Int) (hp : p.length = 32) (hv : v.length = 32) (w : World) (hk : HKey KS w) : Calls Tryz.prog 83 #[.int .i64 32, dv (p ++ v)] w fun e w' => e = .returned (dv (leafF KS p v)) ∧ Below w.heap.size w w' := by
  have hw0 := hk.pos
  have hl := leafF_len KS p v
  have C0 : Aside0 (∀ (W1 : World) (b : Nat), Below w.heap.size w W1 → W1.heap[b]? = some (.cells ((p ++ v).map (Value.int .u8)).toArray 31 (0, 0)) → Calls Tryz.prog 95 #[.int .i64 32, .int .u8 0, .slice (some ⟨b, 0, none⟩) 2 2] W1 fun e w' => e = .returned (dv (leafF KS p v)) ∧ Below W1.heap.size W1 w') := ⟨fun W1 b b1 hb =>
    summed_c KS 0 (some ⟨b, 0, none⟩) 2 [p, v] b 0 W1 (hk.below b1 hw0) (pair_src hp hv hb) (by simp)⟩
  clear hk
  have hi89 := info89 (p ++ v) (by rw [List.length_append, hp, hv])
  have h1p := dig_one (p ++ v)
  have hip := info31l p hp
  have hiv := info31l v hv
  have PF := Aside0.mk (pair_fill p v hp hv)
  have RP : ∀ W : World, W.heap[w.heap.size]? = some (.cells ((p ++ v).map (Value.int .u8)).toArray 89 (0, 0)) → W.rangeAt w.heap.size 0 (p.map (Value.int .u8)) := fun W h => pair_cells h 0 p fun i u hi => by rw [Nat.zero_add, List.getElem?_append_left (List.getElem?_eq_some_iff.1 hi).1]; exact hi
  have RV : ∀ W : World, W.heap[w.heap.size]? = some (.cells ((p ++ v).map (Value.int .u8)).toArray 89 (0, 0)) → W.rangeAt w.heap.size 32 (v.map (Value.int .u8)) := fun W h => pair_cells h 32 v fun i u hi => by rw [List.getElem?_append_right (by omega), hp, Nat.add_sub_cancel_left]; exact hi
  generalize leafF KS p v = d at *
  have PV : Aside0 (dv (p ++ v) = .agg ((p ++ v).map (Value.int .u8)).toArray) := ⟨rfl⟩
  rw [PV.out]
  generalize ((p ++ v).map (Value.int .u8)).toArray = cs at *
  have b0 : Below w.heap.size w (w.alloc (.cells cs 89)) := (Below.refl _ w).alloc (Nat.le_refl _) _
  have s0 : (w.alloc (.cells cs 89)).heap.size = w.heap.size + 1 := by simp
  have k0 := blk_new w (.cells cs 89)
  go_enter Tryz.func83, Tryz.ntmps83
  go_upto_region 1 with (refine wpList_allocW rfl 31 rfl zD zero31 ?_; intro W1 b1 s1 k1)
  have kk := (b1.block w.heap.size (by omega)).trans k0
  have q1 : Below w.heap.size w W1 := b0.trans (b1.mono (by omega))
  rw [s0] at k1 s1
  have RP1 := RP W1 kk
  have RV1 := RV W1 kk
  clear RP RV
  go_wp2_with (first | (refine wpList_load_mid rfl 31 (.tmp 6) rfl w.heap.size 0 rfl _ _ RP1 Tryz.underlying31 rfl hip ?_) | (refine wpList_load_mid rfl 31 (.tmp 8) rfl w.heap.size 32 rfl _ _ RV1 Tryz.underlying31 rfl hiv ?_) | (refine wpList_buildPair rfl (.tmp 7) (.tmp 9) rfl p v rfl rfl cs PF.out ?_; intro W2 b2 s2 k2))
  rw [s1] at k2
  refine (C0.out W2 _ (q1.trans (b2.mono (by omega))) k2).mono ?_
  rintro e W3 ⟨rfl, b3⟩
  have k3 := (b3.block (w.heap.size + 1) (by omega)).trans ((b2.block _ (by omega)).trans k1)
  have q3 : Below w.heap.size w W3 := q1.trans ((b2.mono (by omega)).trans (b3.mono (by omega)))
  have hi31 := info31 _ hl
  have hz := zD_size _ hl
  have h1c := dig_one d
  clear C0 k1 b2 b1 k2 b3 RP1 RV1 kk q1 b0 k0 PF
  unfold dv
  go_wp2_with (refine wpList_store_row rfl 31 (.tmp 4) (.tmp 11) rfl (w.heap.size + 1) _ rfl rfl 31 _ k3 hi31 hz h1c ?_)
  have hgf := setRow_heap W3 (w.heap.size + 1) _ (d.map (Value.int .u8)).toArray 31 (0, 0) k3
  refine bodyPost_ret (results_cell_row rfl _ _ (w.heap.size + 1) 31 _ (0, 0) _ rfl hgf Tryz.underlying31 rfl hi31) rfl ?_
  exact ⟨rfl, below_setRow q3 _ (by omega) _⟩

set_option maxHeartbeats 1000000 in
set_option maxRecDepth 100000 in
theorem node_c (KS : List Int) (p v : List Int) (hp : p.length = 32) (hv : v.length = 32) (w : World) (hk : HKey KS w) : Calls Tryz.prog 82 #[.int .i64 32, dv p, dv v] w fun e w' => e = .returned (dv (nodeF KS p v)) ∧ Below w.heap.size w w' := by
  have hw0 := hk.pos
  have hl := nodeF_len KS p v
  have C0 : Aside0 (∀ (W1 : World) (b : Nat), Below w.heap.size w W1 → W1.heap[b]? = some (.cells ((p ++ v).map (Value.int .u8)).toArray 31 (0, 0)) → Calls Tryz.prog 95 #[.int .i64 32, .int .u8 1, .slice (some ⟨b, 0, none⟩) 2 2] W1 fun e w' => e = .returned (dv (nodeF KS p v)) ∧ Below W1.heap.size W1 w') := ⟨fun W1 b b1 hb =>
    summed_c KS 1 (some ⟨b, 0, none⟩) 2 [p, v] b 0 W1 (hk.below b1 hw0) (pair_src hp hv hb) (by simp)⟩
  clear hk
  have hip := info31 p hp
  have hiv := info31 v hv
  have h1p := dig_one p
  have h1v := dig_one v
  have PF := Aside0.mk (pair_fill p v hp hv)
  generalize nodeF KS p v = d at *
  have PV : Aside0 (dv p = .agg (p.map (Value.int .u8)).toArray ∧ dv v = .agg (v.map (Value.int .u8)).toArray) := ⟨rfl, rfl⟩
  rw [PV.out.1, PV.out.2]
  obtain ⟨ps, hps⟩ : ∃ ps, (p.map (Value.int .u8)).toArray = ps := ⟨_, rfl⟩
  obtain ⟨vs, hvs⟩ : ∃ vs, (v.map (Value.int .u8)).toArray = vs := ⟨_, rfl⟩
  have EP := Aside0.mk hps
  have EV := Aside0.mk hvs
  rw [hps] at hip h1p ⊢
  rw [hvs] at hiv h1v ⊢
  clear hps hvs PV
  generalize ((p ++ v).map (Value.int .u8)).toArray = cs at *
  have b0 : Below w.heap.size w ((w.alloc (.cells ps 31)).alloc (.cells vs 31)) := ((Below.refl _ w).alloc (Nat.le_refl _) _).alloc (by simp) _
  have s0 : ((w.alloc (.cells ps 31)).alloc (.cells vs 31)).heap.size = w.heap.size + 2 := by simp
  have k0 := blk_alloc (blk_new w (.cells ps 31)) (.cells vs 31)
  have k0' : ((w.alloc (.cells ps 31)).alloc (.cells vs 31)).heap[w.heap.size + 1]? = some (.cells vs 31 (0, 0)) := by simpa using blk_new (w.alloc (.cells ps 31)) (.cells vs 31)
  go_enter Tryz.func82, Tryz.ntmps82
  go_upto_region 1 with (refine wpList_allocW rfl 31 rfl zD zero31 ?_; intro W1 b1 s1 k1)
  have kk := (b1.block w.heap.size (by omega)).trans k0
  have kk' := (b1.block (w.heap.size + 1) (by omega)).trans k0'
  have q1 : Below w.heap.size w W1 := b0.trans (b1.mono (by omega))
  rw [s0] at k1 s1
  go_wp2_with (first | (refine wpList_load_row rfl 31 (.tmp 4) rfl w.heap.size rfl 31 _ (0, 0) _ kk Tryz.underlying31 rfl hip ?_) | (refine wpList_load_row rfl 31 (.tmp 5) rfl (w.heap.size + 1) rfl 31 _ (0, 0) _ kk' Tryz.underlying31 rfl hiv ?_) | (refine wpList_buildPair rfl (.tmp 8) (.tmp 9) rfl p v (by rw [EP.out]; rfl) (by rw [EV.out]; rfl) cs PF.out ?_; intro W2 b2 s2 k2))
  rw [s1] at k2
  refine (C0.out W2 _ (q1.trans (b2.mono (by omega))) k2).mono ?_
  rintro e W3 ⟨rfl, b3⟩
  have k3 := (b3.block (w.heap.size + 2) (by omega)).trans ((b2.block _ (by omega)).trans k1)
  have q3 : Below w.heap.size w W3 := q1.trans ((b2.mono (by omega)).trans (b3.mono (by omega)))
  have hi31 := info31 _ hl
  have hz := zD_size _ hl
  have h1c := dig_one d
  clear C0 k1 b2 b1 k2 b3 kk q1 b0 k0 PF kk' k0'
  unfold dv
  go_wp2_with (refine wpList_store_row rfl 31 (.tmp 6) (.tmp 11) rfl (w.heap.size + 2) _ rfl rfl 31 _ k3 hi31 hz h1c ?_)
  have hgf := setRow_heap W3 (w.heap.size + 2) _ (d.map (Value.int .u8)).toArray 31 (0, 0) k3
  refine bodyPost_ret (results_cell_row rfl _ _ (w.heap.size + 2) 31 _ (0, 0) _ rfl hgf Tryz.underlying31 rfl hi31) rfl ?_
  exact ⟨rfl, below_setRow q3 _ (by omega) _⟩
end Go.Proofs.YtadkeohohehmcaaGreatDoor.Top
end
section
/- A path's bits; the path of a name. -/
namespace Go.Proofs.YtadkeohohehmcaaGreatDoor.Top
open Go.RowKit Go.Proofs.YtadkeohohehmcaaGreatDoorW.PrintWords Go.Proofs.YtadkeohohehmcaaGreatDoorW.PrintLast Go.Proofs.YtadkeohohehmcaaGreatDoorW.PrintMore Go.Proofs.YtadkeohohehmcaaGreatDoor.PTop
set_option linter.unusedVariables false
set_option linter.unusedSimpArgs false
attribute [local go_sem] Oper.semAt_some

/-- A path's bit. -/
def maskF (i : Nat) : Int := 2 ^ (7 - i % 8)
def bitB (p : List Int) (i : Nat) : Bool := if i < 256 then decide (bits .and .u8 p[i / 8]! (maskF i) ≠ 0) else false
def bitV (p : List Int) (i : Nat) : Int := if bitB p i then 1 else 0
theorem mask_c (i : Nat) (hi : i < 256) (w : World) : Calls Tryz.prog 111 #[.int .i64 i] w fun e w' => e = .returned (.int .u8 (maskF i)) ∧ Drawn0 w w' := path_mask.calls i (maskF i) w (by
  unfold path_mask.f maskF
  have h1 : wrap64 (7 - (i : Int).tmod 8) = ((7 - i % 8 : Nat) : Int) := by
    rw [Int.tmod_eq_emod_of_nonneg (by omega)]
    unfold wrap64
    omega
  rw [h1, if_pos (by omega)]
  have h2 : i % 8 < 8 := Nat.mod_lt _ (by decide)
  generalize i % 8 = k at h2
  rcases k with _ | _ | _ | _ | _ | _ | _ | _ | k
  all_goals first | rfl | omega)
set_option maxHeartbeats 1000000 in
set_option maxRecDepth 100000 in
theorem bit_c (p : List Int) (hp : p.length = 32) (i : Nat) (w : World) : Calls Tryz.prog 94 #[dv p, .int .i64 i] w fun e w' => (∃ er : Int, e = .returned (.tuple #[.int .i64 (bitV p i), .int .i64 er])) ∧ Below w.heap.size w w' := by
  have hi31 := info31 p hp
  have h1p := dig_one p
  unfold dv
  obtain ⟨ps, hps⟩ : ∃ ps, (p.map (Value.int .u8)).toArray = ps := ⟨_, rfl⟩
  have EP := Aside0.mk hps
  rw [hps] at hi31 h1p ⊢
  clear hps
  have b0 : Below w.heap.size w (w.alloc (.cells ps 31)) := (Below.refl _ w).alloc (Nat.le_refl _) _
  have k0 := blk_new w (.cells ps 31)
  by_cases hlt : i < 256
  · have hltz : ¬ (256 : Int) ≤ (i : Int) := by omega
    have hlt0 : ¬ (i : Int) < 0 := by omega
    have c0 : (w.alloc (.cells ps 31)).cell? ⟨w.heap.size, i / 8, none⟩ = some (.int .u8 p[i / 8]!) := by
      rw [← EP.out] at k0 ⊢
      refine cell_in k0 ?_
      rw [List.getElem?_map, List.getElem?_eq_getElem (by omega), getElem!_pos p (i / 8) (by omega)]
      rfl
    have hdiv : (i : Int).tdiv 8 = ((i / 8 : Nat) : Int) := by rw [Int.tdiv_eq_ediv_of_nonneg (by omega)]; omega
    have BB : Aside0 (bitB p i = decide (bits .and .u8 p[i / 8]! (maskF i) ≠ 0)) := ⟨by unfold bitB; rw [if_pos hlt]⟩
    have M := fun w => mask_c i hlt w
    have hw8 : IntKind.i64.wrap ((i / 8 : Nat) : Int) = ((i / 8 : Nat) : Int) := (i64_w _).trans (by unfold wrap64; omega)
    have hb80 : 0 ≤ ((i / 8 : Nat) : Int) := by omega
    have hb81 : ((i / 8 : Nat) : Int) < 32 := by omega
    have hb82 : ((i / 8 : Nat) : Int).toNat = i / 8 := by omega
    have hb83 : ((i / 8 : Nat)) < 32 := by omega
    generalize i / 8 = j at *
    generalize p[j]! = z at *
    generalize maskF i = m at *
    go_enter Tryz.func94, Tryz.ntmps94
    go_upto_region 3 with fail
    go_region_held3 (fun W => W.cell? ⟨w.heap.size, j, none⟩ = some (.int .u8 z) ∧ Below w.heap.size w W) (first | exact ⟨c0, b0.drew⟩ | exact ⟨(hd.below.cell (by simp)).trans c0, b0.drew.trans (hd.below.mono (by simp))⟩)
      (first | (go_at_call 111; refine (M _).mono ?_; rintro e w' ⟨rfl, hd⟩))
    rename_i hHeld
    have hB := hHeld.2
    clear hHeld
    by_cases hz : bits .and .u8 z m = 0
    · have bb : bitV p i = 0 := by rw [bitV, BB.out]; simp [hz]
      have hz2 : (bits .and .u8 z m != 0) = false := by simp [hz]
      rw [hz2]
      go_wp2
      refine bodyPost_ret (results_tmp2 rfl _ _ _) rfl ?_
      first | exact ⟨⟨_, rfl⟩, hB⟩ | exact ⟨⟨0, by rw [bb]; rfl⟩, hB⟩
    · have bb : bitV p i = 1 := by rw [bitV, BB.out]; simp [hz]
      have hz2 : (bits .and .u8 z m != 0) = true := by simp [hz]
      rw [hz2]
      go_wp2
      refine bodyPost_ret (results_tmp2 rfl _ _ _) rfl ?_
      first | exact ⟨⟨_, rfl⟩, hB⟩ | exact ⟨⟨0, by rw [bb]; rfl⟩, hB⟩
  · have hltz : (256 : Int) ≤ (i : Int) := by omega
    have hlt0 : ¬ (i : Int) < 0 := by omega
    have bb : bitV p i = 0 := by unfold bitV bitB; rw [if_neg hlt]; rfl
    rw [bb]
    go_enter Tryz.func94, Tryz.ntmps94
    go_wp2
    refine bodyPost_ret (results_tmp2 rfl _ _ _) rfl ?_
    exact ⟨⟨_, rfl⟩, b0⟩

set_option maxHeartbeats 1000000 in
set_option maxRecDepth 100000 in
theorem right_c (p : List Int) (hp : p.length = 32) (i : Nat) (w : World) : Calls Tryz.prog 78 #[dv p, .int .i64 i] w fun e w' => e = .returned (.bool (bitB p i)) ∧ Below w.heap.size w w' := by
  have hi31 := info31 p hp
  have h1p := dig_one p
  have B := Aside0.mk (bit_c p hp i)
  unfold dv at B ⊢
  obtain ⟨ps, hps⟩ : ∃ ps, (p.map (Value.int .u8)).toArray = ps := ⟨_, rfl⟩
  rw [hps] at hi31 h1p B ⊢
  clear hps
  have b0 : Below w.heap.size w (w.alloc (.cells ps 31)) := (Below.refl _ w).alloc (Nat.le_refl _) _
  have k0 := blk_new w (.cells ps 31)
  have kk : (w.alloc (.cells ps 31)).heap[w.heap.size]? = some (.cells ps 31 (0, 0)) := k0
  unfold bitV at B
  generalize bitB p i = q at *
  go_enter Tryz.func78, Tryz.ntmps78
  go_wp2_with (refine wpList_load_row rfl 31 (.tmp 2) rfl w.heap.size rfl 31 _ (0, 0) _ kk Tryz.underlying31 rfl hi31 ?_)
  refine (B.out _).mono ?_
  rintro e W1 ⟨⟨er, rfl⟩, b1⟩
  have q1 : Below w.heap.size w W1 := b0.trans (b1.mono (by simp))
  cases q
  · go_wp2
    go_ret
    exact ⟨rfl, q1⟩
  · go_wp2
    go_ret
    exact ⟨rfl, q1⟩
end Go.Proofs.YtadkeohohehmcaaGreatDoor.Top
end
section
/- The path of a name. -/
namespace Go.Proofs.YtadkeohohehmcaaGreatDoor.Top
open Go.RowKit Go.Proofs.YtadkeohohehmcaaGreatDoorW.PrintWords Go.Proofs.YtadkeohohehmcaaGreatDoorW.PrintLast Go.Proofs.YtadkeohohehmcaaGreatDoorW.PrintMore Go.Proofs.YtadkeohohehmcaaGreatDoor.PTop
set_option linter.unusedVariables false
set_option linter.unusedSimpArgs false
attribute [local go_sem] Oper.semAt_some

/-- A string's bytes. -/
def sbs (s : ByteArray) : List Int := s.data.toList.map fun x => (x.toNat : Int)
def pathF (KS : List Int) (s : ByteArray) : List Int := shaF KS (sbs s)
theorem pathF_len (KS : List Int) (s : ByteArray) : (pathF KS s).length = 32 := shaF_len _ _
theorem pathF_byte (KS : List Int) (s : ByteArray) (x : Int) (h : x ∈ pathF KS s) : 0 ≤ x ∧ x < 256 := shaF_byte KS _ x h
theorem sbs_len (s : ByteArray) : (sbs s).length = s.size := by
  simp only [sbs, List.length_map, Array.length_toList]
  rfl

set_option maxHeartbeats 1000000 in
set_option maxRecDepth 100000 in
theorem of_c (KS : List Int) (s : ByteArray) (hn : s.size < 1000000000) (w : World) (hk : HKey KS w) : Calls Tryz.prog 38 #[.string s] w fun e w' => e = .returned (dv (pathF KS s)) ∧ Below w.heap.size w w' := by
  have hw0 := hk.pos
  have hl := pathF_len KS s
  have C0 : Aside0 (∀ (b cap : Nat) (fr : Nat × Nat) (W2 : World), Below w.heap.size w W2 → s.size ≤ cap → W2.heap[b]? = some (.cells (bytesRow s cap) 5 fr) → Calls Tryz.prog 22 #[.slice (some ⟨b, 0, none⟩) s.size cap] W2 fun e w' => e = .returned (dv (pathF KS s)) ∧ Below W2.heap.size W2 w') := ⟨fun b cap fr W2 q2 hcap k2 => by
    have := sha_c KS (some ⟨b, 0, none⟩) cap (sbs s) b 0 W2 (hk.below q2 hw0) ⟨fun _ => rfl, by rw [sbs_len]; exact hcap, fun _ => by
      have := (Array.getElem?_eq_some_iff.1 k2).1
      omega, fun j hj => by
        rw [sbs_len] at hj
        have hj2 : j < s.data.size := hj
        simp only [World.cell?, k2]
        unfold bytesRow
        rw [Nat.zero_add, Array.getElem?_append_left (by simpa using hj2)]
        have e : s.data[j]? = some s.data[j] := Array.getElem?_eq_getElem hj2
        simp [sbs, e]⟩ (by rw [sbs_len]; omega)
    rwa [sbs_len] at this⟩
  generalize pathF KS s = d at *
  clear hk
  go_enter Tryz.func38, Tryz.ntmps38
  go_upto_region 1 with (refine wpList_allocW rfl 31 rfl zD zero31 ?_; intro W1 b1 s1 k1)
  obtain ⟨cap, W2, hcv, hcap, b2, k2⟩ : ∃ (cap : Nat) (W2 : World), (convert 9 57 (.string s)).run Tryz.prog W1 = .ok (.slice (some ⟨W1.heap.size, 0, none⟩) s.size cap) W2 ∧ s.size ≤ cap ∧ Below W1.heap.size W1 W2 ∧
      ∃ fr, W2.heap[W1.heap.size]? = some (.cells (bytesRow s cap) 5 fr) := by
    refine ⟨_, _, run_bytes_of_string W1 9 57 5 s Tryz.underlying9 Tryz.underlying57 Tryz.underlying5, ?_, (Below.refl _ W1).drew.alloc (by simp) _, ?_⟩
    · exact grownCap_ge _ _ _ _
    · exact ⟨_, by simpa using blk_new W1.drew _⟩
  obtain ⟨fr, k2⟩ := k2
  have q2 : Below w.heap.size w W2 := b1.trans (b2.mono (by omega))
  have kk := (b2.block w.heap.size (by omega)).trans k1
  have s2 : w.heap.size < W2.heap.size := (Array.getElem?_eq_some_iff.1 kk).1
  have C1 := Aside0.mk (C0.out _ cap fr W2 q2 hcap k2)
  rw [s1] at hcv C1
  clear k1 k2 b2 b1 C0
  go_wp2_with fail
  refine C1.out.mono ?_
  rintro e W3 ⟨rfl, b3⟩
  have k3 := (b3.block w.heap.size s2).trans kk
  have q3 : Below w.heap.size w W3 := q2.trans (b3.mono (by omega))
  have hi31 := info31 _ hl
  have hz := zD_size _ hl
  have h1c := dig_one d
  clear C1 hcv b3 kk
  unfold dv
  go_wp2_with (refine wpList_store_row rfl 31 (.tmp 2) (.tmp 5) rfl w.heap.size _ rfl rfl 31 _ k3 hi31 hz h1c ?_)
  have hgf := setRow_heap W3 w.heap.size _ (d.map (Value.int .u8)).toArray 31 (0, 0) k3
  refine bodyPost_ret (results_cell_row rfl _ _ w.heap.size 31 _ (0, 0) _ rfl hgf Tryz.underlying31 rfl hi31) rfl ?_
  exact ⟨rfl, below_setRow q3 _ (Nat.le_refl _) _⟩
end Go.Proofs.YtadkeohohehmcaaGreatDoor.Top
end
section
/- Trees in plain Lean. -/
namespace Go.Proofs.YtadkeohohehmcaaGreatDoor.Top
open Go.RowKit
set_option linter.unusedVariables false

/-- A byte's bit. -/
def byteBit (a : Int) (t : Nat) : Bool := decide (bits .and .u8 a (2 ^ (7 - t)) ≠ 0)
def byteOf (f : Nat → Bool) : Int := (if f 0 then 128 else 0) + (if f 1 then 64 else 0) + (if f 2 then 32 else 0) + (if f 3 then 16 else 0) + (if f 4 then 8 else 0) + (if f 5 then 4 else 0) + (if f 6 then 2 else 0) + (if f 7 then 1 else 0)
theorem byteOf_bit : ∀ a : Fin 256, byteOf (byteBit ((a.val : Nat) : Int)) = ((a.val : Nat) : Int) := by decide +kernel
theorem byte_inj (a b : Int) (ha : 0 ≤ a ∧ a < 256) (hb : 0 ≤ b ∧ b < 256) (h : ∀ t, t < 8 → byteBit a t = byteBit b t) : a = b := by
  obtain ⟨m, rfl⟩ := Int.eq_ofNat_of_zero_le ha.1
  obtain ⟨n, rfl⟩ := Int.eq_ofNat_of_zero_le hb.1
  have h1 := byteOf_bit ⟨m, by omega⟩
  have h2 := byteOf_bit ⟨n, by omega⟩
  simp only at h1 h2
  rw [← h1, ← h2]
  unfold byteOf
  rw [h 0 (by decide), h 1 (by decide), h 2 (by decide), h 3 (by decide), h 4 (by decide), h 5 (by decide), h 6 (by decide), h 7 (by decide)]
theorem bitB_byte (p : List Int) (k t : Nat) (hk : k < 32) (ht : t < 8) : bitB p (8 * k + t) = byteBit p[k]! t := by
  unfold bitB byteBit maskF
  rw [if_pos (by omega)]
  have h1 : (8 * k + t) / 8 = k := by omega
  have h2 : (8 * k + t) % 8 = t := by omega
  rw [h1, h2]
/-- A path: 32 bytes. -/
structure PathOk (p : List Int) : Prop where
  len : p.length = 32
  byte : ∀ x ∈ p, 0 ≤ x ∧ x < 256
theorem path_inj {p q : List Int} (hp : PathOk p) (hq : PathOk q) (h : ∀ j, j < 256 → bitB p j = bitB q j) : p = q := by
  apply List.ext_getElem (by rw [hp.len, hq.len])
  intro k h1 h2
  have hk : k < 32 := by rw [← hp.len]; exact h1
  have e1 : p[k] = p[k]! := (getElem!_pos p k h1).symm
  have e2 : q[k] = q[k]! := (getElem!_pos q k h2).symm
  have b1 := hp.byte p[k] (List.getElem_mem h1)
  have b2 := hq.byte q[k] (List.getElem_mem h2)
  refine byte_inj _ _ b1 b2 fun t ht => ?_
  rw [e1, e2, ← bitB_byte p k t hk ht, ← bitB_byte q k t hk ht]
  exact h _ (by omega)

inductive U where
  | nil
  | leaf (p v : List Int)
  | node (l r : U)
/-- A leaf comes in, n bits above the ground. -/
def U.with (p v : List Int) : Nat → U → U
  | 0, _ => .leaf p v
  | n + 1, .nil => .leaf p v
  | n + 1, .leaf q u => if q = p then .leaf p v else
      if bitB q (255 - n) then (if bitB p (255 - n) then .node .nil (U.with p v n (.leaf q u)) else .node (U.with p v n .nil) (.leaf q u))
      else (if bitB p (255 - n) then .node (.leaf q u) (U.with p v n .nil) else .node (U.with p v n (.leaf q u)) .nil)
  | n + 1, .node l r => if bitB p (255 - n) then .node l (U.with p v n r) else .node (U.with p v n l) r
def U.dig (KS : List Int) : U → List Int
  | .nil => emptyF KS
  | .leaf p v => leafF KS p v
  | .node l r => nodeF KS (U.dig KS l) (U.dig KS r)
theorem U.dig_len (KS : List Int) : ∀ t : U, (t.dig KS).length = 32
  | .nil => emptyF_len _
  | .leaf _ _ => leafF_len _ _ _
  | .node _ _ => nodeF_len _ _ _
def updC (c : Nat → Bool) (i : Nat) (b : Bool) : Nat → Bool := fun j => if j = i then b else c j
/-- At depth i all leaves agree with c on the bits above. -/
def U.good (c : Nat → Bool) : Nat → U → Prop
  | _, .nil => True
  | i, .leaf q u => PathOk q ∧ u.length = 32 ∧ ∀ j, j < i → bitB q j = c j
  | i, .node l r => i < 256 ∧ (l ≠ .nil ∨ r ≠ .nil) ∧ U.good (updC c i false) (i + 1) l ∧ U.good (updC c i true) (i + 1) r
theorem U.good_congr : ∀ (t : U) (c c' : Nat → Bool) (i : Nat), (∀ j, j < i → c j = c' j) → U.good c i t → U.good c' i t
  | .nil, _, _, _, _, _ => trivial
  | .leaf q u, c, c', i, hc, h => ⟨h.1, h.2.1, fun j hj => (h.2.2 j hj).trans (hc j hj)⟩
  | .node l r, c, c', i, hc, h => by
    have e : ∀ b j, j < i + 1 → updC c i b j = updC c' i b j := fun b j hj => by
      unfold updC
      by_cases h : j = i
      · rw [if_pos h, if_pos h]
      · rw [if_neg h, if_neg h]
        exact hc j (by omega)
    exact ⟨h.1, h.2.1, U.good_congr l _ _ _ (e false) h.2.2.1, U.good_congr r _ _ _ (e true) h.2.2.2⟩
theorem U.good_step {p : List Int} {c : Nat → Bool} {i : Nat} (h : ∀ j, j < i → bitB p j = c j) : ∀ j, j < i + 1 → bitB p j = updC c i (bitB p i) j := fun j hj => by
  unfold updC
  by_cases e : j = i
  · rw [if_pos e, e]
  · rw [if_neg e]
    exact h j (by omega)
theorem U.with_ne (p v : List Int) : ∀ (n : Nat) (t : U), U.with p v n t ≠ .nil
  | 0, _ => by rw [U.with]; intro h; cases h
  | n + 1, .nil => by rw [U.with]; intro h; cases h
  | n + 1, .leaf q u => by
    rw [U.with]
    repeat' split
    all_goals (intro h; cases h)
  | n + 1, .node l r => by
    rw [U.with]
    split
    all_goals (intro h; cases h)
theorem U.good_leaf_eq {c : Nat → Bool} {p q u : List Int} {i : Nat} (hp : PathOk p) (hpc : ∀ j, j < i → bitB p j = c j) (hg : U.good c i (.leaf q u)) (hne : q ≠ p) : i < 256 := by
  refine Decidable.byContradiction fun h => hne ?_
  exact path_inj hg.1 hp fun j hj => (hg.2.2 j (by omega)).trans (hpc j (by omega)).symm
theorem U.good_with (p v : List Int) (hp : PathOk p) (hv : v.length = 32) : ∀ (n : Nat) (t : U) (c : Nat → Bool) (i : Nat), i + n = 256 → (∀ j, j < i → bitB p j = c j) → U.good c i t → U.good c i (U.with p v n t)
  | 0, t, c, i, hi, hpc, hg => by
    rw [U.with]
    exact ⟨hp, hv, hpc⟩
  | n + 1, .nil, c, i, hi, hpc, hg => by
    rw [U.with]
    exact ⟨hp, hv, hpc⟩
  | n + 1, .leaf q u, c, i, hi, hpc, hg => by
    obtain rfl : i = 255 - n := by omega
    have hqc := U.good_step hg.2.2
    have hpc' := U.good_step hpc
    rw [U.with]
    by_cases e : q = p
    · rw [if_pos e]
      exact ⟨hp, hv, hpc⟩
    · rw [if_neg e]
      cases hq : bitB q (255 - n) <;> cases hb : bitB p (255 - n) <;> rw [hq] at hqc <;> rw [hb] at hpc'
      · exact ⟨by omega, Or.inl (U.with_ne _ _ _ _), U.good_with p v hp hv n _ _ _ (by omega) hpc' ⟨hg.1, hg.2.1, hqc⟩, trivial⟩
      · exact ⟨by omega, Or.inr (U.with_ne _ _ _ _), ⟨hg.1, hg.2.1, hqc⟩, U.good_with p v hp hv n _ _ _ (by omega) hpc' trivial⟩
      · exact ⟨by omega, Or.inl (U.with_ne _ _ _ _), U.good_with p v hp hv n _ _ _ (by omega) hpc' trivial, ⟨hg.1, hg.2.1, hqc⟩⟩
      · exact ⟨by omega, Or.inr (U.with_ne _ _ _ _), trivial, U.good_with p v hp hv n _ _ _ (by omega) hpc' ⟨hg.1, hg.2.1, hqc⟩⟩
  | n + 1, .node l r, c, i, hi, hpc, hg => by
    obtain rfl : i = 255 - n := by omega
    have hpc' := U.good_step hpc
    rw [U.with]
    cases hb : bitB p (255 - n) <;> rw [hb] at hpc'
    · exact ⟨hg.1, Or.inl (U.with_ne _ _ _ _), U.good_with p v hp hv n _ _ _ (by omega) hpc' hg.2.2.1, hg.2.2.2⟩
    · exact ⟨hg.1, Or.inr (U.with_ne _ _ _ _), hg.2.2.1, U.good_with p v hp hv n _ _ _ (by omega) hpc' hg.2.2.2⟩
end Go.Proofs.YtadkeohohehmcaaGreatDoor.Top
end
section
/- Knots in memory. -/
namespace Go.Proofs.YtadkeohohehmcaaGreatDoor.Top
open Go.RowKit Go.Proofs.YtadkeohohehmcaaGreatDoorW.PrintWords Go.Proofs.YtadkeohohehmcaaGreatDoorW.PrintLast Go.Proofs.YtadkeohohehmcaaGreatDoorW.PrintMore Go.Proofs.YtadkeohohehmcaaGreatDoor.PTop
set_option linter.unusedVariables false
set_option linter.unusedSimpArgs false
attribute [local go_sem] Oper.semAt_some

/-- A tree with its knots' blocks. -/
inductive AT where
  | nil
  | leaf (b : Nat) (p v : List Int)
  | node (b : Nat) (l r : AT)
def AT.adr : AT → Option Addr
  | .nil => none
  | .leaf b _ _ => some ⟨b, 0, none⟩
  | .node b _ _ => some ⟨b, 0, none⟩
def AT.un : AT → U
  | .nil => .nil
  | .leaf _ p v => .leaf p v
  | .node _ l r => .node l.un r.un
def AT.blocks : AT → List Nat
  | .nil => []
  | .leaf b _ _ => [b]
  | .node b l r => b :: (l.blocks ++ r.blocks)
def z32i : List Int := List.replicate 32 0
/-- A knot whose digest is not made. -/
def kn (p v : List Int) (l r : Value) : List Value := [.int .u32 0, .int .i32 0, .int .u32 0] ++ z32i.map (Value.int .u8) ++ (p ++ v).map (Value.int .u8) ++ [l, r]
def AT.rep (w : World) : AT → Prop
  | .nil => True
  | .leaf b p v => p.length = 32 ∧ v.length = 32 ∧ w.heap[b]? = some (.cells (kn p v (.pointer none) (.pointer none)).toArray 152 (0, 0))
  | .node b l r => (l.adr.isSome = true ∨ r.adr.isSome = true) ∧ w.heap[b]? = some (.cells (kn z32i z32i (.pointer l.adr) (.pointer r.adr)).toArray 152 (0, 0)) ∧ l.rep w ∧ r.rep w
theorem kn_len (p v : List Int) (l r : Value) (hp : p.length = 32) (hv : v.length = 32) : (kn p v l r).length = 101 := by simp [kn, hp, hv, z32i]
theorem kn_left (p v : List Int) (l r : Value) (hp : p.length = 32) (hv : v.length = 32) : (kn p v l r)[99]? = some l := by
  unfold kn
  rw [List.getElem?_append_right (by simp [hp, hv, z32i])]
  simp [hp, hv, z32i]
theorem kn_right (p v : List Int) (l r : Value) (hp : p.length = 32) (hv : v.length = 32) : (kn p v l r)[100]? = some r := by
  unfold kn
  rw [List.getElem?_append_right (by simp [hp, hv, z32i])]
  simp [hp, hv, z32i]
theorem kn_at (p v : List Int) (l r : Value) (i : Nat) (u : Int) (h : (p ++ v)[i]? = some u) : (kn p v l r)[35 + i]? = some (.int .u8 u) := by
  unfold kn
  have hi := (List.getElem?_eq_some_iff.1 h).1
  rw [List.getElem?_append_left (by simp [z32i] at hi ⊢; omega), List.getElem?_append_right (by simp [z32i])]
  rw [List.getElem?_map, show 35 + i - ([Value.int .u32 0, .int .i32 0, .int .u32 0] ++ z32i.map (Value.int .u8)).length = i by simp [z32i], h]
  rfl
theorem kn_range {w : World} {b : Nat} {p v : List Int} {l r : Value} {fr : Nat × Nat} (h : w.heap[b]? = some (.cells (kn p v l r).toArray 152 fr)) (o : Nat) (m : List Int) (hm : ∀ i u, m[i]? = some u → (p ++ v)[o + i]? = some u) : w.rangeAt b (35 + o) (m.map (Value.int .u8)) := fun i u hi => by
  rw [List.getElem?_map] at hi
  obtain ⟨x, hx, rfl⟩ := Option.map_eq_some_iff.1 hi
  exact cell_in h (by rw [Nat.add_assoc]; exact kn_at _ _ _ _ _ _ (hm i x hx))

set_option maxHeartbeats 1000000 in
set_option maxRecDepth 100000 in
theorem inner_nil (w : World) : Calls Tryz.prog 77 #[.pointer none] w fun e w' => e = .returned (.bool false) ∧ w' = w := by
  go_enter Tryz.func77, Tryz.ntmps77
  go_wp2
  go_ret
  exact ⟨rfl, rfl⟩
set_option maxHeartbeats 1000000 in
set_option maxRecDepth 100000 in
theorem inner_knot (b : Nat) (x y : Option Addr) (w : World) (hx : w.cell? ⟨b, 99, none⟩ = some (.pointer x)) (hy : w.cell? ⟨b, 100, none⟩ = some (.pointer y)) : Calls Tryz.prog 77 #[.pointer (some ⟨b, 0, none⟩)] w fun e w' => e = .returned (.bool (x.isSome || y.isSome)) ∧ w' = w := by
  cases x <;> cases y
  all_goals
    go_enter Tryz.func77, Tryz.ntmps77
    go_wp2
    go_ret
    exact ⟨rfl, rfl⟩
def AT.isNode : AT → Bool
  | .node _ _ _ => true
  | _ => false
theorem inner_c (t : AT) (w : World) (h : t.rep w) : Calls Tryz.prog 77 #[.pointer t.adr] w fun e w' => e = .returned (.bool t.isNode) ∧ w' = w := by
  cases t with
  | nil => exact inner_nil w
  | leaf b p v => exact inner_knot b none none w (cell_in h.2.2 (kn_left _ _ _ _ h.1 h.2.1)) (cell_in h.2.2 (kn_right _ _ _ _ h.1 h.2.1))
  | node b l r =>
    have := inner_knot b l.adr r.adr w (cell_in h.2.1 (kn_left _ _ _ _ rfl rfl)) (cell_in h.2.1 (kn_right _ _ _ _ rfl rfl))
    have e : (l.adr.isSome || r.adr.isSome) = true := by rcases h.1 with h1 | h1 <;> simp [h1]
    rw [e] at this
    exact this
end Go.Proofs.YtadkeohohehmcaaGreatDoor.Top
end
section
/- Digests are compared. -/
namespace Go.Proofs.YtadkeohohehmcaaGreatDoor.Top
open Go.RowKit
set_option linter.unusedVariables false

def ubs (p : List Int) : List UInt8 := p.map fun x => UInt8.ofNat x.toNat
theorem ubs_cells (p : List Int) (h : ∀ x ∈ p, 0 ≤ x ∧ x < 256) : (ubs p).map Extern.Stop.cell = p.map (Value.int .u8) := by
  unfold ubs
  rw [List.map_map]
  refine List.map_congr_left fun x hx => ?_
  have := h x hx
  simp only [Function.comp_apply, Extern.Stop.cell]
  congr 1
  rw [UInt8.toNat_ofNat', Nat.mod_eq_of_lt (by omega)]
  exact Int.toNat_of_nonneg this.1
theorem ubs_inj (p q : List Int) (hp : ∀ x ∈ p, 0 ≤ x ∧ x < 256) (hq : ∀ x ∈ q, 0 ≤ x ∧ x < 256) : (ubs p == ubs q) = decide (p = q) := by
  rw [Bool.eq_iff_iff]
  simp only [beq_iff_eq, decide_eq_true_eq]
  constructor
  · intro h
    have h2 : (ubs p).map Extern.Stop.cell = (ubs q).map Extern.Stop.cell := by rw [h]
    rw [ubs_cells p hp, ubs_cells q hq] at h2
    exact (List.map_inj_right (fun a b e => by injection e)).1 h2
  · rintro rfl
    rfl
theorem run_eq_dv (p q : List Int) (hp : PathOk p) (hq : PathOk q) (w : World) : (binOp .eql 31 (.agg (p.map (Value.int .u8)).toArray) (.agg (q.map (Value.int .u8)).toArray)).run Tryz.prog w = .ok (.bool (decide (p = q))) w := by
  have := run_eql_bytes (P := Tryz.prog) w 31 5 32 (by kernel_rfl) (by kernel_rfl) (fun w => by kernel_rfl) (ubs p) (ubs q) (by simp [ubs, hp.len]) (by simp [ubs, hq.len])
  rw [ubs_cells p hp.byte, ubs_cells q hq.byte, ubs_inj p q hp.byte hq.byte] at this
  exact this
theorem run_guard_gen (P : Program) (op : BinOp) (hop : op = .eql ∨ op = .neq) (t : TypeId) (x y : Operand) (a b : Array Value) (w : World) (h : P.eqGuardType P.depth t = false) : (eqGuard op t x y (.agg a) (.agg b)).run P w = .ok () w := by
  unfold eqGuard
  have hp : ∀ w, (Sem.program Sem.pure).run P w = .ok P w := fun _ => rfl
  rcases hop with rfl | rfl <;> simp [h, program, hp]
theorem run_guard_dv (op : BinOp) (hop : op = .eql ∨ op = .neq) (x y : Operand) (a b : Array Value) (w : World) : (eqGuard op 31 x y (.agg a) (.agg b)).run Tryz.prog w = .ok () w := run_guard_gen _ op hop _ x y a b w (by kernel_rfl)
theorem run_ne_gen (P : Program) (t : TypeId) (a b : Array Value) (w : World) (r : Bool) (h1 : (binOp .eql t (.agg a) (.agg b)).run P w = .ok (.bool r) w) : (binOp .neq t (.agg a) (.agg b)).run P w = .ok (.bool (!r)) w := by
  rw [run_eql_struct] at h1
  rw [run_neq_struct]
  cases he : (Op.equalIn 10000 t (.agg a) (.agg b)).run P w with
  | ok b w' =>
    rw [he] at h1
    simp only [Result.andThen] at h1 ⊢
    injection h1 with h1 h2
    injection h1 with h1
    subst h1 h2
    rfl
  | _ =>
    rw [he] at h1
    cases h1
theorem run_ne_dv (p q : List Int) (hp : PathOk p) (hq : PathOk q) (w : World) : (binOp .neq 31 (.agg (p.map (Value.int .u8)).toArray) (.agg (q.map (Value.int .u8)).toArray)).run Tryz.prog w = .ok (.bool (!decide (p = q))) w := run_ne_gen _ _ _ _ _ _ (run_eq_dv p q hp hq w)
end Go.Proofs.YtadkeohohehmcaaGreatDoor.Top
end
section
/- Knots are built. -/
namespace Go.Proofs.YtadkeohohehmcaaGreatDoor.Top
open Go.RowKit
set_option linter.unusedVariables false

theorem wpList_build2 {P : Program} {ops : Array Oper} {rest : List Oper} {o : Oper} {a : Act} {w : World} {Q : Exit → Act → World → Prop} (hg : o.guard = none) (t : TypeId) (parts : Array (Nat × Operand)) (ho : o.op = .build t parts)
    (ps : List (Nat × Value)) (hps : (parts.map fun (i, x) => (i, a.eval x)).toList = ps) (cs : Array Value) (hb : P.built t ps = some cs)
    (h : wpList P ops Q rest (a.put o.dst (.agg cs)) w) : wpList P ops Q (o :: rest) a w := by
  refine wpList_build hg t parts ho (by rw [hps, hb]; rfl) ?_
  rw [hps, hb]
  exact h
theorem fold_at (off : Nat) : ∀ (vs : List Value) (k : Nat) (z : Array Value), off + k + vs.length ≤ z.size →
    ((vs.zipIdx k).foldl (fun (cs : Array Value) (x : Value × Nat) => cs.setIfInBounds (off + x.2) x.1) z).toList = z.toList.take (off + k) ++ vs ++ z.toList.drop (off + k + vs.length)
  | [], k, z, h => by simp
  | v :: vs, k, z, h => by
    simp only [List.length_cons] at h
    rw [List.zipIdx_cons, List.foldl_cons, fold_at off vs (k + 1) _ (by simp; omega)]
    have hk : off + k < z.toList.length := by simp; omega
    rw [Array.toList_setIfInBounds, show off + (k + 1) = off + k + 1 by omega, List.take_add_one, List.take_set_of_le (Nat.le_refl _), List.drop_set_of_lt (by omega)]
    simp [List.getElem?_set, hk, show off + k < z.size by omega]
    congr 1
    omega
theorem fill_one (place : Nat → Option (Nat × Nat)) (z : Array Value) (i off size : Nat) (v : Value) (rest : List (Nat × Value)) (hp : place i = some (off, size)) (hs : v.cells.size = size) (hz : off + size ≤ z.size) :
    Instr.fill place z ((i, v) :: rest) = Instr.fill place (z.toList.take off ++ v.cells.toList ++ z.toList.drop (off + size)).toArray rest := by
  rw [Instr.fill, hp]
  simp only
  rw [if_neg (by simp [hs]; omega)]
  congr 1
  apply Array.toList_inj.1
  have := fold_at off v.cells.toList 0 z (by simp [hs]; omega)
  simp only [Nat.add_zero, Array.length_toList, hs] at this
  simp only [List.toList_toArray]
  rw [← this, ← Array.foldl_toList]
  simp
theorem built_eq {P : Program} {t : TypeId} {fields : Array Field} {z : Value} {places : List (Nat × Nat)} (hz : (P.info? t).map (·.zero) = some (some z)) (hu : P.underlying t = some (.struct fields)) (hp : fields.toList.mapM (fun f => (P.info? f.type).map fun i => (f.offset, i.size)) = some places) (ps : List (Nat × Value)) :
    P.built t ps = Instr.fill (places.toArray[·]?) z.cells ps := by
  obtain ⟨it, hi, hz⟩ := Option.map_eq_some_iff.1 hz
  unfold Program.built
  rw [hi, hu]
  simp only [hz, hp]
def zKn : List Value := kn z32i z32i (.pointer none) (.pointer none)
def knAt : Nat → Option (Nat × Nat) := fun i => (#[(0, 35), (35, 64), (99, 1), (100, 1)] : Array (Nat × Nat))[i]?
set_option maxRecDepth 1000000 in
theorem zero152 : (Tryz.prog.info? 152).map (·.zero) = some (some (.agg zKn.toArray)) := by kernel_rfl
set_option maxRecDepth 1000000 in
theorem places152 : (match Tryz.prog.underlying 152 with | some (.struct fields) => fields.toList.mapM (fun f => (Tryz.prog.info? f.type).map fun i => (f.offset, i.size)) | _ => none) = some [(0, 35), (35, 64), (99, 1), (100, 1)] := by kernel_rfl
set_option maxRecDepth 1000000 in
theorem built152 (ps : List (Nat × Value)) : Tryz.prog.built 152 ps = Instr.fill knAt zKn.toArray ps := by
  have h := places152
  rw [Tryz.underlying152] at h
  have := built_eq zero152 Tryz.underlying152 h ps
  rw [this]
  rfl
theorem zKn_size : zKn.toArray.size = 101 := by rw [List.size_toArray]; exact kn_len _ _ _ _ rfl rfl
theorem built_leaf (p v : List Int) (hp : p.length = 32) (hv : v.length = 32) : Tryz.prog.built 152 [(1, .agg ((p ++ v).map (Value.int .u8)).toArray)] = some (kn p v (.pointer none) (.pointer none)).toArray := by
  rw [built152, fill_one knAt _ 1 35 64 _ [] rfl (by simp [Value.cells, hp, hv]) (by rw [zKn_size]; decide), Instr.fill]
  congr 2
theorem built_left (x : Value) (hx : x.cells = #[x]) : Tryz.prog.built 152 [(2, x)] = some (kn z32i z32i x (.pointer none)).toArray := by
  rw [built152, fill_one knAt _ 2 99 1 _ [] rfl (by rw [hx]; rfl) (by rw [zKn_size]; decide), Instr.fill, hx]
  congr 2
theorem built_both (x y : Value) (hx : x.cells = #[x]) (hy : y.cells = #[y]) : Tryz.prog.built 152 [(2, x), (3, y)] = some (kn z32i z32i x y).toArray := by
  rw [built152, fill_one knAt _ 2 99 1 _ _ rfl (by rw [hx]; rfl) (by rw [zKn_size]; decide), fill_one knAt _ 3 100 1 _ [] rfl (by rw [hy]; rfl) (by rw [hx]; simp [zKn, kn, z32i]), Instr.fill, hx, hy]
  congr 2
end Go.Proofs.YtadkeohohehmcaaGreatDoor.Top
end
section
/- A leaf comes into a tree. -/
namespace Go.Proofs.YtadkeohohehmcaaGreatDoor.Top
open Go.RowKit Go.Proofs.YtadkeohohehmcaaGreatDoorW.PrintWords Go.Proofs.YtadkeohohehmcaaGreatDoorW.PrintLast Go.Proofs.YtadkeohohehmcaaGreatDoorW.PrintMore Go.Proofs.YtadkeohohehmcaaGreatDoor.PTop
set_option linter.unusedVariables false
set_option linter.unusedSimpArgs false
attribute [local go_sem] Oper.semAt_some

def WithPost (p v : List Int) (n : Nat) (t : AT) (w : World) (e : Ending) (w' : World) : Prop :=
  ∃ t' : AT, e = .returned (.pointer t'.adr) ∧ t'.rep w' ∧ t'.un = U.with p v n t.un ∧ Below w.heap.size w w' ∧ t'.blocks.Nodup ∧ ∀ b ∈ t'.blocks, b ∈ t.blocks ∨ w.heap.size ≤ b
theorem with_leaf_eq (p v : List Int) (n : Nat) : U.with p v n .nil = .leaf p v := by cases n <;> rw [U.with]

set_option maxHeartbeats 1000000 in
set_option maxRecDepth 100000 in
theorem with_nil (p v : List Int) (hp : PathOk p) (hv : v.length = 32) (n i : Nat) (w : World) : Calls Tryz.prog 59 #[.pointer none, dv (p ++ v), .int .i64 i] w fun e w' => WithPost p v n .nil w e w' := by
  have hi89 := info89 (p ++ v) (by rw [List.length_append, hp.len, hv])
  have h1p := dig_one (p ++ v)
  have BL := Aside0.mk (built_leaf p v hp.len hv)
  have KR : Aside0 (∀ (W : World) (b : Nat), W.heap[b]? = some (.cells (kn p v (.pointer none) (.pointer none)).toArray 152 (0, 0)) → (AT.leaf b p v).rep W) := ⟨fun W b h => ⟨hp.len, hv, h⟩⟩
  have hi152 : (Tryz.prog.info? 152).map (·.size) = some (kn p v (.pointer none) (.pointer none)).toArray.size := by rw [List.size_toArray, kn_len _ _ _ _ hp.len hv]; kernel_rfl
  generalize (kn p v (.pointer none) (.pointer none)).toArray = ks at *
  have PV : Aside0 (dv (p ++ v) = .agg ((p ++ v).map (Value.int .u8)).toArray) := ⟨rfl⟩
  rw [PV.out]
  generalize ((p ++ v).map (Value.int .u8)).toArray = cs at *
  have k0 := blk_new w (.cells cs 89)
  have b0 : Below w.heap.size w (w.alloc (.cells cs 89)) := (Below.refl _ w).alloc (Nat.le_refl _) _
  go_enter Tryz.func59, Tryz.ntmps59
  go_upto_region 1 with fail
  go_region
  go_wp2_with (first | (refine wpList_load_row rfl 89 (.tmp 4) rfl w.heap.size rfl 89 _ (0, 0) _ k0 Tryz.underlying89 rfl hi89 ?_) | (refine wpList_build2 rfl 152 _ rfl [(1, .agg cs)] (by simp only [List.map_toArray, List.map_cons, List.map_nil, List.toList_toArray]; rfl) _ BL.out ?_))
  go_ret
  refine ⟨.leaf (w.heap.size + 1) p v, rfl, KR.out _ _ ?_, (with_leaf_eq p v n).symm, ((b0.alloc b0.size _).drew), by simp [AT.blocks], fun b hb => Or.inr ?_⟩
  · have h := blk_new (w.alloc (.cells cs 89)) (.cells ks 152)
    rw [show (w.alloc (.cells cs 89)).heap.size = w.heap.size + 1 by simp] at h
    exact h
  · obtain rfl := List.mem_singleton.1 hb
    omega

set_option maxHeartbeats 4000000 in
set_option maxRecDepth 100000 in
theorem with_same (p v u : List Int) (hp : PathOk p) (hv : v.length = 32) (n i kb : Nat) (w : World) (ht : (AT.leaf kb p u).rep w) : Calls Tryz.prog 59 #[.pointer (some ⟨kb, 0, none⟩), dv (p ++ v), .int .i64 i] w fun e w' => WithPost p v n .nil w e w' := by
  have hi89 := info89 (p ++ v) (by rw [List.length_append, hp.len, hv])
  have h1p := dig_one (p ++ v)
  have hip := info31l p hp.len
  have BL := Aside0.mk (built_leaf p v hp.len hv)
  have KR : Aside0 (∀ (W : World) (b : Nat), W.heap[b]? = some (.cells (kn p v (.pointer none) (.pointer none)).toArray 152 (0, 0)) → (AT.leaf b p v).rep W) := ⟨fun W b h => ⟨hp.len, hv, h⟩⟩
  have hi152 : (Tryz.prog.info? 152).map (·.size) = some (kn p v (.pointer none) (.pointer none)).toArray.size := by rw [List.size_toArray, kn_len _ _ _ _ hp.len hv]; kernel_rfl
  generalize (kn p v (.pointer none) (.pointer none)).toArray = ks at *
  have hkb : kb < w.heap.size := (Array.getElem?_eq_some_iff.1 ht.2.2).1
  have EQ := run_eq_dv p p hp hp
  have EG := fun x y a b w => run_guard_dv .eql (Or.inl rfl) x y a b w
  rw [decide_eq_true rfl] at EQ
  have PV : Aside0 (dv (p ++ v) = .agg ((p ++ v).map (Value.int .u8)).toArray) := ⟨rfl⟩
  rw [PV.out]
  have RP : ∀ W : World, W.heap[w.heap.size]? = some (.cells ((p ++ v).map (Value.int .u8)).toArray 89 (0, 0)) → W.rangeAt w.heap.size 0 (p.map (Value.int .u8)) := fun W h => pair_cells h 0 p fun i u hi => by rw [Nat.zero_add, List.getElem?_append_left (List.getElem?_eq_some_iff.1 hi).1]; exact hi
  generalize ((p ++ v).map (Value.int .u8)).toArray = cs at *
  have k0 := blk_new w (.cells cs 89)
  have b0 : Below w.heap.size w (w.alloc (.cells cs 89)) := (Below.refl _ w).alloc (Nat.le_refl _) _
  have t0 : (w.alloc (.cells cs 89)).drew.heap[kb]? = some (.cells (kn p u (.pointer none) (.pointer none)).toArray 152 (0, 0)) := (b0.drew.block kb hkb).trans ht.2.2
  have IN : Aside0 (Calls Tryz.prog 77 #[.pointer (some ⟨kb, 0, none⟩)] (w.alloc (.cells cs 89)).drew fun e w' => e = .returned (.bool false) ∧ w' = (w.alloc (.cells cs 89)).drew) := ⟨inner_c (.leaf kb p u) (w.alloc (.cells cs 89)).drew ⟨ht.1, ht.2.1, t0⟩⟩
  have RQ : (w.alloc (.cells cs 89)).drew.rangeAt kb 35 (p.map (Value.int .u8)) := kn_range t0 0 p fun i u hi => by rw [Nat.zero_add, List.getElem?_append_left (List.getElem?_eq_some_iff.1 hi).1]; exact hi
  have RL : (w.alloc (.cells cs 89)).drew.rangeAt w.heap.size 0 (p.map (Value.int .u8)) := RP _ k0
  clear RP t0 ht
  go_enter Tryz.func59, Tryz.ntmps59
  go_upto_region 1 with fail
  refine wp_region_held_drew (S := (fun W => W = (w.alloc (.cells cs 89)).drew)) (by kernel_rfl) (by rfl) (fun hHeld => ?_)
  refine wpAnyH_take (i := 0) (oi := _) (v := ?_) rfl (by kernel_rfl) (by kernel_rfl) (by kernel_rfl) (fun _ _ _ h => h) (Or.inl ⟨by rfl, ?_⟩) (by assumption) ?_
  rotate_left
  · (intro w hSw; (try dsimp only at hSw); subst hSw; go_simp; (try with_reducible rfl))
  (try simp only [uA, uB, uC, uD, uE, uF, uG, uH])
  refine wpAnyH_take (i := 1) (oi := _) (v := .bool false) rfl (by kernel_rfl) (by kernel_rfl) (by kernel_rfl) (fun _ _ _ h => h) (Or.inl ⟨by rfl, ?_⟩) (by assumption) ?_
  rotate_left 0
  · (intro w hSw; (try dsimp only at hSw); subst hSw; go_simp; (try with_reducible rfl))
  (try simp only [uA, uB, uC, uD, uE, uF, uG, uH])
  refine wpAnyH_take (i := 2) (oi := _) (v := .bool false) rfl (by kernel_rfl) (by kernel_rfl) (by kernel_rfl) (fun _ _ _ h => h) (Or.inl ⟨by rfl, ?_⟩) (by assumption) ?_
  rotate_left 0
  · (intro w hSw; (try dsimp only at hSw); subst hSw; go_simp; (try with_reducible rfl))
  (try simp only [uA, uB, uC, uD, uE, uF, uG, uH])
  refine wpAnyH_take (i := 3) (oi := _) (v := ?_) rfl (by kernel_rfl) (by kernel_rfl) (by kernel_rfl) (fun _ _ _ h => h) (Or.inl ⟨by rfl, ?_⟩) (by assumption) ?_
  rotate_left
  · (intro w hSw; (try dsimp only at hSw); subst hSw; go_simp; (try with_reducible rfl))
  (try simp only [uA, uB, uC, uD, uE, uF, uG, uH])
  refine wpAnyH_ready (rs := [4]) (by kernel_rfl) (by decide) (AllReadyH.cons rfl (fun K' hK => ?_) AllReadyH.nil)
  rw [if_pos (by rfl)]
  go_simp
  refine (IN.out).mono ?_
  rintro e w' ⟨rfl, rfl⟩
  (try dsimp only)
  refine hK.out _ _ (by rfl) (fun hHeld => ?_)
  clear hK
  (try simp only [uA, uB, uC, uD, uE, uF, uG, uH])
  refine wpAnyH_take (i := 5) (oi := _) (v := .bool true) rfl (by kernel_rfl) (by kernel_rfl) (by kernel_rfl) (fun _ _ _ h => h) (Or.inl ⟨by rfl, ?_⟩) (by assumption) ?_
  rotate_left 0
  · (intro w hSw; (try dsimp only at hSw); subst hSw; go_simp; (try with_reducible rfl))
  (try simp only [uA, uB, uC, uD, uE, uF, uG, uH])
  refine wpAnyH_take (i := 6) (oi := _) (v := .bool true) rfl (by kernel_rfl) (by kernel_rfl) (by kernel_rfl) (fun _ _ _ h => h) (Or.inl ⟨by rfl, ?_⟩) (by assumption) ?_
  rotate_left 0
  · (intro w hSw; (try dsimp only at hSw); subst hSw; go_simp; (try with_reducible rfl))
  (try simp only [uA, uB, uC, uD, uE, uF, uG, uH])
  refine wpAnyH_take (i := 7) (oi := _) (v := ?_) rfl (by kernel_rfl) (by kernel_rfl) (by kernel_rfl) (fun _ _ _ h => h) (Or.inl ⟨by rfl, ?_⟩) (by assumption) ?_
  rotate_left
  · (intro w hSw; (try dsimp only at hSw); subst hSw; go_simp; (try with_reducible rfl))
  (try simp only [uA, uB, uC, uD, uE, uF, uG, uH])
  refine wpAnyH_take (i := 8) (oi := _) (v := ?_) rfl (by kernel_rfl) (by kernel_rfl) (by kernel_rfl) (fun _ _ _ h => h) (Or.inl ⟨by rfl, ?_⟩) (by assumption) ?_
  rotate_left
  · (intro w hSw; (try dsimp only at hSw); subst hSw; go_simp; (try with_reducible rfl))
  (try simp only [uA, uB, uC, uD, uE, uF, uG, uH])
  refine wpAnyH_take (i := 9) (oi := _) (v := ?_) rfl (by kernel_rfl) (by kernel_rfl) (by kernel_rfl) (fun _ _ _ h => h) (Or.inl ⟨by rfl, ?_⟩) (by assumption) ?_
  rotate_left
  · (intro w hSw; (try dsimp only at hSw); subst hSw; go_simp; (try with_reducible rfl))
  (try simp only [uA, uB, uC, uD, uE, uF, uG, uH])
  refine wpAnyH_take (i := 10) (oi := _) (v := ?_) rfl (by kernel_rfl) (by kernel_rfl) (by kernel_rfl) (fun _ _ _ h => h) (Or.inl ⟨by rfl, ?_⟩) (by assumption) ?_
  rotate_left
  · (intro w hSw; (try dsimp only at hSw); subst hSw; go_simp; (try with_reducible rfl))
  (try simp only [uA, uB, uC, uD, uE, uF, uG, uH])
  refine wpAnyH_take (i := 11) (oi := _) (v := _) rfl (by kernel_rfl) (by kernel_rfl) (by kernel_rfl) (fun _ _ _ h => h) (yieldsIf_load_mid (by rfl) 31 (.tmp 20) rfl kb 35 rfl _ _ (fun W hW => by rw [hW]; exact RQ) Tryz.underlying31 rfl hip) (by assumption) ?_
  (try simp only [uA, uB, uC, uD, uE, uF, uG, uH])
  refine wpAnyH_take (i := 12) (oi := _) (v := ?_) rfl (by kernel_rfl) (by kernel_rfl) (by kernel_rfl) (fun _ _ _ h => h) (Or.inl ⟨by rfl, ?_⟩) (by assumption) ?_
  rotate_left
  · (intro w hSw; (try dsimp only at hSw); subst hSw; go_simp; (try with_reducible rfl))
  (try simp only [uA, uB, uC, uD, uE, uF, uG, uH])
  refine wpAnyH_take (i := 13) (oi := _) (v := _) rfl (by kernel_rfl) (by kernel_rfl) (by kernel_rfl) (fun _ _ _ h => h) (yieldsIf_load_mid (by rfl) 31 (.tmp 22) rfl w.heap.size 0 rfl _ _ (fun W hW => by rw [hW]; exact RL) Tryz.underlying31 rfl hip) (by assumption) ?_
  (try simp only [uA, uB, uC, uD, uE, uF, uG, uH])
  refine wpAnyH_take (i := 14) (oi := _) (v := .bool true) rfl (by kernel_rfl) (by kernel_rfl) (by kernel_rfl) (fun _ _ _ h => h) (Or.inl ⟨by rfl, ?_⟩) (by assumption) ?_
  rotate_left 0
  · (intro w hSw; (try dsimp only at hSw); subst hSw; go_simp; (try with_reducible rfl))
  (try simp only [uA, uB, uC, uD, uE, uF, uG, uH])
  refine wpAnyH_take (i := 15) (oi := _) (v := .bool true) rfl (by kernel_rfl) (by kernel_rfl) (by kernel_rfl) (fun _ _ _ h => h) (Or.inl ⟨by rfl, ?_⟩) (by assumption) ?_
  rotate_left 0
  · (intro w hSw; (try dsimp only at hSw); subst hSw; go_simp; (try with_reducible rfl))
  (try simp only [uA, uB, uC, uD, uE, uF, uG, uH])
  refine wpAnyH_take (i := 16) (oi := _) (v := .bool true) rfl (by kernel_rfl) (by kernel_rfl) (by kernel_rfl) (fun _ _ _ h => h) (Or.inl ⟨by rfl, ?_⟩) (by assumption) ?_
  rotate_left 0
  · (intro w hSw; (try dsimp only at hSw); subst hSw; go_simp; (try with_reducible rfl))
  (try simp only [uA, uB, uC, uD, uE, uF, uG, uH])
  refine wpAnyH_take (i := 17) (oi := _) (v := .bool true) rfl (by kernel_rfl) (by kernel_rfl) (by kernel_rfl) (fun _ _ _ h => h) (Or.inl ⟨by rfl, ?_⟩) (by assumption) ?_
  rotate_left 0
  · (intro w hSw; (try dsimp only at hSw); subst hSw; go_simp; (try with_reducible rfl))
  (try simp only [uA, uB, uC, uD, uE, uF, uG, uH])
  refine wpAnyH_done (by kernel_rfl) ?_ _
  go_wp2_with (first | (refine wpList_load_row rfl 89 (.tmp 4) rfl w.heap.size rfl 89 _ (0, 0) _ k0 Tryz.underlying89 rfl hi89 ?_) | (refine wpList_build2 rfl 152 _ rfl [(1, .agg cs)] (by simp only [List.map_toArray, List.map_cons, List.map_nil, List.toList_toArray]; rfl) _ BL.out ?_))
  go_ret
  refine ⟨.leaf (w.heap.size + 1) p v, rfl, KR.out _ _ ?_, (with_leaf_eq p v n).symm, ((b0.alloc b0.size _).drew), by simp [AT.blocks], fun b hb => Or.inr ?_⟩
  · have h := blk_new (w.alloc (.cells cs 89)) (.cells ks 152)
    rw [show (w.alloc (.cells cs 89)).heap.size = w.heap.size + 1 by simp] at h
    exact h
  · obtain rfl := List.mem_singleton.1 hb
    omega
end Go.Proofs.YtadkeohohehmcaaGreatDoor.Top
end
