/- An entry in memory of its own: copied, OwnEntry. -/
import Derived.Test.YtpjachbmllklgaaKinds
import Derived.Test.YtpjachbmllklgaaPCoux1
import Derived.Test.YtpjachbmllklgaaPCoux3
namespace Go.Proofs.Ytpjachbmllklgaa.Rng
open Go.RowKit Go.Proofs.YtpjachbmllklgaaW.PrintWords Go.Proofs.Ytpjachbmllklgaa.Kinds Go.Proofs.Ytpjachbmllklgaa.PCou
set_option linter.unusedVariables false
set_option linter.unusedSimpArgs false
attribute [local go_sem] Oper.semAt_some

/-- An entry's cells: 41, and its council's two. -/
theorem ent_split {w : World} {x : Ent} {cs : List Value} (h : kEnt.K w x cs) : ∃ (hd : List Value) (A : Option Addr) (c : Nat) (B : Option Addr) (d : Nat), hd.length = 41 ∧ cs = hd ++ [.slice A x.2.2.2.2.1.length c, .slice B x.2.2.2.2.2.length d] ∧
    x.2.2.2.2.1.length ≤ c ∧ (Kd.int .i64).C w A x.2.2.2.2.1.length x.2.2.2.2.1 ∧ x.2.2.2.2.2.length ≤ d ∧ (Kd.int .i64).C w B x.2.2.2.2.2.length x.2.2.2.2.2 ∧ (∀ u ∈ hd, u.oneCell' = true) ∧
    (∀ (w' : World) (base : Nat) (ok : Nat → Prop) (V L : Value), (Kd.int .i64).R 3 w' base ok V x.2.2.2.2.1 → (Kd.int .i64).R 3 w' base ok L x.2.2.2.2.2 → kEnt.M w' base ok x (hd ++ [V, L])) := by
  have h1 := kEnt.K_one h
  obtain ⟨_, _, rfl, rfl, _, _, rfl, rfl, _, _, rfl, rfl, cc, cu, rfl, hc, _, _, rfl, ⟨A2, c2, rfl, h2, h3⟩, ⟨A3, c3, rfl, h4, h5⟩⟩ := h
  have hcl : cc.length = 38 := kCmd.K_len hc
  refine ⟨[.int .i64 x.1] ++ ([.int .i64 x.2.1] ++ ([.int .i64 x.2.2.1] ++ cc)), A2, c2, A3, c3, by simp [hcl], by simp, h2, h3, h4, h5, fun u hu => h1 u ?_, fun w' base ok V L hV hL => ?_⟩
  · simp only [List.mem_append] at hu ⊢
    rcases hu with hu | hu | hu | hu
    · exact .inl hu
    · exact .inr (.inl hu)
    · exact .inr (.inr (.inl hu))
    · exact .inr (.inr (.inr (.inl hu)))
  · refine ⟨[.int .i64 x.1], _, by simp only [List.append_assoc], rfl, [.int .i64 x.2.1], _, rfl, rfl, [.int .i64 x.2.2.1], _, rfl, rfl, cc, [V, L], rfl, ?_, [V], [L], rfl, ⟨V, rfl, hV⟩, ⟨L, rfl, hL⟩⟩
    obtain ⟨_, _, rfl, k1, _, _, rfl, k2, _, _, rfl, k3, _, _, rfl, k4, _, _, rfl, k5, _, _, rfl, k6, k7⟩ := hc
    exact ⟨_, _, rfl, k1, _, _, rfl, k2, _, _, rfl, k3, _, _, rfl, k4, _, _, rfl, k5, _, _, rfl, k6, k7⟩

theorem R_new2 {α : Type} {d : Kd α} {e b base : Nat} {ok : Nat → Prop} {W W' : World} {v : Value} {xs : List α} (h : d.R e W b ok v xs) (hm : ∀ k, b ≤ k → k < W.heap.size → W'.heap[k]? = W.heap[k]?) (hb : base ≤ b) : d.R e W' base (fun _ => True) v xs :=
  Kd.R_mono (Kd.R_lower (Kd.R_move (Kd.R_bound h) (fun k hk => hm k hk.2.1 hk.2.2.1)) hb) (fun _ _ => trivial)
theorem M_new2 {α : Type} {d : Kd α} {b base : Nat} {ok : Nat → Prop} {W W' : World} {x : α} {cs : List Value} (h : d.M W b ok x cs) (hm : ∀ k, b ≤ k → k < W.heap.size → W'.heap[k]? = W.heap[k]?) (hb : base ≤ b) : d.M W' base (fun _ => True) x cs :=
  d.M_mono (fun _ _ => trivial) (d.M_lower hb (d.M_move (fun k hk => hm k hk.2.1 hk.2.2.1) (d.M_bound h)))
/-- An entry's council is stored to, in its box. -/
theorem set_council {W : World} {g : Nat} {hd : List Value} {a b : Value} {t : TypeId} (hl : hd.length = 41) (h : W.heap[g]? = some (.cells (hd ++ [a, b]).toArray t (0, 0))) (V L : Value) :
    ((W.setCell ⟨g, 41, none⟩ V).setCell ⟨g, 42, none⟩ L).heap[g]? = some (.cells (hd ++ [V, L]).toArray t (0, 0)) := by
  have h1 : (W.setCell ⟨g, 41, none⟩ V).heap[g]? = some (.cells (hd ++ [V, b]).toArray t (0, 0)) := by
    simp [World.setCell, Array.getElem?_modify, h, List.set_append, hl]
  simp only [World.setCell] at h1 ⊢
  rw [Array.getElem?_modify, if_pos rfl, h1]
  simp [List.set_append, hl]
theorem set2_other {W : World} {g k : Nat} (hk : k ≠ g) (i j : Nat) (V L : Value) : ((W.setCell ⟨g, i, none⟩ V).setCell ⟨g, j, none⟩ L).heap[k]? = W.heap[k]? := by
  rw [Below.heap_setCell _ _ _ _ hk, Below.heap_setCell _ _ _ _ hk]
theorem size43 {hd : List Value} {a b : Value} (hl : hd.length = 41) : (Try.prog.info? 59).map (·.size) = some (hd ++ [a, b]).toArray.size := by rw [size59]; simp [hl]

set_option maxHeartbeats 1000000 in
set_option maxRecDepth 100000 in
theorem copied_c (x : Ent) (cs : List Value) (w : World) (h : kEnt.K w x cs) (h1 : x.2.2.2.2.1.length < 17592186044416) (h2 : x.2.2.2.2.2.length < 17592186044416) :
    Calls Try.prog 53 #[.agg cs.toArray] w fun e w' => ∃ cs', e = .returned (.agg cs'.toArray) ∧ kEnt.M w' w.heap.size (fun _ => True) x cs' ∧ Below w.heap.size w w' := by
  have e46 : ∀ args w, (callFunc 46 args).run Try.prog w = .ok (.enter 46 args) w := enters_of Try.func46 (by kernel_rfl) rfl
  obtain ⟨hd, A, c, B, d, hl, rfl, hc, hA, hd', hB, hone, hM⟩ := ent_split h
  clear h
  have HM := Aside0.mk hM
  have HO := Aside0.mk hone
  clear hM hone
  have HH : Aside0 (∀ W, (Kd.int .i64).C W A x.2.2.2.2.1.length x.2.2.2.2.1 → (Kd.int .i64).C W B x.2.2.2.2.2.length x.2.2.2.2.2 → Calls Try.prog 46 #[.agg #[.slice A x.2.2.2.2.1.length c, .slice B x.2.2.2.2.2.length d]] W fun e w' => ∃ v0_ v1_ : Value, e = .returned (.agg #[v0_, v1_]) ∧ Kd.R (Kd.int .i64) 3 w' W.heap.size (fun k_ => some k_ ≠ (v1_ : Value).ownBlock) v0_ x.2.2.2.2.1 ∧ Kd.R (Kd.int .i64) 3 w' W.heap.size (fun k_ => some k_ ≠ (v0_ : Value).ownBlock) v1_ x.2.2.2.2.2 ∧ Below W.heap.size W w') :=
    ⟨fun W k1 k2 => ledger_own.calls A c _ B d _ _ _ W k1 hc k2 hd' (by unfold ledger_own.f slices_Clone_int_int.f; rw [if_pos h1, if_pos h2]; rfl)⟩
  have HA := Aside0.mk hA
  have HB := Aside0.mk hB
  clear hA hB hc hd' h1 h2
  generalize x.2.2.2.2.1.length = n at *
  generalize x.2.2.2.2.2.length = m at *
  have hsz : (hd ++ [Value.slice A n c, Value.slice B m d]).length = 43 := by simp [hl]
  go_enter Try.func53, Try.ntmps53
  go_wp2_with fail
  obtain ⟨Z, hZ⟩ : ∃ Z : Array Value, (#[.int .i64 0, .int .i64 0, .int .i64 0, .int .i64 0, .int .i64 0, .int .i64 0, .string ⟨#[]⟩, .string ⟨#[]⟩, .int .i64 0, .int .u8 0, .int .u8 0, .int .u8 0, .int .u8 0, .int .u8 0, .int .u8 0, .int .u8 0, .int .u8 0, .int .u8 0, .int .u8 0, .int .u8 0, .int .u8 0, .int .u8 0, .int .u8 0, .int .u8 0, .int .u8 0, .int .u8 0, .int .u8 0, .int .u8 0, .int .u8 0, .int .u8 0, .int .u8 0, .int .u8 0, .int .u8 0, .int .u8 0, .int .u8 0, .int .u8 0, .int .u8 0, .int .u8 0, .int .u8 0, .int .u8 0, .int .u8 0, .slice none 0 0, .slice none 0 0] : Array Value) = Z := ⟨_, rfl⟩
  have hZs : Z.size = 43 := by rw [← hZ]; rfl
  rw [hZ]
  clear hZ
  have q0 : Below w.heap.size w ((w.alloc (.cells (hd ++ [Value.slice A n c, Value.slice B m d]).toArray 59)).alloc (.cells Z 59)) := ((Below.refl _ w).alloc (Nat.le_refl _) _).alloc (by simp) _
  have hs0 : ((w.alloc (.cells (hd ++ [Value.slice A n c, Value.slice B m d]).toArray 59)).alloc (.cells Z 59)).heap.size = w.heap.size + 2 := by simp
  have k0 := blk_alloc (blk_new w (.cells (hd ++ [Value.slice A n c, Value.slice B m d]).toArray 59)) (.cells Z 59)
  have z0 := blk_new (w.alloc (.cells (hd ++ [Value.slice A n c, Value.slice B m d]).toArray 59)) (.cells Z 59)
  rw [World.size_alloc] at z0
  generalize ((w.alloc (.cells (hd ++ [Value.slice A n c, Value.slice B m d]).toArray 59)).alloc (.cells Z 59)) = W0 at q0 hs0 k0 z0 ⊢
  refine (HH.out W0 (Kd.C_below HA.out q0) (Kd.C_below HB.out q0)).mono ?_
  rintro e w2 ⟨V, L, rfl, hV, hL, hb2⟩
  obtain ⟨A', c', eV⟩ := Kd.R_slice hV
  obtain ⟨B', d', eL⟩ := Kd.R_slice hL
  have oV : V.oneCell' = true := by rw [eV]; rfl
  have oL : L.oneCell' = true := by rw [eL]; rfl
  have hszw := hb2.size
  have k2 := (hb2.block w.heap.size (by omega)).trans k0
  have z2 := (hb2.block (w.heap.size + 1) (by omega)).trans z0
  have q2 : Below w.heap.size w w2 := q0.trans (hb2.mono q0.size)
  subst eV eL
  generalize x.2.2.2.2.1.length = n2 at *
  generalize x.2.2.2.2.2.length = m2 at *
  clear HH HA HB q0 k0 z0 hb2 oV oL
  have c41 : w2.cell? ⟨w.heap.size, 41, none⟩ = some (.slice A n c) := by simp [World.cell?, k2, List.getElem?_append, hl]
  have c42 : w2.cell? ⟨w.heap.size, 42, none⟩ = some (.slice B m d) := by simp [World.cell?, k2, List.getElem?_append, hl]
  have f41 : w2.frozen? ⟨w.heap.size, 41, none⟩ = false := by simp [World.frozen?, k2]
  have f42 : w2.frozen? ⟨w.heap.size, 42, none⟩ = false := by simp [World.frozen?, k2]
  have k3 := set_council hl k2 (.slice A' n2 c') (.slice B' m2 d')
  have z3 := (set2_other (W := w2) (show w.heap.size + 1 ≠ w.heap.size by omega) 41 42 (.slice A' n2 c') (.slice B' m2 d')).trans z2
  have q3 : Below w.heap.size w ((w2.setCell ⟨w.heap.size, 41, none⟩ (.slice A' n2 c')).setCell ⟨w.heap.size, 42, none⟩ (.slice B' m2 d')) := (q2.setCell (p := ⟨w.heap.size, 41, none⟩) (Nat.le_refl _) _).setCell (p := ⟨w.heap.size, 42, none⟩) (Nat.le_refl _) _
  have o3 : ∀ k, k ≠ w.heap.size → ((w2.setCell ⟨w.heap.size, 41, none⟩ (.slice A' n2 c')).setCell ⟨w.heap.size, 42, none⟩ (.slice B' m2 d')).heap[k]? = w2.heap[k]? := fun k hk => set2_other hk 41 42 _ _
  have h1c : (hd ++ [Value.slice A' n2 c', Value.slice B' m2 d']).toArray.all (·.oneCell') = true := by
    rw [Array.all_eq_true_iff_forall_mem]
    intro u hu
    have hu' : u ∈ hd ∨ u = .slice A' n2 c' ∨ u = .slice B' m2 d' := by simpa using hu
    rcases hu' with hu' | rfl | rfl
    · exact HO.out u hu'
    · rfl
    · rfl
  have Q3 := Aside0.mk q3
  have O3 := Aside0.mk o3
  have ZS := Aside0.mk hZs
  clear q3 o3 hZs
  go_wp2_with (first | (refine wpList_load_row rfl 59 (.tmp 1) rfl w.heap.size rfl 59 _ (0, 0) _ k3 Try.underlying59 rfl (size43 hl) ?_) | (refine wpList_store_row rfl 59 (.tmp 2) (.tmp 7) rfl (w.heap.size + 1) _ rfl rfl 59 Z z3 (size43 hl) (by rw [ZS.out]; simp [hl]) h1c ?_))
  have hg := setRow_heap _ (w.heap.size + 1) Z (hd ++ [Value.slice A' n2 c', Value.slice B' m2 d']).toArray 59 (0, 0) z3
  refine bodyPost_ret (results_cell_row rfl _ _ (w.heap.size + 1) 59 _ (0, 0) _ rfl hg Try.underlying59 rfl (size43 hl)) rfl ?_
  have hm : ∀ k, W0.heap.size ≤ k → k < w2.heap.size → (((w2.setCell ⟨w.heap.size, 41, none⟩ (.slice A' n2 c')).setCell ⟨w.heap.size, 42, none⟩ (.slice B' m2 d')).setRow (w.heap.size + 1) (hd ++ [Value.slice A' n2 c', Value.slice B' m2 d']).toArray).heap[k]? = w2.heap[k]? := fun k h1 h2 => by
    rw [setRow_other _ _ k _ (by omega), O3.out k (by omega)]
  exact ⟨_, rfl, HM.out _ _ _ _ _ (R_new2 hV hm (by omega)) (R_new2 hL hm (by omega)), below_setRow Q3.out _ (by omega) _⟩
set_option maxHeartbeats 1000000 in
set_option maxRecDepth 100000 in
theorem ownEntry_c (x : Ent) (cs : List Value) (w : World) (h : kEnt.K w x cs) (h1 : x.2.2.2.2.1.length < 17592186044416) (h2 : x.2.2.2.2.2.length < 17592186044416) :
    Calls Try.prog 44 #[.agg cs.toArray] w fun e w' => ∃ cs', e = .returned (.agg cs'.toArray) ∧ kEnt.M w' w.heap.size (fun _ => True) x cs' ∧ Below w.heap.size w w' := by
  have e47 : ∀ args w, (callFunc 47 args).run Try.prog w = .ok (.enter 47 args) w := enters_of Try.func47 (by kernel_rfl) rfl
  obtain ⟨hd, A, c, B, d, hl, rfl, hc, hA, hd', hB, hone, hM⟩ := ent_split h
  clear h
  have HM := Aside0.mk hM
  have HO := Aside0.mk hone
  clear hM hone
  have HH : Aside0 (∀ W, (Kd.int .i64).C W A x.2.2.2.2.1.length x.2.2.2.2.1 → (Kd.int .i64).C W B x.2.2.2.2.2.length x.2.2.2.2.2 → Calls Try.prog 47 #[.agg #[.slice A x.2.2.2.2.1.length c, .slice B x.2.2.2.2.2.length d]] W fun e w' => ∃ v0_ v1_ : Value, e = .returned (.agg #[v0_, v1_]) ∧ Kd.R (Kd.int .i64) 3 w' W.heap.size (fun k_ => some k_ ≠ (v1_ : Value).ownBlock) v0_ x.2.2.2.2.1 ∧ Kd.R (Kd.int .i64) 3 w' W.heap.size (fun k_ => some k_ ≠ (v0_ : Value).ownBlock) v1_ x.2.2.2.2.2 ∧ Below W.heap.size W w') :=
    ⟨fun W k1 k2 => r08_OwnCouncil.calls A c _ B d _ _ _ W k1 hc k2 hd' (by unfold r08_OwnCouncil.f r08_numbers.f; rw [if_pos (by simpa using h1), if_pos (by simpa using h2)]; rfl)⟩
  have HA := Aside0.mk hA
  have HB := Aside0.mk hB
  clear hA hB hc hd' h1 h2
  generalize x.2.2.2.2.1.length = n at *
  generalize x.2.2.2.2.2.length = m at *
  have hsz : (hd ++ [Value.slice A n c, Value.slice B m d]).length = 43 := by simp [hl]
  go_enter Try.func44, Try.ntmps44
  go_wp2_with fail
  obtain ⟨Z, hZ⟩ : ∃ Z : Array Value, (#[.int .i64 0, .int .i64 0, .int .i64 0, .int .i64 0, .int .i64 0, .int .i64 0, .string ⟨#[]⟩, .string ⟨#[]⟩, .int .i64 0, .int .u8 0, .int .u8 0, .int .u8 0, .int .u8 0, .int .u8 0, .int .u8 0, .int .u8 0, .int .u8 0, .int .u8 0, .int .u8 0, .int .u8 0, .int .u8 0, .int .u8 0, .int .u8 0, .int .u8 0, .int .u8 0, .int .u8 0, .int .u8 0, .int .u8 0, .int .u8 0, .int .u8 0, .int .u8 0, .int .u8 0, .int .u8 0, .int .u8 0, .int .u8 0, .int .u8 0, .int .u8 0, .int .u8 0, .int .u8 0, .int .u8 0, .int .u8 0, .slice none 0 0, .slice none 0 0] : Array Value) = Z := ⟨_, rfl⟩
  have hZs : Z.size = 43 := by rw [← hZ]; rfl
  rw [hZ]
  clear hZ
  have q0 : Below w.heap.size w ((w.alloc (.cells (hd ++ [Value.slice A n c, Value.slice B m d]).toArray 59)).alloc (.cells Z 59)) := ((Below.refl _ w).alloc (Nat.le_refl _) _).alloc (by simp) _
  have hs0 : ((w.alloc (.cells (hd ++ [Value.slice A n c, Value.slice B m d]).toArray 59)).alloc (.cells Z 59)).heap.size = w.heap.size + 2 := by simp
  have k0 := blk_alloc (blk_new w (.cells (hd ++ [Value.slice A n c, Value.slice B m d]).toArray 59)) (.cells Z 59)
  have z0 := blk_new (w.alloc (.cells (hd ++ [Value.slice A n c, Value.slice B m d]).toArray 59)) (.cells Z 59)
  rw [World.size_alloc] at z0
  generalize ((w.alloc (.cells (hd ++ [Value.slice A n c, Value.slice B m d]).toArray 59)).alloc (.cells Z 59)) = W0 at q0 hs0 k0 z0 ⊢
  refine (HH.out W0 (Kd.C_below HA.out q0) (Kd.C_below HB.out q0)).mono ?_
  rintro e w2 ⟨V, L, rfl, hV, hL, hb2⟩
  obtain ⟨A', c', eV⟩ := Kd.R_slice hV
  obtain ⟨B', d', eL⟩ := Kd.R_slice hL
  have oV : V.oneCell' = true := by rw [eV]; rfl
  have oL : L.oneCell' = true := by rw [eL]; rfl
  have hszw := hb2.size
  have k2 := (hb2.block w.heap.size (by omega)).trans k0
  have z2 := (hb2.block (w.heap.size + 1) (by omega)).trans z0
  have q2 : Below w.heap.size w w2 := q0.trans (hb2.mono q0.size)
  subst eV eL
  generalize x.2.2.2.2.1.length = n2 at *
  generalize x.2.2.2.2.2.length = m2 at *
  clear HH HA HB q0 k0 z0 hb2 oV oL
  have c41 : w2.cell? ⟨w.heap.size, 41, none⟩ = some (.slice A n c) := by simp [World.cell?, k2, List.getElem?_append, hl]
  have c42 : w2.cell? ⟨w.heap.size, 42, none⟩ = some (.slice B m d) := by simp [World.cell?, k2, List.getElem?_append, hl]
  have f41 : w2.frozen? ⟨w.heap.size, 41, none⟩ = false := by simp [World.frozen?, k2]
  have f42 : w2.frozen? ⟨w.heap.size, 42, none⟩ = false := by simp [World.frozen?, k2]
  have k3 := set_council hl k2 (.slice A' n2 c') (.slice B' m2 d')
  have z3 := (set2_other (W := w2) (show w.heap.size + 1 ≠ w.heap.size by omega) 41 42 (.slice A' n2 c') (.slice B' m2 d')).trans z2
  have q3 : Below w.heap.size w ((w2.setCell ⟨w.heap.size, 41, none⟩ (.slice A' n2 c')).setCell ⟨w.heap.size, 42, none⟩ (.slice B' m2 d')) := (q2.setCell (p := ⟨w.heap.size, 41, none⟩) (Nat.le_refl _) _).setCell (p := ⟨w.heap.size, 42, none⟩) (Nat.le_refl _) _
  have o3 : ∀ k, k ≠ w.heap.size → ((w2.setCell ⟨w.heap.size, 41, none⟩ (.slice A' n2 c')).setCell ⟨w.heap.size, 42, none⟩ (.slice B' m2 d')).heap[k]? = w2.heap[k]? := fun k hk => set2_other hk 41 42 _ _
  have h1c : (hd ++ [Value.slice A' n2 c', Value.slice B' m2 d']).toArray.all (·.oneCell') = true := by
    rw [Array.all_eq_true_iff_forall_mem]
    intro u hu
    have hu' : u ∈ hd ∨ u = .slice A' n2 c' ∨ u = .slice B' m2 d' := by simpa using hu
    rcases hu' with hu' | rfl | rfl
    · exact HO.out u hu'
    · rfl
    · rfl
  have Q3 := Aside0.mk q3
  have O3 := Aside0.mk o3
  have ZS := Aside0.mk hZs
  clear q3 o3 hZs
  go_wp2_with (first | (refine wpList_load_row rfl 59 (.tmp 1) rfl w.heap.size rfl 59 _ (0, 0) _ k3 Try.underlying59 rfl (size43 hl) ?_) | (refine wpList_store_row rfl 59 (.tmp 2) (.tmp 7) rfl (w.heap.size + 1) _ rfl rfl 59 Z z3 (size43 hl) (by rw [ZS.out]; simp [hl]) h1c ?_))
  have hg := setRow_heap _ (w.heap.size + 1) Z (hd ++ [Value.slice A' n2 c', Value.slice B' m2 d']).toArray 59 (0, 0) z3
  refine bodyPost_ret (results_cell_row rfl _ _ (w.heap.size + 1) 59 _ (0, 0) _ rfl hg Try.underlying59 rfl (size43 hl)) rfl ?_
  have hm : ∀ k, W0.heap.size ≤ k → k < w2.heap.size → (((w2.setCell ⟨w.heap.size, 41, none⟩ (.slice A' n2 c')).setCell ⟨w.heap.size, 42, none⟩ (.slice B' m2 d')).setRow (w.heap.size + 1) (hd ++ [Value.slice A' n2 c', Value.slice B' m2 d']).toArray).heap[k]? = w2.heap[k]? := fun k h1 h2 => by
    rw [setRow_other _ _ k _ (by omega), O3.out k (by omega)]
  exact ⟨_, rfl, HM.out _ _ _ _ _ (R_new2 hV hm (by omega)) (R_new2 hL hm (by omega)), below_setRow Q3.out _ (by omega) _⟩
end Go.Proofs.Ytpjachbmllklgaa.Rng
