/- Several texts in one. -/
import Derived.Test.YtpjachbmllklgaaKinds
import Derived.Test.YtpjachbmllklgaaPCoux1
import Derived.Test.YtpjachbmllklgaaPCoux3
import Derived.Test.YtpjachbmllklgaaLgA
section
/- An entry in memory of its own: copied, OwnEntry. -/
namespace Go.Proofs.Ytpjachbmllklgaa.Rng
open Go.RowKit Go.Proofs.YtpjachbmllklgaaW.PrintWords Go.Proofs.Ytpjachbmllklgaa.Kinds Go.Proofs.Ytpjachbmllklgaa.PCou
set_option linter.unusedVariables false
set_option linter.unusedSimpArgs false
attribute [local go_sem] Oper.semAt_some

/-- An entry's cells: 41, and its council's two. -/
theorem ent_split {w : World} {x : Ent} {cs : List Value} (h : kEnt.K w x cs) : ∃ (hd : List Value) (A : Option Addr) (c : Nat) (B : Option Addr) (d : Nat), hd.length = 41 ∧ cs = hd ++ [.slice A x.2.2.2.2.1.length c, .slice B x.2.2.2.2.2.length d] ∧
    x.2.2.2.2.1.length ≤ c ∧ (Kd.int .i64).C w A x.2.2.2.2.1.length x.2.2.2.2.1 ∧ x.2.2.2.2.2.length ≤ d ∧ (Kd.int .i64).C w B x.2.2.2.2.2.length x.2.2.2.2.2 ∧ (∀ u ∈ hd, u.oneCell' = true) ∧
    (∀ (w' : World) (base : Nat) (ok : Nat → Prop) (V L : Value), (Kd.int .i64).R 3 w' base ok V x.2.2.2.2.1 → (Kd.int .i64).R 3 w' base ok L x.2.2.2.2.2 → kEnt.M w' base ok x (hd ++ [V, L])) := by
  have h1 := kEnt.K_one h
  obtain ⟨_, _, rfl, rfl, _, _, rfl, rfl, _, _, rfl, rfl, cc, cu, rfl, hc, _, _, rfl, ⟨A2, c2, rfl, h2, h3⟩, ⟨A3, c3, rfl, h4, h5⟩⟩ := h
  have hcl : cc.length = 38 := kCmd.K_len hc
  refine ⟨[.int .i64 x.1] ++ ([.int .i64 x.2.1] ++ ([.int .i64 x.2.2.1] ++ cc)), A2, c2, A3, c3, by simp [hcl], by simp, h2, h3, h4, h5, fun u hu => h1 u ?_, fun w' base ok V L hV hL => ?_⟩
  · simp only [List.mem_append] at hu ⊢
    rcases hu with hu | hu | hu | hu
    · exact .inl hu
    · exact .inr (.inl hu)
    · exact .inr (.inr (.inl hu))
    · exact .inr (.inr (.inr (.inl hu)))
  · refine ⟨[.int .i64 x.1], _, by simp only [List.append_assoc], rfl, [.int .i64 x.2.1], _, rfl, rfl, [.int .i64 x.2.2.1], _, rfl, rfl, cc, [V, L], rfl, ?_, [V], [L], rfl, ⟨V, rfl, hV⟩, ⟨L, rfl, hL⟩⟩
    obtain ⟨_, _, rfl, k1, _, _, rfl, k2, _, _, rfl, k3, _, _, rfl, k4, _, _, rfl, k5, _, _, rfl, k6, k7⟩ := hc
    exact ⟨_, _, rfl, k1, _, _, rfl, k2, _, _, rfl, k3, _, _, rfl, k4, _, _, rfl, k5, _, _, rfl, k6, k7⟩

theorem R_new2 {α : Type} {d : Kd α} {e b base : Nat} {ok : Nat → Prop} {W W' : World} {v : Value} {xs : List α} (h : d.R e W b ok v xs) (hm : ∀ k, b ≤ k → k < W.heap.size → W'.heap[k]? = W.heap[k]?) (hb : base ≤ b) : d.R e W' base (fun _ => True) v xs :=
  Kd.R_mono (Kd.R_lower (Kd.R_move (Kd.R_bound h) (fun k hk => hm k hk.2.1 hk.2.2.1)) hb) (fun _ _ => trivial)
theorem M_new2 {α : Type} {d : Kd α} {b base : Nat} {ok : Nat → Prop} {W W' : World} {x : α} {cs : List Value} (h : d.M W b ok x cs) (hm : ∀ k, b ≤ k → k < W.heap.size → W'.heap[k]? = W.heap[k]?) (hb : base ≤ b) : d.M W' base (fun _ => True) x cs :=
  d.M_mono (fun _ _ => trivial) (d.M_lower hb (d.M_move (fun k hk => hm k hk.2.1 hk.2.2.1) (d.M_bound h)))
/-- An entry's council is stored to, in its box. -/
theorem set_council {W : World} {g : Nat} {hd : List Value} {a b : Value} {t : TypeId} (hl : hd.length = 41) (h : W.heap[g]? = some (.cells (hd ++ [a, b]).toArray t (0, 0))) (V L : Value) :
    ((W.setCell ⟨g, 41, none⟩ V).setCell ⟨g, 42, none⟩ L).heap[g]? = some (.cells (hd ++ [V, L]).toArray t (0, 0)) := by
  have h1 : (W.setCell ⟨g, 41, none⟩ V).heap[g]? = some (.cells (hd ++ [V, b]).toArray t (0, 0)) := by
    simp [World.setCell, Array.getElem?_modify, h, List.set_append, hl]
  simp only [World.setCell] at h1 ⊢
  rw [Array.getElem?_modify, if_pos rfl, h1]
  simp [List.set_append, hl]
theorem set2_other {W : World} {g k : Nat} (hk : k ≠ g) (i j : Nat) (V L : Value) : ((W.setCell ⟨g, i, none⟩ V).setCell ⟨g, j, none⟩ L).heap[k]? = W.heap[k]? := by
  rw [Below.heap_setCell _ _ _ _ hk, Below.heap_setCell _ _ _ _ hk]
theorem size43 {hd : List Value} {a b : Value} (hl : hd.length = 41) : (Try.prog.info? 59).map (·.size) = some (hd ++ [a, b]).toArray.size := by rw [size59]; simp [hl]

set_option maxHeartbeats 1000000 in
set_option maxRecDepth 100000 in
theorem copied_c (x : Ent) (cs : List Value) (w : World) (h : kEnt.K w x cs) (h1 : x.2.2.2.2.1.length < 17592186044416) (h2 : x.2.2.2.2.2.length < 17592186044416) :
    Calls Try.prog 53 #[.agg cs.toArray] w fun e w' => ∃ cs', e = .returned (.agg cs'.toArray) ∧ kEnt.M w' w.heap.size (fun _ => True) x cs' ∧ Below w.heap.size w w' := by
  have e46 : ∀ args w, (callFunc 46 args).run Try.prog w = .ok (.enter 46 args) w := enters_of Try.func46 (by kernel_rfl) rfl
  obtain ⟨hd, A, c, B, d, hl, rfl, hc, hA, hd', hB, hone, hM⟩ := ent_split h
  clear h
  have HM := Aside0.mk hM
  have HO := Aside0.mk hone
  clear hM hone
  have HH : Aside0 (∀ W, (Kd.int .i64).C W A x.2.2.2.2.1.length x.2.2.2.2.1 → (Kd.int .i64).C W B x.2.2.2.2.2.length x.2.2.2.2.2 → Calls Try.prog 46 #[.agg #[.slice A x.2.2.2.2.1.length c, .slice B x.2.2.2.2.2.length d]] W fun e w' => ∃ v0_ v1_ : Value, e = .returned (.agg #[v0_, v1_]) ∧ Kd.R (Kd.int .i64) 3 w' W.heap.size (fun k_ => some k_ ≠ (v1_ : Value).ownBlock) v0_ x.2.2.2.2.1 ∧ Kd.R (Kd.int .i64) 3 w' W.heap.size (fun k_ => some k_ ≠ (v0_ : Value).ownBlock) v1_ x.2.2.2.2.2 ∧ Below W.heap.size W w') :=
    ⟨fun W k1 k2 => ledger_own.calls A c _ B d _ _ _ W k1 hc k2 hd' (by unfold ledger_own.f slices_Clone_int_int.f; rw [if_pos h1, if_pos h2]; rfl)⟩
  have HA := Aside0.mk hA
  have HB := Aside0.mk hB
  clear hA hB hc hd' h1 h2
  generalize x.2.2.2.2.1.length = n at *
  generalize x.2.2.2.2.2.length = m at *
  have hsz : (hd ++ [Value.slice A n c, Value.slice B m d]).length = 43 := by simp [hl]
  go_enter Try.func53, Try.ntmps53
  go_wp2_with fail
  obtain ⟨Z, hZ⟩ : ∃ Z : Array Value, (#[.int .i64 0, .int .i64 0, .int .i64 0, .int .i64 0, .int .i64 0, .int .i64 0, .string ⟨#[]⟩, .string ⟨#[]⟩, .int .i64 0, .int .u8 0, .int .u8 0, .int .u8 0, .int .u8 0, .int .u8 0, .int .u8 0, .int .u8 0, .int .u8 0, .int .u8 0, .int .u8 0, .int .u8 0, .int .u8 0, .int .u8 0, .int .u8 0, .int .u8 0, .int .u8 0, .int .u8 0, .int .u8 0, .int .u8 0, .int .u8 0, .int .u8 0, .int .u8 0, .int .u8 0, .int .u8 0, .int .u8 0, .int .u8 0, .int .u8 0, .int .u8 0, .int .u8 0, .int .u8 0, .int .u8 0, .int .u8 0, .slice none 0 0, .slice none 0 0] : Array Value) = Z := ⟨_, rfl⟩
  have hZs : Z.size = 43 := by rw [← hZ]; rfl
  rw [hZ]
  clear hZ
  have q0 : Below w.heap.size w ((w.alloc (.cells (hd ++ [Value.slice A n c, Value.slice B m d]).toArray 59)).alloc (.cells Z 59)) := ((Below.refl _ w).alloc (Nat.le_refl _) _).alloc (by simp) _
  have hs0 : ((w.alloc (.cells (hd ++ [Value.slice A n c, Value.slice B m d]).toArray 59)).alloc (.cells Z 59)).heap.size = w.heap.size + 2 := by simp
  have k0 := blk_alloc (blk_new w (.cells (hd ++ [Value.slice A n c, Value.slice B m d]).toArray 59)) (.cells Z 59)
  have z0 := blk_new (w.alloc (.cells (hd ++ [Value.slice A n c, Value.slice B m d]).toArray 59)) (.cells Z 59)
  rw [World.size_alloc] at z0
  generalize ((w.alloc (.cells (hd ++ [Value.slice A n c, Value.slice B m d]).toArray 59)).alloc (.cells Z 59)) = W0 at q0 hs0 k0 z0 ⊢
  refine (HH.out W0 (Kd.C_below HA.out q0) (Kd.C_below HB.out q0)).mono ?_
  rintro e w2 ⟨V, L, rfl, hV, hL, hb2⟩
  obtain ⟨A', c', eV⟩ := Kd.R_slice hV
  obtain ⟨B', d', eL⟩ := Kd.R_slice hL
  have oV : V.oneCell' = true := by rw [eV]; rfl
  have oL : L.oneCell' = true := by rw [eL]; rfl
  have hszw := hb2.size
  have k2 := (hb2.block w.heap.size (by omega)).trans k0
  have z2 := (hb2.block (w.heap.size + 1) (by omega)).trans z0
  have q2 : Below w.heap.size w w2 := q0.trans (hb2.mono q0.size)
  subst eV eL
  generalize x.2.2.2.2.1.length = n2 at *
  generalize x.2.2.2.2.2.length = m2 at *
  clear HH HA HB q0 k0 z0 hb2 oV oL
  have c41 : w2.cell? ⟨w.heap.size, 41, none⟩ = some (.slice A n c) := by simp [World.cell?, k2, List.getElem?_append, hl]
  have c42 : w2.cell? ⟨w.heap.size, 42, none⟩ = some (.slice B m d) := by simp [World.cell?, k2, List.getElem?_append, hl]
  have f41 : w2.frozen? ⟨w.heap.size, 41, none⟩ = false := by simp [World.frozen?, k2]
  have f42 : w2.frozen? ⟨w.heap.size, 42, none⟩ = false := by simp [World.frozen?, k2]
  have k3 := set_council hl k2 (.slice A' n2 c') (.slice B' m2 d')
  have z3 := (set2_other (W := w2) (show w.heap.size + 1 ≠ w.heap.size by omega) 41 42 (.slice A' n2 c') (.slice B' m2 d')).trans z2
  have q3 : Below w.heap.size w ((w2.setCell ⟨w.heap.size, 41, none⟩ (.slice A' n2 c')).setCell ⟨w.heap.size, 42, none⟩ (.slice B' m2 d')) := (q2.setCell (p := ⟨w.heap.size, 41, none⟩) (Nat.le_refl _) _).setCell (p := ⟨w.heap.size, 42, none⟩) (Nat.le_refl _) _
  have o3 : ∀ k, k ≠ w.heap.size → ((w2.setCell ⟨w.heap.size, 41, none⟩ (.slice A' n2 c')).setCell ⟨w.heap.size, 42, none⟩ (.slice B' m2 d')).heap[k]? = w2.heap[k]? := fun k hk => set2_other hk 41 42 _ _
  have h1c : (hd ++ [Value.slice A' n2 c', Value.slice B' m2 d']).toArray.all (·.oneCell') = true := by
    rw [Array.all_eq_true_iff_forall_mem]
    intro u hu
    have hu' : u ∈ hd ∨ u = .slice A' n2 c' ∨ u = .slice B' m2 d' := by simpa using hu
    rcases hu' with hu' | rfl | rfl
    · exact HO.out u hu'
    · rfl
    · rfl
  have Q3 := Aside0.mk q3
  have O3 := Aside0.mk o3
  have ZS := Aside0.mk hZs
  clear q3 o3 hZs
  go_wp2_with (first | (refine wpList_load_row rfl 59 (.tmp 1) rfl w.heap.size rfl 59 _ (0, 0) _ k3 Try.underlying59 rfl (size43 hl) ?_) | (refine wpList_store_row rfl 59 (.tmp 2) (.tmp 7) rfl (w.heap.size + 1) _ rfl rfl 59 Z z3 (size43 hl) (by rw [ZS.out]; simp [hl]) h1c ?_))
  have hg := setRow_heap _ (w.heap.size + 1) Z (hd ++ [Value.slice A' n2 c', Value.slice B' m2 d']).toArray 59 (0, 0) z3
  refine bodyPost_ret (results_cell_row rfl _ _ (w.heap.size + 1) 59 _ (0, 0) _ rfl hg Try.underlying59 rfl (size43 hl)) rfl ?_
  have hm : ∀ k, W0.heap.size ≤ k → k < w2.heap.size → (((w2.setCell ⟨w.heap.size, 41, none⟩ (.slice A' n2 c')).setCell ⟨w.heap.size, 42, none⟩ (.slice B' m2 d')).setRow (w.heap.size + 1) (hd ++ [Value.slice A' n2 c', Value.slice B' m2 d']).toArray).heap[k]? = w2.heap[k]? := fun k h1 h2 => by
    rw [setRow_other _ _ k _ (by omega), O3.out k (by omega)]
  exact ⟨_, rfl, HM.out _ _ _ _ _ (R_new2 hV hm (by omega)) (R_new2 hL hm (by omega)), below_setRow Q3.out _ (by omega) _⟩
set_option maxHeartbeats 1000000 in
set_option maxRecDepth 100000 in
theorem ownEntry_c (x : Ent) (cs : List Value) (w : World) (h : kEnt.K w x cs) (h1 : x.2.2.2.2.1.length < 17592186044416) (h2 : x.2.2.2.2.2.length < 17592186044416) :
    Calls Try.prog 44 #[.agg cs.toArray] w fun e w' => ∃ cs', e = .returned (.agg cs'.toArray) ∧ kEnt.M w' w.heap.size (fun _ => True) x cs' ∧ Below w.heap.size w w' := by
  have e47 : ∀ args w, (callFunc 47 args).run Try.prog w = .ok (.enter 47 args) w := enters_of Try.func47 (by kernel_rfl) rfl
  obtain ⟨hd, A, c, B, d, hl, rfl, hc, hA, hd', hB, hone, hM⟩ := ent_split h
  clear h
  have HM := Aside0.mk hM
  have HO := Aside0.mk hone
  clear hM hone
  have HH : Aside0 (∀ W, (Kd.int .i64).C W A x.2.2.2.2.1.length x.2.2.2.2.1 → (Kd.int .i64).C W B x.2.2.2.2.2.length x.2.2.2.2.2 → Calls Try.prog 47 #[.agg #[.slice A x.2.2.2.2.1.length c, .slice B x.2.2.2.2.2.length d]] W fun e w' => ∃ v0_ v1_ : Value, e = .returned (.agg #[v0_, v1_]) ∧ Kd.R (Kd.int .i64) 3 w' W.heap.size (fun k_ => some k_ ≠ (v1_ : Value).ownBlock) v0_ x.2.2.2.2.1 ∧ Kd.R (Kd.int .i64) 3 w' W.heap.size (fun k_ => some k_ ≠ (v0_ : Value).ownBlock) v1_ x.2.2.2.2.2 ∧ Below W.heap.size W w') :=
    ⟨fun W k1 k2 => r08_OwnCouncil.calls A c _ B d _ _ _ W k1 hc k2 hd' (by unfold r08_OwnCouncil.f r08_numbers.f; rw [if_pos (by simpa using h1), if_pos (by simpa using h2)]; rfl)⟩
  have HA := Aside0.mk hA
  have HB := Aside0.mk hB
  clear hA hB hc hd' h1 h2
  generalize x.2.2.2.2.1.length = n at *
  generalize x.2.2.2.2.2.length = m at *
  have hsz : (hd ++ [Value.slice A n c, Value.slice B m d]).length = 43 := by simp [hl]
  go_enter Try.func44, Try.ntmps44
  go_wp2_with fail
  obtain ⟨Z, hZ⟩ : ∃ Z : Array Value, (#[.int .i64 0, .int .i64 0, .int .i64 0, .int .i64 0, .int .i64 0, .int .i64 0, .string ⟨#[]⟩, .string ⟨#[]⟩, .int .i64 0, .int .u8 0, .int .u8 0, .int .u8 0, .int .u8 0, .int .u8 0, .int .u8 0, .int .u8 0, .int .u8 0, .int .u8 0, .int .u8 0, .int .u8 0, .int .u8 0, .int .u8 0, .int .u8 0, .int .u8 0, .int .u8 0, .int .u8 0, .int .u8 0, .int .u8 0, .int .u8 0, .int .u8 0, .int .u8 0, .int .u8 0, .int .u8 0, .int .u8 0, .int .u8 0, .int .u8 0, .int .u8 0, .int .u8 0, .int .u8 0, .int .u8 0, .int .u8 0, .slice none 0 0, .slice none 0 0] : Array Value) = Z := ⟨_, rfl⟩
  have hZs : Z.size = 43 := by rw [← hZ]; rfl
  rw [hZ]
  clear hZ
  have q0 : Below w.heap.size w ((w.alloc (.cells (hd ++ [Value.slice A n c, Value.slice B m d]).toArray 59)).alloc (.cells Z 59)) := ((Below.refl _ w).alloc (Nat.le_refl _) _).alloc (by simp) _
  have hs0 : ((w.alloc (.cells (hd ++ [Value.slice A n c, Value.slice B m d]).toArray 59)).alloc (.cells Z 59)).heap.size = w.heap.size + 2 := by simp
  have k0 := blk_alloc (blk_new w (.cells (hd ++ [Value.slice A n c, Value.slice B m d]).toArray 59)) (.cells Z 59)
  have z0 := blk_new (w.alloc (.cells (hd ++ [Value.slice A n c, Value.slice B m d]).toArray 59)) (.cells Z 59)
  rw [World.size_alloc] at z0
  generalize ((w.alloc (.cells (hd ++ [Value.slice A n c, Value.slice B m d]).toArray 59)).alloc (.cells Z 59)) = W0 at q0 hs0 k0 z0 ⊢
  refine (HH.out W0 (Kd.C_below HA.out q0) (Kd.C_below HB.out q0)).mono ?_
  rintro e w2 ⟨V, L, rfl, hV, hL, hb2⟩
  obtain ⟨A', c', eV⟩ := Kd.R_slice hV
  obtain ⟨B', d', eL⟩ := Kd.R_slice hL
  have oV : V.oneCell' = true := by rw [eV]; rfl
  have oL : L.oneCell' = true := by rw [eL]; rfl
  have hszw := hb2.size
  have k2 := (hb2.block w.heap.size (by omega)).trans k0
  have z2 := (hb2.block (w.heap.size + 1) (by omega)).trans z0
  have q2 : Below w.heap.size w w2 := q0.trans (hb2.mono q0.size)
  subst eV eL
  generalize x.2.2.2.2.1.length = n2 at *
  generalize x.2.2.2.2.2.length = m2 at *
  clear HH HA HB q0 k0 z0 hb2 oV oL
  have c41 : w2.cell? ⟨w.heap.size, 41, none⟩ = some (.slice A n c) := by simp [World.cell?, k2, List.getElem?_append, hl]
  have c42 : w2.cell? ⟨w.heap.size, 42, none⟩ = some (.slice B m d) := by simp [World.cell?, k2, List.getElem?_append, hl]
  have f41 : w2.frozen? ⟨w.heap.size, 41, none⟩ = false := by simp [World.frozen?, k2]
  have f42 : w2.frozen? ⟨w.heap.size, 42, none⟩ = false := by simp [World.frozen?, k2]
  have k3 := set_council hl k2 (.slice A' n2 c') (.slice B' m2 d')
  have z3 := (set2_other (W := w2) (show w.heap.size + 1 ≠ w.heap.size by omega) 41 42 (.slice A' n2 c') (.slice B' m2 d')).trans z2
  have q3 : Below w.heap.size w ((w2.setCell ⟨w.heap.size, 41, none⟩ (.slice A' n2 c')).setCell ⟨w.heap.size, 42, none⟩ (.slice B' m2 d')) := (q2.setCell (p := ⟨w.heap.size, 41, none⟩) (Nat.le_refl _) _).setCell (p := ⟨w.heap.size, 42, none⟩) (Nat.le_refl _) _
  have o3 : ∀ k, k ≠ w.heap.size → ((w2.setCell ⟨w.heap.size, 41, none⟩ (.slice A' n2 c')).setCell ⟨w.heap.size, 42, none⟩ (.slice B' m2 d')).heap[k]? = w2.heap[k]? := fun k hk => set2_other hk 41 42 _ _
  have h1c : (hd ++ [Value.slice A' n2 c', Value.slice B' m2 d']).toArray.all (·.oneCell') = true := by
    rw [Array.all_eq_true_iff_forall_mem]
    intro u hu
    have hu' : u ∈ hd ∨ u = .slice A' n2 c' ∨ u = .slice B' m2 d' := by simpa using hu
    rcases hu' with hu' | rfl | rfl
    · exact HO.out u hu'
    · rfl
    · rfl
  have Q3 := Aside0.mk q3
  have O3 := Aside0.mk o3
  have ZS := Aside0.mk hZs
  clear q3 o3 hZs
  go_wp2_with (first | (refine wpList_load_row rfl 59 (.tmp 1) rfl w.heap.size rfl 59 _ (0, 0) _ k3 Try.underlying59 rfl (size43 hl) ?_) | (refine wpList_store_row rfl 59 (.tmp 2) (.tmp 7) rfl (w.heap.size + 1) _ rfl rfl 59 Z z3 (size43 hl) (by rw [ZS.out]; simp [hl]) h1c ?_))
  have hg := setRow_heap _ (w.heap.size + 1) Z (hd ++ [Value.slice A' n2 c', Value.slice B' m2 d']).toArray 59 (0, 0) z3
  refine bodyPost_ret (results_cell_row rfl _ _ (w.heap.size + 1) 59 _ (0, 0) _ rfl hg Try.underlying59 rfl (size43 hl)) rfl ?_
  have hm : ∀ k, W0.heap.size ≤ k → k < w2.heap.size → (((w2.setCell ⟨w.heap.size, 41, none⟩ (.slice A' n2 c')).setCell ⟨w.heap.size, 42, none⟩ (.slice B' m2 d')).setRow (w.heap.size + 1) (hd ++ [Value.slice A' n2 c', Value.slice B' m2 d']).toArray).heap[k]? = w2.heap[k]? := fun k h1 h2 => by
    rw [setRow_other _ _ k _ (by omega), O3.out k (by omega)]
  exact ⟨_, rfl, HM.out _ _ _ _ _ (R_new2 hV hm (by omega)) (R_new2 hL hm (by omega)), below_setRow Q3.out _ (by omega) _⟩
end Go.Proofs.Ytpjachbmllklgaa.Rng
end
section
/- Entries: where the first one beyond a number is; each one copied. -/
namespace Go.Proofs.Ytpjachbmllklgaa.Rng
open Go.RowKit Go.Proofs.YtpjachbmllklgaaW.PrintWords Go.Proofs.Ytpjachbmllklgaa.Kinds Go.Proofs.Ytpjachbmllklgaa.PCou
set_option linter.unusedVariables false
set_option linter.unusedSimpArgs false
attribute [local go_sem] Oper.semAt_some

/-- Entries that are read. -/
structure LX (W : World) (A : Option Addr) (b off : Nat) (css : List (List Value)) (xs : List Ent) : Prop where
  len : css.length = xs.length
  A : 0 < css.length → A = some ⟨b, off, none⟩
  row : Row W b off css
  K : ∀ j, j < css.length → kEnt.K W xs[j]! css[j]!
  cou : ∀ x ∈ xs, x.2.2.2.2.1.length < 17592186044416 ∧ x.2.2.2.2.2.length < 17592186044416
  wi : ∀ x ∈ xs, -9223372036854775808 ≤ x.1 ∧ x.1 ≤ 9223372036854775807
  b : b < W.heap.size ∨ css = []
  small : css.length ≤ 1000000
theorem LX.below {W W' : World} {A : Option Addr} {b off : Nat} {css : List (List Value)} {xs : List Ent} (h : LX W A b off css xs) (hb : Below W.heap.size W W') : LX W' A b off css xs := by
  refine ⟨h.len, h.A, ?_, fun j hj => kEnt.K_below hb (h.K j hj), h.cou, h.wi, ?_, h.small⟩
  · rcases h.b with g | g
    · exact h.row.same (hb.block b g)
    · subst g; intro j hj; simp at hj
  · rcases h.b with g | g
    · exact .inl (Nat.lt_of_lt_of_le g hb.size)
    · exact .inr g
theorem LX.isE {W : World} {A : Option Addr} {b off : Nat} {css : List (List Value)} {xs : List Ent} (h : LX W A b off css xs) (j : Nat) (hj : j < css.length) : IsE css[j]! ∧ itOf css[j]! = ((xs[j]!).1, (xs[j]!).2.1) ∧ IsC css[j]! := ent_cells (h.K j hj)
theorem LX.mem {W : World} {A : Option Addr} {b off : Nat} {css : List (List Value)} {xs : List Ent} (h : LX W A b off css xs) (j : Nat) (hj : j < css.length) : xs[j]! ∈ xs := by
  have := h.len
  rw [getElem!_pos xs j (by omega)]
  exact List.getElem_mem _
def itX (xs : List Ent) : List (Int × Int) := xs.map (fun x => (x.1, x.2.1))
theorem LX.its_eq {W : World} {A : Option Addr} {b off : Nat} {css : List (List Value)} {xs : List Ent} (h : LX W A b off css xs) : its css = itX xs := by
  unfold its itX
  apply List.ext_getElem?
  intro j
  rw [List.getElem?_map, List.getElem?_map]
  have hl := h.len
  by_cases hj : j < css.length
  · have h1 := (h.isE j hj).2.1
    rw [getElem!_pos css j hj, getElem!_pos xs j (by omega)] at h1
    rw [List.getElem?_eq_getElem hj, List.getElem?_eq_getElem (by omega)]
    simp [h1]
  · rw [List.getElem?_eq_none (by omega), List.getElem?_eq_none (by omega)]
    rfl
theorem LX.lg {W : World} {s : Sv} {b off : Nat} {css : List (List Value)} {xs : List Ent} (h : LX W s.A b off css xs) (hn : s.n = css.length) : Lg W s b off css :=
  ⟨hn, h.A, h.row, fun j hj => (h.isE j hj).1, fun j hj => by rw [(h.isE j hj).2.1]; exact h.wi _ (h.mem j hj), h.small, h.b⟩
theorem LX.drop {W : World} {A : Option Addr} {b off : Nat} {css : List (List Value)} {xs : List Ent} (h : LX W A b off css xs) (k : Nat) : LX W (some ⟨b, off + k * 43, none⟩) b (off + k * 43) (css.drop k) (xs.drop k) := by
  have hl := h.len
  have e1 : ∀ j, j < (css.drop k).length → (css.drop k)[j]! = css[k + j]! := fun j hj => by
    rw [List.length_drop] at hj
    rw [getElem!_pos _ j (by rw [List.length_drop]; exact hj), getElem!_pos _ (k + j) (by omega), List.getElem_drop]
  have e2 : ∀ j, j < (css.drop k).length → (xs.drop k)[j]! = xs[k + j]! := fun j hj => by
    rw [List.length_drop] at hj
    rw [getElem!_pos _ j (by rw [List.length_drop]; omega), getElem!_pos _ (k + j) (by omega), List.getElem_drop]
  refine ⟨by rw [List.length_drop, List.length_drop, hl], fun _ => rfl, fun j hj => ?_, fun j hj => ?_, fun x hx => h.cou x (List.mem_of_mem_drop hx), fun x hx => h.wi x (List.mem_of_mem_drop hx), ?_, by rw [List.length_drop]; have := h.small; omega⟩
  · rw [e1 j hj]
    rw [List.length_drop] at hj
    have := h.row (k + j) (by omega)
    rw [show off + (k + j) * 43 = off + k * 43 + j * 43 by omega] at this
    exact this
  · rw [e1 j hj, e2 j hj]
    rw [List.length_drop] at hj
    exact h.K (k + j) (by omega)
  · rcases h.b with g | g
    · exact .inl g
    · exact .inr (by rw [g]; simp)
theorem LX.take {W : World} {A : Option Addr} {b off : Nat} {css : List (List Value)} {xs : List Ent} (h : LX W A b off css xs) (k : Nat) : LX W A b off (css.take k) (xs.take k) := by
  have hl := h.len
  have e1 : ∀ j, j < (css.take k).length → (css.take k)[j]! = css[j]! := fun j hj => by
    rw [List.length_take] at hj
    rw [getElem!_pos _ j (by rw [List.length_take]; exact hj), getElem!_pos _ j (by omega), List.getElem_take]
  have e2 : ∀ j, j < (css.take k).length → (xs.take k)[j]! = xs[j]! := fun j hj => by
    rw [List.length_take] at hj
    rw [getElem!_pos _ j (by rw [List.length_take]; omega), getElem!_pos _ j (by omega), List.getElem_take]
  refine ⟨by rw [List.length_take, List.length_take, hl], fun g => h.A (by rw [List.length_take] at g; omega), fun j hj => ?_, fun j hj => ?_, fun x hx => h.cou x (List.mem_of_mem_take hx), fun x hx => h.wi x (List.mem_of_mem_take hx), ?_, by rw [List.length_take]; have := h.small; omega⟩
  · rw [e1 j hj]
    rw [List.length_take] at hj
    exact h.row j (by omega)
  · rw [e1 j hj, e2 j hj]
    rw [List.length_take] at hj
    exact h.K j (by omega)
  · rcases h.b with g | g
    · exact .inl g
    · exact .inr (by rw [g]; simp)
theorem all_one {cs : List Value} (h : ∀ u ∈ cs, u.oneCell' = true) : cs.toArray.all (·.oneCell') = true := by
  rw [Array.all_eq_true_iff_forall_mem]
  intro u hu
  exact h u (by simpa using hu)

set_option maxHeartbeats 400000 in
set_option maxRecDepth 100000 in
theorem beyond_c (cs : List Value) (hE : IsE cs) (g : Nat) (index : Int) (w : World) (hg : w.cell? ⟨g, 0, none⟩ = some (.int .i64 index)) :
    Calls Try.prog 51 #[.agg cs.toArray, .pointer (some ⟨g, 0, none⟩)] w fun e w' => e = .returned (.bool (decide ((itOf cs).1 > index))) ∧ Below w.heap.size w w' := by
  have hcell : (w.alloc (.cells cs.toArray 59)).cell? ⟨w.heap.size, 0, none⟩ = some (.int .i64 (itOf cs).1) := by
    simp only [World.cell?]
    rw [blk_new]
    simpa using hE.i0
  have hlt : g < w.heap.size := by
    have := block_lt_of_cell hg
    exact this
  have hg2 : (w.alloc (.cells cs.toArray 59)).cell? ⟨g, 0, none⟩ = some (.int .i64 index) := by
    rw [← hg]
    simp only [World.cell?]
    rw [Below.heap_alloc _ _ _ hlt]
  go_enter Try.func51, Try.ntmps51
  go_wp2
  go_ret
  exact ⟨rfl, (Below.refl _ w).alloc (Nat.le_refl _) _⟩
/-- Where the first entry beyond a number is; -1: none. -/
def beyV (xs : List Ent) (index : Int) : Int := match xs.findIdx? (fun x => decide (x.1 > index)) with
  | some i => i
  | none => -1

theorem beyV_hit (xs : List Ent) (index : Int) (k : Nat) (hk : k < xs.length) (h : xs[k]!.1 > index) (hj : ∀ j, j < k → (xs[j]!).1 ≤ index) : beyV xs index = k := by
  have : xs.findIdx? (fun x => decide (x.1 > index)) = some k := by
    rw [List.findIdx?_eq_some_iff_getElem]
    refine ⟨hk, by rw [getElem!_pos xs k hk] at h; exact decide_eq_true h, fun j hjk => ?_⟩
    have := hj j hjk
    rw [getElem!_pos xs j (by omega)] at this
    simp only [decide_eq_true_eq]
    omega
  unfold beyV
  rw [this]
theorem beyV_none (xs : List Ent) (index : Int) (hj : ∀ j, j < xs.length → (xs[j]!).1 ≤ index) : beyV xs index = -1 := by
  have : xs.findIdx? (fun x => decide (x.1 > index)) = none := by
    rw [List.findIdx?_eq_none_iff]
    intro x hx
    obtain ⟨j, hj1, rfl⟩ := List.getElem_of_mem hx
    have := hj j hj1
    rw [getElem!_pos xs j hj1] at this
    simp only [decide_eq_false_iff_not]
    omega
  unfold beyV
  rw [this]

set_option maxHeartbeats 400000 in
set_option maxRecDepth 100000 in
theorem index_c (A : Option Addr) (n c b off : Nat) (css : List (List Value)) (xs : List Ent) (w : World) (h : LX w A b off css xs) (hn : n = css.length) (g : Nat) (index : Int) (hg : w.cell? ⟨g, 0, none⟩ = some (.int .i64 index)) :
    Calls Try.prog 50 #[.slice A n c, .func (.func 51) #[] #[.pointer (some ⟨g, 0, none⟩)]] w fun e w' => e = .returned (.int .i64 (beyV xs index)) ∧ Below w.heap.size w w' := by
  have e51 : ∀ args w, (callFunc 51 args).run Try.prog w = .ok (.enter 51 args) w := enters_of Try.func51 (by kernel_rfl) rfl
  subst hn
  have hgl : g < w.heap.size := block_lt_of_cell hg
  have HG := Aside0.mk hg
  have H := Aside0.mk h
  have hsm := h.small
  clear h hg
  generalize hrv : beyV xs index = rv
  have RV := Aside0.mk hrv
  clear hrv
  go_enter Try.func50, Try.ntmps50
  go_wp2_with fail
  go_loopg [8] css.length (fun gg s8 wr => ∃ kk : Nat, kk ≤ css.length ∧ css.length - kk ≤ gg ∧ s8 = .int .i64 kk ∧ Aside (Below w.heap.size w wr) ∧ Aside (∀ j, j < kk → (xs[j]!).1 ≤ index))
  case atStart => exact ⟨0, by omega, by omega, rfl, Below.refl _ _, fun j hj => absurd hj (Nat.not_lt_zero _)⟩
  case round =>
    obtain ⟨kk, hk, hgg, rfl, B, G⟩ := hrel
    by_cases hlt : kk < css.length
    · have hltz : (kk : Int) < (css.length : Int) := by omega
      obtain rfl := H.out.A (by omega)
      have hL := H.out.below B.out
      have hrg := hL.row kk hlt
      obtain ⟨hE, hit, _⟩ := hL.isE kk hlt
      clear hL
      have hg2 : wr.cell? ⟨g, 0, none⟩ = some (.int .i64 index) := (B.out.cell (p := ⟨g, 0, none⟩) hgl).trans HG.out
      generalize hcs : css[kk]! = cs at hrg hE hit
      have CS := Aside0.mk hcs
      clear hcs
      have hi59 : (Try.prog.info? 59).map (·.size) = some cs.length := by rw [hE.len]; exact size59
      have HB := Aside0.mk (beyond_c cs hE g index wr hg2)
      have hsz := B.out.size
      rw [hit] at HB
      dsimp only at HB
      have IT := Aside0.mk hit
      clear hE hit hg2
      go_wp2_with (first | (refine wpList_load_mid rfl 59 (.tmp 14) rfl b (off + kk * 43) rfl cs _ hrg Try.underlying59 rfl hi59 ?_))
      refine HB.out.mono ?_
      rintro e w2 ⟨rfl, hb2⟩
      have B2 : Below w.heap.size w w2 := B.out.trans (hb2.mono hsz)
      have HXL := Aside0.mk H.out.len
      by_cases hgt : xs[kk]!.1 > index
      · have hd : decide (xs[kk]!.1 > index) = true := decide_eq_true hgt
        rw [hd]
        go_wp2
        go_ret
        refine ⟨?_, B2⟩
        rw [← RV.out, beyV_hit xs index kk (by rw [← HXL.out]; exact hlt) hgt G.out]
        rfl
      · have hd : decide (xs[kk]!.1 > index) = false := decide_eq_false hgt
        rw [hd]
        have HGT : Aside0 (xs[kk]!.1 ≤ index) := ⟨by omega⟩
        clear hgt hd
        go_wp2
        go_roundg (css.length - (kk + 1))
        case measure => omega
        case rel =>
          refine ⟨kk + 1, by omega, by omega, by go_num, B2, (show Aside _ from fun j hj => ?_)⟩
          by_cases e : j = kk
          · subst e; exact HGT.out
          · exact G.out j (by omega)
    · have hltz : ¬ (kk : Int) < (css.length : Int) := by omega
      have hxl := H.out.len
      have : kk = css.length := by omega
      subst this
      go_wp2
      go_ret
      refine ⟨?_, B.out⟩
      rw [← RV.out, beyV_none xs index (fun j hj => G.out j (by omega))]
      rfl

def z59 : Value := .agg #[.int .i64 0, .int .i64 0, .int .i64 0, .int .i64 0, .int .i64 0, .int .i64 0, .string ⟨#[]⟩, .string ⟨#[]⟩, .int .i64 0, .int .u8 0, .int .u8 0, .int .u8 0, .int .u8 0, .int .u8 0, .int .u8 0, .int .u8 0, .int .u8 0, .int .u8 0, .int .u8 0, .int .u8 0, .int .u8 0, .int .u8 0, .int .u8 0, .int .u8 0, .int .u8 0, .int .u8 0, .int .u8 0, .int .u8 0, .int .u8 0, .int .u8 0, .int .u8 0, .int .u8 0, .int .u8 0, .int .u8 0, .int .u8 0, .int .u8 0, .int .u8 0, .int .u8 0, .int .u8 0, .int .u8 0, .int .u8 0, .slice none 0 0, .slice none 0 0]
theorem info59 : (Try.prog.info? 59).map (fun i => (i.zero, i.size, i.bytes)) = some (some z59, 43, 168) := by kernel_rfl
theorem z59_size : z59.cells.size = 43 := rfl
theorem kEnt_sz : kEnt.sz = 43 := rfl
theorem fold_zip_at : ∀ (cs : List Value) (z : Array Value) (k : Nat), z.size = k + cs.length → (List.foldl (fun (a : Array Value) (x : Value × Nat) => a.setIfInBounds x.2 x.1) z (cs.zipIdx k)).toList = z.toList.take k ++ cs
  | [], z, k, h => by
    simp only [List.zipIdx_nil, List.foldl_nil, List.append_nil]
    rw [List.take_of_length_le (by simp at h ⊢; omega)]
  | c :: cs, z, k, h => by
    rw [List.zipIdx_cons, List.foldl_cons, fold_zip_at cs _ (k + 1) (by simp at h ⊢; omega)]
    simp only [List.length_cons] at h
    have hk : k < z.toList.length := by simp; omega
    rw [Array.toList_setIfInBounds, List.take_add_one, List.take_set_of_le (Nat.le_refl _)]
    simp [List.getElem?_set, hk, show k < z.size by omega]
@[local go_sem] theorem fold_zip (cs : List Value) (z : Array Value) (h : z.size = cs.length) : List.foldl (fun (a : Array Value) (x : Value × Nat) => a.setIfInBounds x.2 x.1) z cs.zipIdx = cs.toArray := by
  apply Array.toList_inj.1
  rw [fold_zip_at cs z 0 (by omega)]
  simp
set_option maxHeartbeats 400000 in
set_option maxRecDepth 100000 in
theorem each_c (A : Option Addr) (n c b off : Nat) (css : List (List Value)) (xs : List Ent) (w : World) (h : LX w A b off css xs) (hn : n = css.length) :
    Calls Try.prog 52 #[.slice A n c, .func (.func 53) #[] #[]] w fun e w' => ∃ v, e = .returned v ∧ kEnt.R 59 w' w.heap.size (fun _ => True) v xs ∧ Below w.heap.size w w' := by
  have e53 : ∀ args w, (callFunc 53 args).run Try.prog w = .ok (.enter 53 args) w := enters_of Try.func53 (by kernel_rfl) rfl
  subst hn
  have H := Aside0.mk h
  have hsm := h.small
  clear h
  go_enter Try.func52, Try.ntmps52
  go_wp2_with fail
  go_loopg [5, 10] css.length (fun gg s5 s10 wr => ∃ kk : Nat, kk ≤ css.length ∧ css.length - kk ≤ gg ∧ s10 = .int .i64 kk ∧ Aside (Below w.heap.size w wr) ∧ Aside (kEnt.R 59 wr w.heap.size (fun _ => True) s5 (xs.take kk)))
  case atStart => exact ⟨0, by omega, by omega, rfl, Below.refl _ _, Kd.R_nil _ _ _ _ _⟩
  case round =>
    obtain ⟨kk, hk, hgg, rfl, B, G⟩ := hrel
    by_cases hlt : kk < css.length
    · have hltz : (kk : Int) < (css.length : Int) := by omega
      obtain rfl := H.out.A (by omega)
      have hL := H.out.below B.out
      have hrg := hL.row kk hlt
      obtain ⟨hE, hit, _⟩ := hL.isE kk hlt
      have hKk := hL.K kk hlt
      have hcou := hL.cou _ (hL.mem kk hlt)
      clear hL
      generalize hxk : xs[kk]! = xk at hKk hcou hit
      have XK := Aside0.mk hxk
      clear hxk
      generalize hcs : css[kk]! = cs at hrg hE hit hKk
      clear hcs hit
      have hi59 : (Try.prog.info? 59).map (·.size) = some cs.length := by rw [hE.len]; exact size59
      have hi59' : (Try.prog.info? 59).map (·.size) = some cs.toArray.size := by rw [List.size_toArray, hE.len]; exact size59
      have h1c := all_one hE.one
      have hl43 : cs.length = 43 := hE.len
      have hsz := B.out.size
      have hK2 : kEnt.K (wr.alloc (.cells cs.toArray 59)) xk cs := kEnt.K_below ((Below.refl _ wr).alloc (Nat.le_refl _) _) hKk
      have HB := Aside0.mk (copied_c xk cs (wr.alloc (.cells cs.toArray 59)) hK2 hcou.1 hcou.2)
      have hnew := blk_new wr (.cells cs.toArray 59)
      clear hE hKk hK2
      go_wp2_with (first | (refine wpList_load_mid rfl 59 (.tmp 12) rfl b (off + kk * 43) rfl cs _ hrg Try.underlying59 rfl hi59 ?_) | (refine wpList_store_new rfl 59 (.tmp 7) (.tmp 13) rfl cs.toArray _ 59 rfl rfl hi59' ?hold h1c ?_) | (refine wpList_load_row rfl 59 (.tmp 7) rfl wr.heap.size rfl 59 _ (0, 0) _ hnew Try.underlying59 rfl hi59' ?_))
      case hold => simp [hl43]
      refine HB.out.mono ?_
      rintro e w2 ⟨cs', rfl, hM, hb2⟩
      have hszA : (wr.alloc (.cells cs.toArray 59)).heap.size = wr.heap.size + 1 := by simp
      have hbA : Below wr.heap.size wr w2 := ((Below.refl _ wr).alloc (Nat.le_refl _) _).trans (hb2.mono (by omega))
      have B2 : Below w.heap.size w w2 := B.out.trans (hbA.mono hsz)
      have HR : Aside0 (kEnt.R 59 w2 w.heap.size (fun _ => True) u5 (xs.take kk)) := ⟨Kd.R_below G.out hbA⟩
      have hcl : cs'.length = 43 := kEnt.K_len (kEnt.K_of_M hM)
      have hvb : ∀ k, u5.ownBlock = some k → k < wr.heap.size := fun k hk => by
        obtain ⟨inner, ho⟩ := Kd.R_own G.out
        exact own_lt ho k hk
      have HM : Aside0 (kEnt.M w2 w.heap.size (fun k => wr.heap.size ≤ k) xk cs') := ⟨kEnt.M_lower (by omega) (kEnt.M_mono (ok' := fun k => wr.heap.size ≤ k) (fun k hk => by have := hk.2.1; omega) (kEnt.M_bound hM))⟩
      have hxl := H.out.len
      have htk : xs.take (kk + 1) = xs.take kk ++ [xk] := by
        rw [← XK.out, List.take_add_one, List.getElem?_eq_getElem (by omega), getElem!_pos xs kk (by omega)]
        rfl
      have hlen : (xs.take kk).length ≤ 1000000 := by rw [List.length_take]; omega
      have TK := Aside0.mk htk
      clear htk hxl
      have HVB := Aside0.mk hvb
      clear hvb hM
      go_wp2_with (at_builtin; refine Kd.R_append kEnt (w0 := w) w.heap.size rfl (.tmp 14) (.tmp 18) 27 59 z59 168 rfl Try.underlying27 info59 z59_size (by decide) (by omega) u5 (xs.take kk) xk cs' (fun _ => True) (fun k => wr.heap.size ≤ k) rfl rfl HM.out ?okp (fun _ _ => trivial) HR.out B2 B2.size ?aL ?_)
      case okp => exact fun k hk => ⟨trivial, fun e => by have := HVB.out k e.symm; omega⟩
      case aL => omega
      intro v1 w1 ho hb hg hat
      have hb' : Below w.heap.size w w1 := hb
      rw [← TK.out] at ho
      have HO := Aside0.mk ho
      clear ho hg hat hb
      go_wp2
      go_roundg (css.length - (kk + 1))
      case measure => omega
      case rel => exact ⟨kk + 1, by omega, by omega, by go_num, hb', HO.out⟩
    · have hltz : ¬ (kk : Int) < (css.length : Int) := by omega
      have hkk : kk = css.length := by omega
      have HT : Aside0 (xs.take kk = xs) := ⟨by rw [List.take_of_length_le]; rw [hkk, H.out.len]; exact Nat.le_refl _⟩
      clear hkk
      go_wp2
      go_ret
      refine ⟨_, rfl, ?_, B.out⟩
      have := G.out
      rw [HT.out] at this
      exact this
end Go.Proofs.Ytpjachbmllklgaa.Rng
end
section
/- A part of a log: ledger.Above. -/
namespace Go.Proofs.Ytpjachbmllklgaa.Rng
open Go.RowKit Go.Proofs.YtpjachbmllklgaaW.PrintWords Go.Proofs.Ytpjachbmllklgaa.Kinds Go.Proofs.Ytpjachbmllklgaa.PCou
set_option linter.unusedVariables false
set_option linter.unusedSimpArgs false
attribute [local go_sem] Oper.semAt_some

/-- The log that is asked: its entries. -/
def sndX (s : Sv) (xs : List Ent) : List Ent := if checkB s.si (itX xs) then xs else []
/-- Of a log those entries beyond a number, so many at most. -/
def aboveX (ys : List Ent) (index most : Int) : List Ent := if beyV ys index < 0 ∨ most < 1 then [] else (ys.drop (beyV ys index).toNat).take most.toNat
theorem LX.sound {W : World} {s : Sv} {b off : Nat} {css : List (List Value)} {xs : List Ent} (h : LX W s.A b off css xs) : LX W (s.sound css).A b off (soundE s css) (sndX s xs) := by
  unfold Sv.sound soundE sndX
  rw [h.its_eq]
  cases checkB s.si (itX xs) with
  | true => exact h
  | false => exact ⟨rfl, fun g => by simp at g, fun j hj => by simp at hj, fun j hj => by simp at hj, fun x hx => by simp at hx, fun x hx => by simp at hx, .inr rfl, by simp⟩
theorem beyV_range (ys : List Ent) (index : Int) : beyV ys index = -1 ∨ ∃ k : Nat, beyV ys index = k ∧ k < ys.length := by
  unfold beyV
  cases h : ys.findIdx? (fun x => decide (x.1 > index)) with
  | none => exact .inl rfl
  | some i =>
    rw [List.findIdx?_eq_some_iff_getElem] at h
    exact .inr ⟨i, rfl, h.1⟩

set_option maxHeartbeats 1000000 in
set_option maxRecDepth 100000 in
theorem above_c (s : Sv) (b off : Nat) (css : List (List Value)) (xs : List Ent) (w : World) (h : LX w s.A b off css xs) (hn : s.n = css.length) (hcap : s.n ≤ s.cap) (index most : Int) (hm : -9223372036854775808 ≤ most ∧ most ≤ 9223372036854775807) :
    Calls Try.prog 25 #[.agg s.cells, .int .i64 index, .int .i64 most] w fun e w' => ∃ v, e = .returned v ∧ kEnt.R 59 w' w.heap.size (fun _ => True) v (aboveX (sndX s xs) index most) ∧ Below w.heap.size w w' := by
  have e40 : ∀ args w, (callFunc 40 args).run Try.prog w = .ok (.enter 40 args) w := enters_of Try.func40 (by kernel_rfl) rfl
  have e50 : ∀ args w, (callFunc 50 args).run Try.prog w = .ok (.enter 50 args) w := enters_of Try.func50 (by kernel_rfl) rfl
  have e52 : ∀ args w, (callFunc 52 args).run Try.prog w = .ok (.enter 52 args) w := enters_of Try.func52 (by kernel_rfl) rfl
  generalize hzs : aboveX (sndX s xs) index most = zs
  have ZS := Aside0.mk hzs
  clear hzs
  have H := Aside0.mk h
  have HN0 := Aside0.mk hn
  clear h hn
  rw [cells_eq]
  go_enter Try.func25, Try.ntmps25
  go_wp2_with fail
  rw [← cells_eq]
  have q0 : Below w.heap.size w ((w.alloc (.cells s.cells 30)).alloc (.cells #[.int .i64 index] 3)) := ((Below.refl _ w).alloc (Nat.le_refl _) _).alloc (by simp) _
  have hs0 : ((w.alloc (.cells s.cells 30)).alloc (.cells #[.int .i64 index] 3)).heap.size = w.heap.size + 2 := by simp
  have i0 := blk_new (w.alloc (.cells s.cells 30)) (.cells #[.int .i64 index] 3)
  rw [World.size_alloc] at i0
  generalize ((w.alloc (.cells s.cells 30)).alloc (.cells #[.int .i64 index] 3)) = W0 at q0 hs0 i0 ⊢
  have hL0 := H.out.below q0
  clear H
  refine (sound_c s b off css W0 (hL0.lg HN0.out)).mono ?_
  rintro e w2 ⟨rfl, hb2⟩
  have hL2 := (hL0.below hb2).sound
  have hn2 : (s.sound css).n = (soundE s css).length := ((hL0.lg HN0.out).sound).n
  have hcap2 : (s.sound css).n ≤ (s.sound css).cap := by unfold Sv.sound; split; exact hcap; exact Nat.le_refl _
  have hsz2 := hb2.size
  have i2 := (hb2.block (w.heap.size + 1) (by omega)).trans i0
  have q2 : Below w.heap.size w w2 := q0.trans (hb2.mono q0.size)
  clear hL0 q0 i0 hb2 HN0 hcap
  generalize s.sound css = s2 at *
  generalize soundE s css = css2 at *
  generalize sndX s xs = ys at *
  have ci : w2.cell? ⟨w.heap.size + 1, 0, none⟩ = some (.int .i64 index) := by simp [World.cell?, i2]
  have HI := Aside0.mk (index_c s2.A s2.n s2.cap b off css2 ys w2 hL2 hn2 (w.heap.size + 1) index ci)
  have H2 := Aside0.mk hL2
  have HN := Aside0.mk hn2
  clear hL2 hn2 ci i2
  rw [cells_eq s2]
  have hfd : ∀ w : World, (Instr.field 30 (.agg #[.int .i64 s2.t, .int .i64 s2.v, .int .i64 s2.si, .int .i64 s2.st, .slice s2.Va s2.Vn s2.Vc, .slice s2.La s2.Ln s2.Lc, .string s2.d, .slice s2.A s2.n s2.cap, .slice s2.Ga s2.Gn s2.Gc]) 3).run Try.prog w = .ok (.slice s2.A s2.n s2.cap) w := fun _ => by kernel_rfl
  go_wp2_with fail
  refine HI.out.mono ?_
  rintro e w3 ⟨rfl, hb3⟩
  have hL3 := H2.out.below hb3
  have hsz3 := hb3.size
  have q3 : Below w.heap.size w w3 := q2.trans (hb3.mono q2.size)
  clear H2 HI hb3 q2
  have H3 := Aside0.mk hL3
  have hsm := hL3.small
  have hyl := hL3.len
  clear hL3
  have hz := ZS.out
  unfold aboveX at hz
  rcases beyV_range ys index with hb | ⟨k, hb, hk⟩
  · rw [hb] at hz ⊢
    rw [if_pos (.inl (by omega))] at hz
    subst hz
    go_wp2
    go_ret
    exact ⟨_, rfl, Kd.R_nil _ _ _ _ _, q3⟩
  rw [hb] at hz ⊢
  by_cases hm1 : most < 1
  · rw [if_pos (.inr hm1)] at hz
    subst hz
    go_wp2
    go_ret
    exact ⟨_, rfl, Kd.R_nil _ _ _ _ _, q3⟩
  rw [if_neg (by omega), show ((k : Nat) : Int).toNat = k by omega] at hz
  have hks : k < s2.n := by rw [HN.out]; omega
  have hkI : (k : Int) < (s2.n : Int) := by omega
  have hns : s2.n ≤ 1000000 := by rw [HN.out]; exact hsm
  have hA := H3.out.A (by rw [← HN.out]; omega)
  have HZ := Aside0.mk hz
  have HY := Aside0.mk hyl
  clear hyl hsm hk hz hb
  rw [hA]
  have CL : Aside0 (s2.n = css2.length ∧ ys.length = css2.length) := ⟨HN.out, HY.out.symm⟩
  go_wp2_with fail
  · refine (each_c _ _ _ b (off + k * 43) ((css2.drop k).take most.toNat) ((ys.drop k).take most.toNat) w3 ((H3.out.drop k).take most.toNat) ?len).mono ?_
    case len =>
      have := CL.out
      simp only [List.length_take, List.length_drop]
      omega
    rintro e w4 ⟨v, rfl, hR, hb4⟩
    have hR2 := Aside0.mk hR
    clear hR
    go_wp2
    go_ret
    refine ⟨_, rfl, ?_, q3.trans (hb4.mono q3.size)⟩
    rw [← HZ.out]
    exact Kd.R_lower hR2.out q3.size
  · refine (each_c _ _ _ b (off + k * 43) ((css2.drop k).take most.toNat) ((ys.drop k).take most.toNat) w3 ((H3.out.drop k).take most.toNat) ?len).mono ?_
    case len =>
      have := CL.out
      simp only [List.length_take, List.length_drop]
      omega
    rintro e w4 ⟨v, rfl, hR, hb4⟩
    have hR2 := Aside0.mk hR
    clear hR
    go_wp2
    go_ret
    refine ⟨_, rfl, ?_, q3.trans (hb4.mono q3.size)⟩
    rw [← HZ.out]
    exact Kd.R_lower hR2.out q3.size
end Go.Proofs.Ytpjachbmllklgaa.Rng
end
section
/- The log of LedgerRoom. -/
namespace Go.Proofs.Ytpjachbmllklgaa.Rng
open Go.RowKit Go.Proofs.YtpjachbmllklgaaW.PrintWords Go.Proofs.Ytpjachbmllklgaa.Kinds Go.Proofs.Ytpjachbmllklgaa.PCou
set_option linter.unusedVariables false
set_option linter.unusedSimpArgs false
attribute [local go_sem] Oper.semAt_some

/-- A row of entries that is read, as it lies. -/
theorem lx_of_C {w : World} {A : Option Addr} {n : Nat} {xs : List Ent} (hr : kEnt.C w A n xs) (hn : xs.length = n) (hs : xs.length ≤ 1000000) (hc : ∀ x ∈ xs, x.2.2.2.2.1.length < 17592186044416 ∧ x.2.2.2.2.2.length < 17592186044416)
    (hi : ∀ x ∈ xs, -9223372036854775808 ≤ x.1 ∧ x.1 ≤ 9223372036854775807) : ∃ (b off : Nat) (css : List (List Value)), LX w A b off css xs := by
  subst hn
  by_cases h0 : 0 < xs.length
  · obtain ⟨ad, rfl, hcell⟩ := hr.2.2 h0
    have key : ∀ j, j < xs.length → ∃ cs', cs'.length = 43 ∧ kEnt.K w (xs[j]!) cs' ∧ ∀ i u, cs'[i]? = some u → w.cell? (ad.add (j * 43 + i)) = some u := fun j hj => hcell j _ (by rw [getElem!_pos _ j hj]; exact List.getElem?_eq_getElem hj)
    have : ∀ k, k ≤ xs.length → ∃ css : List (List Value), css.length = k ∧ ∀ j, j < css.length → kEnt.K w (xs[j]!) css[j]! ∧ ∀ i u, css[j]![i]? = some u → w.cell? (ad.add (j * 43 + i)) = some u := by
      intro k
      induction k with
      | zero => exact fun _ => ⟨[], rfl, fun j hj => by simp at hj⟩
      | succ k ih =>
        intro hk
        obtain ⟨css, hl, hh⟩ := ih (by omega)
        obtain ⟨cs', _, h1, h2⟩ := key k (by omega)
        refine ⟨css ++ [cs'], by simp [hl], fun j hj => ?_⟩
        simp only [List.length_append, List.length_singleton] at hj
        by_cases e : j < css.length
        · have : (css ++ [cs'])[j]! = css[j]! := by rw [getElem!_pos _ j (by simp; omega), getElem!_pos _ j e, List.getElem_append_left e]
          rw [this]
          exact hh j e
        · have e2 : j = k := by omega
          subst e2
          have : (css ++ [cs'])[j]! = cs' := by rw [getElem!_pos _ j (by simp; omega), List.getElem_append_right (by omega)]; simp [hl]
          rw [this]
          exact ⟨h1, h2⟩
    obtain ⟨css, hl, hh⟩ := this _ (Nat.le_refl _)
    obtain ⟨b, off, spot⟩ := ad
    have hc0 := (hh 0 (by omega)).2 0 _ (ent_cells (hh 0 (by omega)).1).1.i0
    have hspot : spot = none := by simpa [Addr.add] using World.cell?_spot hc0
    subst hspot
    refine ⟨b, off, css, hl, fun _ => rfl, fun j hj i u hiu => ?_, fun j hj => (hh j hj).1, hc, hi, .inl ?_, by omega⟩
    · have := (hh j hj).2 i u hiu
      rw [Addr.add_mid] at this
      rw [show off + j * 43 + i = off + (j * 43 + i) by omega]
      exact this
    · have := block_lt_of_cell hc0
      simpa [Addr.add] using this
  · have h1 : xs = [] := by simpa using h0
    subst h1
    exact ⟨0, 0, [], rfl, fun g => by simp at g, fun j hj => by simp at hj, fun j hj => by simp at hj, hc, hi, .inr rfl, by simp⟩
/-- An entry that bears a number and a term alone. -/
def entX (i t : Int) : Ent := (i, t, 0, (0, 0, 0, ⟨#[]⟩, ⟨#[]⟩, 0, List.replicate 32 0), ([], []))
theorem ent_M (w : World) (base : Nat) (ok : Nat → Prop) (i t : Int) : kEnt.M w base ok (entX i t) (ent i t) := by
  refine ⟨[.int .i64 i], _, rfl, rfl, [.int .i64 t], _, rfl, rfl, [.int .i64 0], _, rfl, rfl, [.int .i64 0, .int .i64 0, .int .i64 0, .string ⟨#[]⟩, .string ⟨#[]⟩, .int .i64 0] ++ List.replicate 32 (.int .u8 0), [.slice none 0 0, .slice none 0 0], rfl, ?_, [.slice none 0 0], [.slice none 0 0], rfl, ⟨_, rfl, Kd.R_nil _ _ _ _ _⟩, ⟨_, rfl, Kd.R_nil _ _ _ _ _⟩⟩
  refine ⟨[.int .i64 0], _, rfl, rfl, [.int .i64 0], _, rfl, rfl, [.int .i64 0], _, rfl, rfl, [.string ⟨#[]⟩], _, rfl, rfl, [.string ⟨#[]⟩], _, rfl, rfl, [.int .i64 0], List.replicate 32 (.int .u8 0), rfl, rfl, ?_⟩
  exact Kd.arr_of_cells (n := 32) (xs := List.replicate 32 0) (by simp)
def roomX (k : Nat) : List Ent := (List.range k).map fun (i : Nat) => entX ((i : Int) + 1) 3
theorem roomX_succ (k : Nat) : roomX (k + 1) = roomX k ++ [entX ((k : Int) + 1) 3] := by simp [roomX, List.range_succ]
theorem roomX_length (k : Nat) : (roomX k).length = k := by simp [roomX]
theorem roomX_get (k j : Nat) (h : j < k) : (roomX k)[j]! = entX ((j : Int) + 1) 3 := by
  rw [getElem!_pos _ j (by rw [roomX_length]; exact h)]
  simp [roomX]
theorem room_itX (k j : Nat) (h : j < k) : (itX (roomX k))[j]! = ((j : Int) + 1, 3) := by
  rw [getElem!_pos _ j (by simp [itX, roomX_length]; exact h)]
  simp [itX, roomX, entX]
theorem room_goes (k : Nat) : goesB 0 (itX (roomX k)) = true := by
  rw [goesB_iff]
  intro j hj
  simp only [itX, List.length_map, roomX_length] at hj
  rw [room_itX k j hj]
  simp only
  omega
theorem room_check (k : Nat) : checkB 0 (itX (roomX k)) = decide (k ≤ 9000) := by
  unfold checkB
  rw [room_goes]
  simp [itX, roomX_length]
theorem room_bey (k : Nat) (h : 0 < k) : beyV (roomX k) 0 = 0 := by
  have := beyV_hit (roomX k) 0 0 (by rw [roomX_length]; exact h) (by rw [roomX_get k 0 h]; simp [entX]) (fun j hj => absurd hj (Nat.not_lt_zero _))
  simpa using this
theorem room_above (k : Nat) (h : k ≤ 9000) (s : Sv) (hs : s.si = 0) : (aboveX (sndX s (roomX k)) 0 k).length = k := by
  unfold sndX
  rw [hs, room_check, if_pos (by simpa using h)]
  unfold aboveX
  cases k with
  | zero => simp [roomX]
  | succ k =>
    rw [room_bey _ (by omega), if_neg (by omega)]
    simp [roomX_length]
theorem room_above_not (k : Nat) (h : ¬ k ≤ 9000) (s : Sv) (hs : s.si = 0) : aboveX (sndX s (roomX k)) 0 k = [] := by
  unfold sndX
  rw [hs, room_check, if_neg (by simpa using h)]
  unfold aboveX
  rw [if_pos (.inl (by simp [beyV]))]
theorem room_cou (k : Nat) : ∀ x ∈ roomX k, x.2.2.2.2.1.length < 17592186044416 ∧ x.2.2.2.2.2.length < 17592186044416 := by
  intro x hx
  simp only [roomX, List.mem_map, List.mem_range] at hx
  obtain ⟨i, _, rfl⟩ := hx
  simp [entX]
theorem room_wi (k : Nat) (h : k ≤ 9100) : ∀ x ∈ roomX k, -9223372036854775808 ≤ x.1 ∧ x.1 ≤ 9223372036854775807 := by
  intro x hx
  simp only [roomX, List.mem_map, List.mem_range] at hx
  obtain ⟨i, hi, rfl⟩ := hx
  simp only [entX]
  omega
def roomSv (A : Option Addr) (n c : Nat) : Sv := ⟨0, 0, 0, 0, none, 0, 0, none, 0, 0, ⟨#[]⟩, A, n, c, none, 0, 0⟩

theorem room_last {A : Option Addr} {kk c b off : Nat} {css : List (List Value)} {W : World} (h : LX W A b off css (roomX kk)) : lastV ((roomSv A kk c).sound css) (soundE (roomSv A kk c) css) = if kk ≤ 9000 then ((kk : Int), if kk = 0 then 0 else 3) else (0, 0) := by
  have hl : css.length = kk := by rw [h.len, roomX_length]
  unfold Sv.sound soundE
  rw [show (roomSv A kk c).si = 0 from rfl, h.its_eq, room_check]
  by_cases g : kk ≤ 9000
  · rw [if_pos (by simpa using g), if_pos (by simpa using g), if_pos g]
    unfold lastV
    cases hm : css.length with
    | zero =>
      have : kk = 0 := by omega
      subst this
      rfl
    | succ m =>
      have h1 := (h.isE m (by omega)).2.1
      rw [roomX_get kk m (by omega)] at h1
      dsimp only
      rw [h1, if_neg (by omega)]
      simp only [entX, Prod.mk.injEq, and_true]
      omega
  · rw [if_neg (by simpa using g), if_neg (by simpa using g), if_neg g]
    rfl
theorem room_check_eq {A : Option Addr} {kk c b off : Nat} {css : List (List Value)} {W : World} (h : LX W A b off css (roomX kk)) : checkB (roomSv A kk c).si (its css) = decide (kk ≤ 9000) := by
  rw [show (roomSv A kk c).si = 0 from rfl, h.its_eq, room_check]
end Go.Proofs.Ytpjachbmllklgaa.Rng
end
