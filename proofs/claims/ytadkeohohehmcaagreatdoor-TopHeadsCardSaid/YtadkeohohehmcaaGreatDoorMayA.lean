/- Which commands may be: directory.May. -/
import Derived.Test.YtadkeohohehmcaaGreatDoorAdA
import Derived.Test.YtadkeohohehmcaaGreatDoorWd
import Derived.ChangeKeysEq
namespace Go.Proofs.YtadkeohohehmcaaGreatDoor.Top
open Go.RowKit Go.Proofs.YtadkeohohehmcaaGreatDoorW.PrintWords Go.Proofs.YtadkeohohehmcaaGreatDoorW.PrintLast Go.Proofs.YtadkeohohehmcaaGreatDoorW.PrintMore Go.Proofs.YtadkeohohehmcaaGreatDoor.PTop
set_option linter.unusedVariables false
set_option linter.unusedSimpArgs false
attribute [local go_sem] Oper.semAt_some
def zC : Cmd := ⟨0, 0, 0, ⟨#[]⟩, ⟨#[]⟩, 0, List.replicate 32 0⟩
def cmdEq (a b : Cmd) : Bool := (a.k == b.k) && ((a.c == b.c) && ((a.s == b.s) && ((a.u.toList == b.u.toList) && ((a.key.toList == b.key.toList) && ((a.e == b.e) && decide (a.root = b.root))))))
theorem ccells_drop (c : Cmd) (h : c.root.length = 32) : List.take 32 (List.drop 6 (ccells c)) = c.root.map (Value.int .u8) := by
  show List.take 32 (c.root.map (Value.int .u8)) = _
  exact List.take_of_length_le (by simp [h])
set_option maxRecDepth 100000 in
theorem run_eq41 (a b : Cmd) (ha : PathOk a.root) (hb : PathOk b.root) (w : World) : (binOp .eql 41 (.agg (ccells a).toArray) (.agg (ccells b).toArray)).run Tryz.prog w = .ok (.bool (cmdEq a b)) w := by
  rw [run_eql_struct (P := Tryz.prog) (w := w)]
  have hs : Tryz.prog.stoodInHeld 41 = false := by kernel_rfl
  have la := ha.len
  have lb := hb.len
  obtain ⟨a1, a2, a3, a4, a5, a6, a7⟩ := a
  obtain ⟨b1, b2, b3, b4, b5, b6, b7⟩ := b
  dsimp only at ha hb la lb
  have eqI : ∀ (d t : Nat) (x y : Int), Tryz.prog.underlying t = some (.int .i64) → (Op.equalIn (d + 1) t (.int .i64 x) (.int .i64 y)).run Tryz.prog w = .ok (x == y) w := fun d t x y ht => run_equalIn_int (P := Tryz.prog) (w := w) d t .i64 .i64 x y ht
  have eqS : ∀ (d t : Nat) (x y : ByteArray), Tryz.prog.underlying t = some .string → (Op.equalIn (d + 1) t (.string x) (.string y)).run Tryz.prog w = .ok (x.toList == y.toList) w := fun d t x y ht => run_equalIn_string (P := Tryz.prog) (w := w) d t x y ht
  have p : ∀ (c : Cmd) (t : TypeId) (off : Nat) (v : Value), Tryz.prog.plainKey t = true → (ccells c).toArray[off]? = some v → (part t (ccells c).toArray off).run Tryz.prog w = .ok v w := fun c t off v h1 h2 => run_part_plain (P := Tryz.prog) w h1 h2
  have q : ∀ c : Cmd, c.root.length = 32 → (part 31 (ccells c).toArray 6).run Tryz.prog w = .ok (.agg (c.root.map (Value.int .u8)).toArray) w := fun c h => by
    obtain ⟨i, hi⟩ : ∃ i, Tryz.prog.info? 31 = some i := by
      have : (Tryz.prog.info? 31).isSome = true := by kernel_rfl
      exact Option.isSome_iff_exists.1 this
    have hc : Tryz.prog.cellsOf 31 = 32 := by kernel_rfl
    simp [part, isAgg, run_underlying Tryz.underlying31, run_sizeOf w hi, hc, ccells_drop c h]
  have ed : (Op.equalIn 9999 31 (.agg (a7.map (Value.int .u8)).toArray) (.agg (b7.map (Value.int .u8)).toArray)).run Tryz.prog w = .ok (decide (a7 = b7)) w := by
    have := run_equalIn_bytes (P := Tryz.prog) w 9997 31 5 32 (by kernel_rfl) (by kernel_rfl) (fun w => by kernel_rfl) (ubs a7) (ubs b7) (by simp [ubs, la]) (by simp [ubs, lb])
    rw [ubs_cells a7 ha.byte, ubs_cells b7 hb.byte, ubs_inj a7 b7 ha.byte hb.byte] at this
    exact this
  have qa := q ⟨a1, a2, a3, a4, a5, a6, a7⟩ la
  have qb := q ⟨b1, b2, b3, b4, b5, b6, b7⟩ lb
  dsimp only at qa qb
  have := eqA_of (P := Tryz.prog) (w := w) (d := 9999) Tryz.underlying41 hs
    (eqf_cons rfl (p _ 39 0 (.int .i64 a1) (by kernel_rfl) rfl) (p _ 39 0 (.int .i64 b1) (by kernel_rfl) rfl) (eqI 9998 39 a1 b1 Tryz.underlying39)
    (eqf_cons rfl (p _ 3 1 (.int .i64 a2) (by kernel_rfl) rfl) (p _ 3 1 (.int .i64 b2) (by kernel_rfl) rfl) (eqI 9998 3 a2 b2 Tryz.underlying3)
    (eqf_cons rfl (p _ 3 2 (.int .i64 a3) (by kernel_rfl) rfl) (p _ 3 2 (.int .i64 b3) (by kernel_rfl) rfl) (eqI 9998 3 a3 b3 Tryz.underlying3)
    (eqf_cons rfl (p _ 9 3 (.string a4) (by kernel_rfl) rfl) (p _ 9 3 (.string b4) (by kernel_rfl) rfl) (eqS 9998 9 a4 b4 Tryz.underlying9)
    (eqf_cons rfl (p _ 9 4 (.string a5) (by kernel_rfl) rfl) (p _ 9 4 (.string b5) (by kernel_rfl) rfl) (eqS 9998 9 a5 b5 Tryz.underlying9)
    (eqf_cons rfl (p _ 3 5 (.int .i64 a6) (by kernel_rfl) rfl) (p _ 3 5 (.int .i64 b6) (by kernel_rfl) rfl) (eqI 9998 3 a6 b6 Tryz.underlying3)
    (eqf_last (r := decide (a7 = b7)) rfl qa qb ed)))))))
  rw [this]
  rfl
theorem run_guard41 (x y : Operand) (a b : Array Value) (w : World) : (eqGuard .eql 41 x y (.agg a) (.agg b)).run Tryz.prog w = .ok () w := run_guard_gen _ .eql (Or.inl rfl) _ x y a b w (by kernel_rfl)
def winB (a lo hi : Int) : Bool := decide (lo ≤ a) && decide (a ≤ hi)
theorem win_f (a lo hi : Int) : directory_within.f a lo hi = some (winB a lo hi) := by
  unfold directory_within.f winB
  split
  · rename_i h
    rw [decide_eq_true h, Bool.true_and]
  · rename_i h
    rw [decide_eq_false h, Bool.false_and]
theorem win_c (a lo hi : Int) (w : World) : Calls Tryz.prog 18 #[.int .i64 a, .int .i64 lo, .int .i64 hi] w fun e w' => e = .returned (.bool (winB a lo hi)) ∧ Drawn0 w w' := directory_within.calls a lo hi _ w (win_f a lo hi)
theorem nam_c (s : ByteArray) (w : World) : Calls Tryz.prog 23 #[.string s] w fun e w' => e = .returned (.bool (winB s.size 1 32)) ∧ Drawn0 w w' := directory_name.calls s _ w (by unfold directory_name.f; rw [win_f]; rfl)
def keyOk (c : Cmd) : Bool := if c.k = 3 then c.key.toList.isEmpty else winB c.key.size 1 64
def restK (c : Cmd) : Cmd := ⟨0, 0, 0, ⟨#[]⟩, ⟨#[]⟩, c.e, c.root⟩
def restE (c : Cmd) : Cmd := ⟨0, c.c, c.s, c.u, c.key, 0, if c.k = 5 then List.replicate 32 0 else c.root⟩
def mayC (c : Cmd) : Bool :=
  if c.k = 1 ∨ c.k = 2 ∨ c.k = 3 then cmdEq (restK c) zC && keyOk c && winB c.c 1 4 && winB c.s 1 1000000 && winB c.u.size 1 32
  else if c.k = 5 ∨ c.k = 4 then cmdEq (restE c) zC && winB c.e 1 200
  else false
def MayPost (b : Bool) (w : World) (e : Ending) (w' : World) : Prop := e = .returned (.bool b) ∧ Below w.heap.size w w'
theorem zC_ok : PathOk zC.root := ⟨rfl, fun x hx => by have := List.eq_of_mem_replicate hx; omega⟩
theorem ccells_len (c : Cmd) (h : c.root.length = 32) : (ccells c).length = 38 := by simp [ccells, h]
theorem size41' (c : Cmd) (h : c.root.length = 32) : (Tryz.prog.info? 41).map (·.size) = some (ccells c).toArray.size := by rw [List.size_toArray, ccells_len c h]; kernel_rfl
theorem cc_one (c : Cmd) : (ccells c).toArray.all (·.oneCell') = true := by
  rw [List.all_toArray, List.all_eq_true]
  intro u hu
  simp [ccells] at hu
  rcases hu with rfl | rfl | rfl | rfl | rfl | rfl | ⟨x, _, rfl⟩ <;> rfl
set_option maxRecDepth 100000 in
theorem zero41 : (Tryz.prog.info? 41).map (·.zero) = some (some (.agg (ccells zC).toArray)) := by kernel_rfl
theorem wpList_build41 {ops : Array Oper} {rest : List Oper} {o : Oper} {a : Act} {w : World} {Q : Exit → Act → World → Prop} (hg : o.guard = none) (t : TypeId) (parts : Array (Nat × Operand)) (ho : o.op = .build t parts)
    (ps : List (Nat × Value)) (hps : (parts.map fun (i, x) => (i, a.eval x)).toList = ps) (cs : Array Value) (hb : Tryz.prog.built t ps = some cs) (h : wpList Tryz.prog ops Q rest (a.put o.dst (.agg cs)) w) : wpList Tryz.prog ops Q (o :: rest) a w :=
  wpList_build hg t parts ho (by rw [hps, hb]; rfl) (by rw [hps, hb]; exact h)
set_option maxRecDepth 100000 in
theorem built41 : Tryz.prog.built 41 [] = some (ccells zC).toArray := by kernel_rfl
theorem below_setCells {n g : Nat} {w : World} (hg : n ≤ g) : ∀ (vs : List Value) (o : Nat) (W : World), Below n w W → Below n w (W.setCells g o vs)
  | [], _, _, h => h
  | v :: r, o, W, h => by
    rw [World.setCells]
    exact below_setCells hg r (o + 1) _ (h.setCell hg v)
theorem mid_root {W : World} {g : Nat} {c : Cmd} (h : W.heap[g]? = some (.cells (ccells c).toArray 41 (0, 0))) (hr : c.root.length = 32) (p : List Int) (hp : p.length = 32) :
    (W.setCells g 6 (p.map (Value.int .u8))).heap[g]? = some (.cells (ccells ⟨c.k, c.c, c.s, c.u, c.key, c.e, p⟩).toArray 41 (0, 0)) := by
  have hl := ccells_len c hr
  obtain ⟨cur', h1, h2, h3⟩ := setCells_row (p.map (Value.int .u8)) 6 W _ h (by rw [List.size_toArray, hl, List.length_map, hp]; decide)
  rw [h1]
  congr 2
  apply Array.toList_inj.1
  rw [h3, List.length_map, hp]
  have e : (ccells c).toArray.toList.drop (6 + 32) = [] := List.drop_eq_nil_of_le (by rw [List.toList_toArray, hl]; decide)
  rw [e, List.append_nil]
  rfl
theorem there_root {W : World} {g : Nat} {c : Cmd} (h : W.heap[g]? = some (.cells (ccells c).toArray 41 (0, 0))) (hr : c.root.length = 32) : W.there g 6 32 := fun j hj => by
  have hl := ccells_len c hr
  refine ⟨?_, by simp [World.frozen?, h]⟩
  have : (ccells c)[6 + j]? = some (ccells c)[6 + j] := List.getElem?_eq_getElem (by omega)
  rw [cell_in (l := ccells c) h this]
  rfl
def z31 : List Value := (List.replicate 32 (0 : Int)).map (Value.int .u8)
theorem hi31z : (Tryz.prog.info? 31).map (·.size) = some z31.toArray.size := by kernel_rfl
theorem z31_one : z31.toArray.all (·.oneCell') = true := by rw [List.all_toArray]; rfl
set_option maxHeartbeats 8000000 in
set_option maxRecDepth 100000 in
theorem mayc_c (c : Cmd) (hr : PathOk c.root) (A : Array Value) (hA : A.toList = ccells c) (w : World) : Calls Tryz.prog 14 #[.agg A] w fun e w' => MayPost (mayC c) w e w' := by
  have hAa : A = (ccells c).toArray := by rw [← hA]
  subst hAa
  clear hA
  have hi41 := size41' c hr.len
  have hz : (ccells zC).toArray.size = (ccells c).toArray.size := by rw [List.size_toArray, List.size_toArray, ccells_len c hr.len]; rfl
  have h1c := cc_one c
  obtain ⟨W0, hW0⟩ : ∃ W0, w.alloc (.cells (ccells c).toArray 41) = W0 := ⟨_, rfl⟩
  have b0 : Below w.heap.size w W0 := by rw [← hW0]; exact (Below.refl _ w).alloc (Nat.le_refl _) _
  have s0 : W0.heap.size = w.heap.size + 1 := by rw [← hW0]; simp
  have k0 : W0.heap[w.heap.size]? = some (.cells (ccells c).toArray 41 (0, 0)) := by rw [← hW0]; exact blk_new w _
  have HW0 := Aside0.mk hW0
  have S0 := Aside0.mk s0
  have B0 := Aside0.mk b0
  have hxl : w.heap.size < W0.heap.size := by omega
  obtain ⟨xb, hxb⟩ : ∃ xb, w.heap.size = xb := ⟨_, rfl⟩
  have HXB := Aside0.mk hxb
  rw [hxb] at k0 hxl
  clear hW0 s0 b0 hxb
  go_enter Tryz.func14, Tryz.ntmps14
  go_upto_region 1 with fail
  rw [HW0.out, HXB.out]
  go_upto_region 2 with (first | (refine wpList_load_row rfl 41 (.tmp 1) rfl xb rfl 41 _ (0, 0) _ k0 Tryz.underlying41 rfl hi41 ?_) | (refine wpList_allocW rfl 41 rfl (ccells zC).toArray zero41 ?_; intro W1 b1 s1 k1; refine Aside0.out ?_))
  refine ⟨?_⟩
  have S1 := Aside0.mk s1
  have k1x := (b1.block xb hxl).trans k0
  clear s1
  obtain ⟨rb, hrb⟩ : ∃ rb, W0.heap.size = rb := ⟨_, rfl⟩
  rw [hrb] at k1 hxl b1 ⊢
  have HRB := Aside0.mk hrb
  have hne : rb ≠ xb := by omega
  have BW : Aside0 (∀ W, Below rb W0 W → Below w.heap.size w W) := ⟨fun W hW => B0.out.trans (hW.mono (by have := HRB.out; have := S0.out; omega))⟩
  clear hrb
  go_upto_region 2 with (first | (refine wpList_store_row rfl 41 (.tmp 3) (.tmp 5) rfl rb _ rfl rfl 41 _ k1 hi41 hz h1c ?_))
  have k2 := setRow_heap W1 rb _ (ccells c).toArray 41 (0, 0) k1
  have k2x := (setRow_other W1 rb xb (ccells c).toArray hne.symm).trans k1x
  have q2 : Below rb W0 (W1.setRow rb (ccells c).toArray) := below_setRow b1 _ (Nat.le_refl _) _
  generalize W1.setRow rb (ccells c).toArray = W2 at k2 k2x q2 ⊢
  clear k1 k1x b1 k0
  have f2 : W2.frozen? ⟨rb, 0, none⟩ = false := by simp [World.frozen?, k2]
  have c20 : W2.cell? ⟨rb, 0, none⟩ = some (.int .i64 c.k) := cell_in (l := ccells c) k2 rfl
  go_upto_region 3 with fail
  have k3 : (W2.setCell ⟨rb, 0, none⟩ (.int .i64 0)).heap[rb]? = some (.cells (ccells ⟨0, c.c, c.s, c.u, c.key, c.e, c.root⟩).toArray 41 (0, 0)) := blk_put k2 0 _ rfl
  have k3x := (Below.heap_setCell W2 ⟨rb, 0, none⟩ (.int .i64 0) xb (fun e => hne e.symm)).trans k2x
  have q3 : Below rb W0 (W2.setCell ⟨rb, 0, none⟩ (.int .i64 0)) := q2.setCell (Nat.le_refl _) _
  generalize W2.setCell ⟨rb, 0, none⟩ (.int .i64 0) = W3 at k3 k3x q3 ⊢
  clear f2 c20 k2 k2x q2
  have x0 : W3.cell? ⟨xb, 0, none⟩ = some (.int .i64 c.k) := cell_in (l := ccells c) k3x rfl
  have x4 : W3.cell? ⟨xb, 4, none⟩ = some (.string c.key) := cell_in (l := ccells c) k3x rfl
  have x1 : W3.cell? ⟨xb, 1, none⟩ = some (.int .i64 c.c) := cell_in (l := ccells c) k3x rfl
  have KC := Aside0.mk (win_c c.key.size 1 64)
  have FA : Aside0 (∀ W, Below W3.heap.size W3 W → W.heap[rb]? = some (.cells (ccells ⟨0, c.c, c.s, c.u, c.key, c.e, c.root⟩).toArray 41 (0, 0)) ∧ W.heap[xb]? = some (.cells (ccells c).toArray 41 (0, 0)) ∧ Below rb W0 W) := ⟨fun W hW => ⟨(hW.block rb (Array.getElem?_eq_some_iff.1 k3).1).trans k3, (hW.block xb (Array.getElem?_eq_some_iff.1 k3x).1).trans k3x, q3.trans (hW.mono (by have := (Array.getElem?_eq_some_iff.1 k3).1; omega))⟩⟩
  have MM : Aside0 ((c.k = 1 ∨ c.k = 2 ∨ c.k = 3) → mayC c = (cmdEq (restK c) zC && keyOk c && winB c.c 1 4 && winB c.s 1 1000000 && winB c.u.size 1 32)) := ⟨fun h => by unfold mayC; rw [if_pos h]⟩
  have ME : Aside0 (¬ (c.k = 1 ∨ c.k = 2 ∨ c.k = 3) → (c.k = 5 ∨ c.k = 4) → mayC c = (cmdEq (restE c) zC && winB c.e 1 200)) := ⟨fun h h2 => by unfold mayC; rw [if_neg h, if_pos h2]⟩
  have MN : Aside0 (¬ (c.k = 1 ∨ c.k = 2 ∨ c.k = 3) → ¬ (c.k = 5 ∨ c.k = 4) → mayC c = false) := ⟨fun h h2 => by unfold mayC; rw [if_neg h, if_neg h2]⟩
  have PP : Aside0 (∀ b W, mayC c = b → Below rb W0 W → MayPost (mayC c) w (.returned (.bool b)) W) := ⟨fun b W h hW => ⟨by rw [h], BW.out W hW⟩⟩
  clear k3 k3x q3 hz h1c
  go_upto_region 5 with fail
  by_cases h1 : c.k = 1
  · have KK : Aside0 (c.k = 1 ∨ c.k = 2 ∨ c.k = 3) := ⟨by omega⟩
    go_upto_region 9 with (go_at_call 18; refine (KC.out _).mono ?_; rintro e W4 ⟨rfl, hd4⟩; refine Aside0.out ?_)
    refine ⟨?_⟩
    have q4 : Below W3.heap.size W3 W4 := hd4.below
    obtain ⟨k4, k4x, q4⟩ := FA.out W4 q4
    clear x0 x4 x1
    have x0 : W4.cell? ⟨xb, 0, none⟩ = some (.int .i64 c.k) := cell_in (l := ccells c) k4x rfl
    have x4 : W4.cell? ⟨xb, 4, none⟩ = some (.string c.key) := cell_in (l := ccells c) k4x rfl
    go_upto_region 11 with fail
    clear x4
    have f1 : W4.frozen? ⟨rb, 1, none⟩ = false := by simp [World.frozen?, k4]
    have f2 : W4.frozen? ⟨rb, 2, none⟩ = false := by simp [World.frozen?, k4]
    have f3 : W4.frozen? ⟨rb, 3, none⟩ = false := by simp [World.frozen?, k4]
    have f4 : W4.frozen? ⟨rb, 4, none⟩ = false := by simp [World.frozen?, k4]
    have c1 : W4.cell? ⟨rb, 1, none⟩ = some (.int .i64 c.c) := cell_in (l := ccells _) k4 rfl
    have c2 : W4.cell? ⟨rb, 2, none⟩ = some (.int .i64 c.s) := cell_in (l := ccells _) k4 rfl
    have c3 : W4.cell? ⟨rb, 3, none⟩ = some (.string c.u) := cell_in (l := ccells _) k4 rfl
    have c4 : W4.cell? ⟨rb, 4, none⟩ = some (.string c.key) := cell_in (l := ccells _) k4 rfl
    go_upto_region 12 with fail
    have k5 := blk_put (blk_put (blk_put (blk_put k4 1 (.int .i64 0) rfl) 2 (.int .i64 0) rfl) 3 (.string ⟨#[]⟩) rfl) 4 (.string ⟨#[]⟩) rfl
    have k5x : ((((W4.setCell ⟨rb, 1, none⟩ (.int .i64 0)).setCell ⟨rb, 2, none⟩ (.int .i64 0)).setCell ⟨rb, 3, none⟩ (.string ⟨#[]⟩)).setCell ⟨rb, 4, none⟩ (.string ⟨#[]⟩)).heap[xb]? = W4.heap[xb]? := (Below.heap_setCell _ _ _ xb hne.symm).trans ((Below.heap_setCell _ _ _ xb hne.symm).trans ((Below.heap_setCell _ _ _ xb hne.symm).trans (Below.heap_setCell _ _ _ xb hne.symm)))
    have q5 : Below rb W0 ((((W4.setCell ⟨rb, 1, none⟩ (.int .i64 0)).setCell ⟨rb, 2, none⟩ (.int .i64 0)).setCell ⟨rb, 3, none⟩ (.string ⟨#[]⟩)).setCell ⟨rb, 4, none⟩ (.string ⟨#[]⟩)) := (((q4.setCell (Nat.le_refl _) _).setCell (Nat.le_refl _) _).setCell (Nat.le_refl _) _).setCell (Nat.le_refl _) _
    generalize (((W4.setCell ⟨rb, 1, none⟩ (.int .i64 0)).setCell ⟨rb, 2, none⟩ (.int .i64 0)).setCell ⟨rb, 3, none⟩ (.string ⟨#[]⟩)).setCell ⟨rb, 4, none⟩ (.string ⟨#[]⟩) = W5 at k5 k5x q5 ⊢
    replace k5x := k5x.trans k4x
    clear f1 f2 f3 f4 c1 c2 c3 c4 k4 k4x q4 x0
    have k5r : W5.heap[rb]? = some (.cells (ccells (restK c)).toArray 41 (0, 0)) := k5
    have XC : Aside0 (∀ W, Below W5.heap.size W5 W → W.cell? ⟨xb, 1, none⟩ = some (.int .i64 c.c) ∧ W.cell? ⟨xb, 2, none⟩ = some (.int .i64 c.s) ∧ W.cell? ⟨xb, 3, none⟩ = some (.string c.u) ∧ Below rb W0 W) := ⟨fun W hW => by
      have k := (hW.block xb (Array.getElem?_eq_some_iff.1 k5x).1).trans k5x
      exact ⟨cell_in (l := ccells c) k rfl, cell_in (l := ccells c) k rfl, cell_in (l := ccells c) k rfl, q5.trans (hW.mono (by have := (Array.getElem?_eq_some_iff.1 k5r).1; omega))⟩⟩
    have EQ : ∀ W : World, (binOp .eql 41 (.agg (ccells (restK c)).toArray) (.agg #[.int .i64 0, .int .i64 0, .int .i64 0, .string ⟨#[]⟩, .string ⟨#[]⟩, .int .i64 0, .int .u8 0, .int .u8 0, .int .u8 0, .int .u8 0, .int .u8 0, .int .u8 0, .int .u8 0, .int .u8 0, .int .u8 0, .int .u8 0, .int .u8 0, .int .u8 0, .int .u8 0, .int .u8 0, .int .u8 0, .int .u8 0, .int .u8 0, .int .u8 0, .int .u8 0, .int .u8 0, .int .u8 0, .int .u8 0, .int .u8 0, .int .u8 0, .int .u8 0, .int .u8 0, .int .u8 0, .int .u8 0, .int .u8 0, .int .u8 0, .int .u8 0, .int .u8 0])).run Tryz.prog W = .ok (.bool (cmdEq (restK c) zC)) W := fun W => run_eq41 (restK c) zC hr zC_ok W
    have EG := fun x y a b W => run_guard41 x y a b W
    obtain ⟨x1, x2, x3, qx⟩ := XC.out W5 (Below.refl _ _)
    clear k5 k5x q5
    have hi41r : (Tryz.prog.info? 41).map (·.size) = some (ccells (restK c)).toArray.size := size41' (restK c) hr.len
    go_upto_region 12 with fail
    have MF := Aside0.mk (MM.out KK.out)
    have C1 := Aside0.mk (win_c c.c 1 4)
    have C2 := Aside0.mk (win_c c.s 1 1000000)
    have C3 := Aside0.mk (nam_c c.u)
    generalize cmdEq (restK c) zC = eb at EQ MF
    generalize winB c.c 1 4 = b1 at C1 MF
    generalize winB c.s 1 1000000 = b2 at C2 MF
    generalize winB c.u.size 1 32 = b3 at C3 MF
    have KB := Aside0.mk (show keyOk c = winB c.key.size 1 64 by unfold keyOk; rw [if_neg (by omega)])
    rw [KB.out] at MF
    generalize winB c.key.size 1 64 = kb at MF ⊢
    cases eb
    · go_upto_region 99 with (first | (refine wpList_load_row rfl 41 (.tmp 3) rfl rb rfl 41 _ (0, 0) _ k5r Tryz.underlying41 rfl hi41r ?_) | (refine wpList_build41 rfl 41 #[] rfl [] rfl (ccells zC).toArray built41 ?_))
      go_wp2_with (first | (refine wpList_load_row rfl 41 (.tmp 3) rfl rb rfl 41 _ (0, 0) _ k5r Tryz.underlying41 rfl hi41r ?_) | (refine wpList_build41 rfl 41 #[] rfl [] rfl (ccells zC).toArray built41 ?_))
      go_ret
      exact PP.out false _ (by rw [MF.out]; rfl) qx
    cases kb
    · go_upto_region 99 with (first | (refine wpList_load_row rfl 41 (.tmp 3) rfl rb rfl 41 _ (0, 0) _ k5r Tryz.underlying41 rfl hi41r ?_) | (refine wpList_build41 rfl 41 #[] rfl [] rfl (ccells zC).toArray built41 ?_))
      go_wp2_with (first | (refine wpList_load_row rfl 41 (.tmp 3) rfl rb rfl 41 _ (0, 0) _ k5r Tryz.underlying41 rfl hi41r ?_) | (refine wpList_build41 rfl 41 #[] rfl [] rfl (ccells zC).toArray built41 ?_))
      go_ret
      exact PP.out false _ (by rw [MF.out]; rfl) qx
    go_upto_region 20 with (first | (refine wpList_load_row rfl 41 (.tmp 3) rfl rb rfl 41 _ (0, 0) _ k5r Tryz.underlying41 rfl hi41r ?_) | (refine wpList_build41 rfl 41 #[] rfl [] rfl (ccells zC).toArray built41 ?_) | (go_at_call_of 18 (Value.int IntKind.i64 c.c); refine (C1.out _).mono ?_; rintro e W6 ⟨rfl, hd6⟩; refine Aside0.out ?_))
    refine ⟨?_⟩
    have h6 : Below W5.heap.size W5 W6 := hd6.below
    clear x1 x2 x3 qx
    obtain ⟨x1, x2, x3, qx⟩ := XC.out W6 h6
    cases b1
    · go_wp2_with (first | (refine wpList_load_row rfl 41 (.tmp 3) rfl rb rfl 41 _ (0, 0) _ k5r Tryz.underlying41 rfl hi41r ?_) | (refine wpList_build41 rfl 41 #[] rfl [] rfl (ccells zC).toArray built41 ?_))
      go_ret
      exact PP.out false _ (by rw [MF.out]; rfl) qx
    go_upto_region 20 with (first | (go_at_call_of 18 (Value.int IntKind.i64 c.s); refine (C2.out _).mono ?_; rintro e W7 ⟨rfl, hd7⟩; refine Aside0.out ?_))
    refine ⟨?_⟩
    have h7 : Below W5.heap.size W5 W7 := h6.trans (hd7.below.mono h6.size)
    clear x1 x2 x3 qx
    obtain ⟨x1, x2, x3, qx⟩ := XC.out W7 h7
    cases b2
    · go_wp2_with (first | (refine wpList_load_row rfl 41 (.tmp 3) rfl rb rfl 41 _ (0, 0) _ k5r Tryz.underlying41 rfl hi41r ?_) | (refine wpList_build41 rfl 41 #[] rfl [] rfl (ccells zC).toArray built41 ?_))
      go_ret
      exact PP.out false _ (by rw [MF.out]; rfl) qx
    go_upto_region 20 with (first | (go_at_call_of 23 (Value.string c.u); refine (C3.out _).mono ?_; rintro e W8 ⟨rfl, hd8⟩; refine Aside0.out ?_))
    refine ⟨?_⟩
    have h8 : Below W5.heap.size W5 W8 := h7.trans (hd8.below.mono h7.size)
    clear x1 x2 x3 qx
    obtain ⟨x1, x2, x3, qx⟩ := XC.out W8 h8
    cases b3
    · go_wp2_with (first | (refine wpList_load_row rfl 41 (.tmp 3) rfl rb rfl 41 _ (0, 0) _ k5r Tryz.underlying41 rfl hi41r ?_) | (refine wpList_build41 rfl 41 #[] rfl [] rfl (ccells zC).toArray built41 ?_))
      go_ret
      exact PP.out false _ (by rw [MF.out]; rfl) qx
    go_wp2_with (first | (refine wpList_load_row rfl 41 (.tmp 3) rfl rb rfl 41 _ (0, 0) _ k5r Tryz.underlying41 rfl hi41r ?_) | (refine wpList_build41 rfl 41 #[] rfl [] rfl (ccells zC).toArray built41 ?_))
    go_ret
    exact PP.out true _ (by rw [MF.out]; rfl) qx
  have h1n := h1
  clear h1
  by_cases h1 : c.k = 2
  · have KK : Aside0 (c.k = 1 ∨ c.k = 2 ∨ c.k = 3) := ⟨by omega⟩
    go_upto_region 9 with (go_at_call 18; refine (KC.out _).mono ?_; rintro e W4 ⟨rfl, hd4⟩; refine Aside0.out ?_)
    refine ⟨?_⟩
    have q4 : Below W3.heap.size W3 W4 := hd4.below
    obtain ⟨k4, k4x, q4⟩ := FA.out W4 q4
    clear x0 x4 x1
    have x0 : W4.cell? ⟨xb, 0, none⟩ = some (.int .i64 c.k) := cell_in (l := ccells c) k4x rfl
    have x4 : W4.cell? ⟨xb, 4, none⟩ = some (.string c.key) := cell_in (l := ccells c) k4x rfl
    go_upto_region 11 with fail
    clear x4
    have f1 : W4.frozen? ⟨rb, 1, none⟩ = false := by simp [World.frozen?, k4]
    have f2 : W4.frozen? ⟨rb, 2, none⟩ = false := by simp [World.frozen?, k4]
    have f3 : W4.frozen? ⟨rb, 3, none⟩ = false := by simp [World.frozen?, k4]
    have f4 : W4.frozen? ⟨rb, 4, none⟩ = false := by simp [World.frozen?, k4]
    have c1 : W4.cell? ⟨rb, 1, none⟩ = some (.int .i64 c.c) := cell_in (l := ccells _) k4 rfl
    have c2 : W4.cell? ⟨rb, 2, none⟩ = some (.int .i64 c.s) := cell_in (l := ccells _) k4 rfl
    have c3 : W4.cell? ⟨rb, 3, none⟩ = some (.string c.u) := cell_in (l := ccells _) k4 rfl
    have c4 : W4.cell? ⟨rb, 4, none⟩ = some (.string c.key) := cell_in (l := ccells _) k4 rfl
    go_upto_region 12 with fail
    have k5 := blk_put (blk_put (blk_put (blk_put k4 1 (.int .i64 0) rfl) 2 (.int .i64 0) rfl) 3 (.string ⟨#[]⟩) rfl) 4 (.string ⟨#[]⟩) rfl
    have k5x : ((((W4.setCell ⟨rb, 1, none⟩ (.int .i64 0)).setCell ⟨rb, 2, none⟩ (.int .i64 0)).setCell ⟨rb, 3, none⟩ (.string ⟨#[]⟩)).setCell ⟨rb, 4, none⟩ (.string ⟨#[]⟩)).heap[xb]? = W4.heap[xb]? := (Below.heap_setCell _ _ _ xb hne.symm).trans ((Below.heap_setCell _ _ _ xb hne.symm).trans ((Below.heap_setCell _ _ _ xb hne.symm).trans (Below.heap_setCell _ _ _ xb hne.symm)))
    have q5 : Below rb W0 ((((W4.setCell ⟨rb, 1, none⟩ (.int .i64 0)).setCell ⟨rb, 2, none⟩ (.int .i64 0)).setCell ⟨rb, 3, none⟩ (.string ⟨#[]⟩)).setCell ⟨rb, 4, none⟩ (.string ⟨#[]⟩)) := (((q4.setCell (Nat.le_refl _) _).setCell (Nat.le_refl _) _).setCell (Nat.le_refl _) _).setCell (Nat.le_refl _) _
    generalize (((W4.setCell ⟨rb, 1, none⟩ (.int .i64 0)).setCell ⟨rb, 2, none⟩ (.int .i64 0)).setCell ⟨rb, 3, none⟩ (.string ⟨#[]⟩)).setCell ⟨rb, 4, none⟩ (.string ⟨#[]⟩) = W5 at k5 k5x q5 ⊢
    replace k5x := k5x.trans k4x
    clear f1 f2 f3 f4 c1 c2 c3 c4 k4 k4x q4 x0
    have k5r : W5.heap[rb]? = some (.cells (ccells (restK c)).toArray 41 (0, 0)) := k5
    have XC : Aside0 (∀ W, Below W5.heap.size W5 W → W.cell? ⟨xb, 1, none⟩ = some (.int .i64 c.c) ∧ W.cell? ⟨xb, 2, none⟩ = some (.int .i64 c.s) ∧ W.cell? ⟨xb, 3, none⟩ = some (.string c.u) ∧ Below rb W0 W) := ⟨fun W hW => by
      have k := (hW.block xb (Array.getElem?_eq_some_iff.1 k5x).1).trans k5x
      exact ⟨cell_in (l := ccells c) k rfl, cell_in (l := ccells c) k rfl, cell_in (l := ccells c) k rfl, q5.trans (hW.mono (by have := (Array.getElem?_eq_some_iff.1 k5r).1; omega))⟩⟩
    have EQ : ∀ W : World, (binOp .eql 41 (.agg (ccells (restK c)).toArray) (.agg #[.int .i64 0, .int .i64 0, .int .i64 0, .string ⟨#[]⟩, .string ⟨#[]⟩, .int .i64 0, .int .u8 0, .int .u8 0, .int .u8 0, .int .u8 0, .int .u8 0, .int .u8 0, .int .u8 0, .int .u8 0, .int .u8 0, .int .u8 0, .int .u8 0, .int .u8 0, .int .u8 0, .int .u8 0, .int .u8 0, .int .u8 0, .int .u8 0, .int .u8 0, .int .u8 0, .int .u8 0, .int .u8 0, .int .u8 0, .int .u8 0, .int .u8 0, .int .u8 0, .int .u8 0, .int .u8 0, .int .u8 0, .int .u8 0, .int .u8 0, .int .u8 0, .int .u8 0])).run Tryz.prog W = .ok (.bool (cmdEq (restK c) zC)) W := fun W => run_eq41 (restK c) zC hr zC_ok W
    have EG := fun x y a b W => run_guard41 x y a b W
    obtain ⟨x1, x2, x3, qx⟩ := XC.out W5 (Below.refl _ _)
    clear k5 k5x q5
    have hi41r : (Tryz.prog.info? 41).map (·.size) = some (ccells (restK c)).toArray.size := size41' (restK c) hr.len
    go_upto_region 12 with fail
    have MF := Aside0.mk (MM.out KK.out)
    have C1 := Aside0.mk (win_c c.c 1 4)
    have C2 := Aside0.mk (win_c c.s 1 1000000)
    have C3 := Aside0.mk (nam_c c.u)
    generalize cmdEq (restK c) zC = eb at EQ MF
    generalize winB c.c 1 4 = b1 at C1 MF
    generalize winB c.s 1 1000000 = b2 at C2 MF
    generalize winB c.u.size 1 32 = b3 at C3 MF
    have KB := Aside0.mk (show keyOk c = winB c.key.size 1 64 by unfold keyOk; rw [if_neg (by omega)])
    rw [KB.out] at MF
    generalize winB c.key.size 1 64 = kb at MF ⊢
    cases eb
    · go_upto_region 99 with (first | (refine wpList_load_row rfl 41 (.tmp 3) rfl rb rfl 41 _ (0, 0) _ k5r Tryz.underlying41 rfl hi41r ?_) | (refine wpList_build41 rfl 41 #[] rfl [] rfl (ccells zC).toArray built41 ?_))
      go_wp2_with (first | (refine wpList_load_row rfl 41 (.tmp 3) rfl rb rfl 41 _ (0, 0) _ k5r Tryz.underlying41 rfl hi41r ?_) | (refine wpList_build41 rfl 41 #[] rfl [] rfl (ccells zC).toArray built41 ?_))
      go_ret
      exact PP.out false _ (by rw [MF.out]; rfl) qx
    cases kb
    · go_upto_region 99 with (first | (refine wpList_load_row rfl 41 (.tmp 3) rfl rb rfl 41 _ (0, 0) _ k5r Tryz.underlying41 rfl hi41r ?_) | (refine wpList_build41 rfl 41 #[] rfl [] rfl (ccells zC).toArray built41 ?_))
      go_wp2_with (first | (refine wpList_load_row rfl 41 (.tmp 3) rfl rb rfl 41 _ (0, 0) _ k5r Tryz.underlying41 rfl hi41r ?_) | (refine wpList_build41 rfl 41 #[] rfl [] rfl (ccells zC).toArray built41 ?_))
      go_ret
      exact PP.out false _ (by rw [MF.out]; rfl) qx
    go_upto_region 20 with (first | (refine wpList_load_row rfl 41 (.tmp 3) rfl rb rfl 41 _ (0, 0) _ k5r Tryz.underlying41 rfl hi41r ?_) | (refine wpList_build41 rfl 41 #[] rfl [] rfl (ccells zC).toArray built41 ?_) | (go_at_call_of 18 (Value.int IntKind.i64 c.c); refine (C1.out _).mono ?_; rintro e W6 ⟨rfl, hd6⟩; refine Aside0.out ?_))
    refine ⟨?_⟩
    have h6 : Below W5.heap.size W5 W6 := hd6.below
    clear x1 x2 x3 qx
    obtain ⟨x1, x2, x3, qx⟩ := XC.out W6 h6
    cases b1
    · go_wp2_with (first | (refine wpList_load_row rfl 41 (.tmp 3) rfl rb rfl 41 _ (0, 0) _ k5r Tryz.underlying41 rfl hi41r ?_) | (refine wpList_build41 rfl 41 #[] rfl [] rfl (ccells zC).toArray built41 ?_))
      go_ret
      exact PP.out false _ (by rw [MF.out]; rfl) qx
    go_upto_region 20 with (first | (go_at_call_of 18 (Value.int IntKind.i64 c.s); refine (C2.out _).mono ?_; rintro e W7 ⟨rfl, hd7⟩; refine Aside0.out ?_))
    refine ⟨?_⟩
    have h7 : Below W5.heap.size W5 W7 := h6.trans (hd7.below.mono h6.size)
    clear x1 x2 x3 qx
    obtain ⟨x1, x2, x3, qx⟩ := XC.out W7 h7
    cases b2
    · go_wp2_with (first | (refine wpList_load_row rfl 41 (.tmp 3) rfl rb rfl 41 _ (0, 0) _ k5r Tryz.underlying41 rfl hi41r ?_) | (refine wpList_build41 rfl 41 #[] rfl [] rfl (ccells zC).toArray built41 ?_))
      go_ret
      exact PP.out false _ (by rw [MF.out]; rfl) qx
    go_upto_region 20 with (first | (go_at_call_of 23 (Value.string c.u); refine (C3.out _).mono ?_; rintro e W8 ⟨rfl, hd8⟩; refine Aside0.out ?_))
    refine ⟨?_⟩
    have h8 : Below W5.heap.size W5 W8 := h7.trans (hd8.below.mono h7.size)
    clear x1 x2 x3 qx
    obtain ⟨x1, x2, x3, qx⟩ := XC.out W8 h8
    cases b3
    · go_wp2_with (first | (refine wpList_load_row rfl 41 (.tmp 3) rfl rb rfl 41 _ (0, 0) _ k5r Tryz.underlying41 rfl hi41r ?_) | (refine wpList_build41 rfl 41 #[] rfl [] rfl (ccells zC).toArray built41 ?_))
      go_ret
      exact PP.out false _ (by rw [MF.out]; rfl) qx
    go_wp2_with (first | (refine wpList_load_row rfl 41 (.tmp 3) rfl rb rfl 41 _ (0, 0) _ k5r Tryz.underlying41 rfl hi41r ?_) | (refine wpList_build41 rfl 41 #[] rfl [] rfl (ccells zC).toArray built41 ?_))
    go_ret
    exact PP.out true _ (by rw [MF.out]; rfl) qx
  have h2n := h1
  clear h1
  by_cases h1 : c.k = 3
  · have KK : Aside0 (c.k = 1 ∨ c.k = 2 ∨ c.k = 3) := ⟨by omega⟩
    go_upto_region 9 with (go_at_call 18; refine (KC.out _).mono ?_; rintro e W4 ⟨rfl, hd4⟩; refine Aside0.out ?_)
    refine ⟨?_⟩
    have q4 : Below W3.heap.size W3 W4 := hd4.below
    obtain ⟨k4, k4x, q4⟩ := FA.out W4 q4
    clear x0 x4 x1
    have x0 : W4.cell? ⟨xb, 0, none⟩ = some (.int .i64 c.k) := cell_in (l := ccells c) k4x rfl
    have x4 : W4.cell? ⟨xb, 4, none⟩ = some (.string c.key) := cell_in (l := ccells c) k4x rfl
    go_upto_region 11 with fail
    clear x4
    have f1 : W4.frozen? ⟨rb, 1, none⟩ = false := by simp [World.frozen?, k4]
    have f2 : W4.frozen? ⟨rb, 2, none⟩ = false := by simp [World.frozen?, k4]
    have f3 : W4.frozen? ⟨rb, 3, none⟩ = false := by simp [World.frozen?, k4]
    have f4 : W4.frozen? ⟨rb, 4, none⟩ = false := by simp [World.frozen?, k4]
    have c1 : W4.cell? ⟨rb, 1, none⟩ = some (.int .i64 c.c) := cell_in (l := ccells _) k4 rfl
    have c2 : W4.cell? ⟨rb, 2, none⟩ = some (.int .i64 c.s) := cell_in (l := ccells _) k4 rfl
    have c3 : W4.cell? ⟨rb, 3, none⟩ = some (.string c.u) := cell_in (l := ccells _) k4 rfl
    have c4 : W4.cell? ⟨rb, 4, none⟩ = some (.string c.key) := cell_in (l := ccells _) k4 rfl
    go_upto_region 12 with fail
    have k5 := blk_put (blk_put (blk_put (blk_put k4 1 (.int .i64 0) rfl) 2 (.int .i64 0) rfl) 3 (.string ⟨#[]⟩) rfl) 4 (.string ⟨#[]⟩) rfl
    have k5x : ((((W4.setCell ⟨rb, 1, none⟩ (.int .i64 0)).setCell ⟨rb, 2, none⟩ (.int .i64 0)).setCell ⟨rb, 3, none⟩ (.string ⟨#[]⟩)).setCell ⟨rb, 4, none⟩ (.string ⟨#[]⟩)).heap[xb]? = W4.heap[xb]? := (Below.heap_setCell _ _ _ xb hne.symm).trans ((Below.heap_setCell _ _ _ xb hne.symm).trans ((Below.heap_setCell _ _ _ xb hne.symm).trans (Below.heap_setCell _ _ _ xb hne.symm)))
    have q5 : Below rb W0 ((((W4.setCell ⟨rb, 1, none⟩ (.int .i64 0)).setCell ⟨rb, 2, none⟩ (.int .i64 0)).setCell ⟨rb, 3, none⟩ (.string ⟨#[]⟩)).setCell ⟨rb, 4, none⟩ (.string ⟨#[]⟩)) := (((q4.setCell (Nat.le_refl _) _).setCell (Nat.le_refl _) _).setCell (Nat.le_refl _) _).setCell (Nat.le_refl _) _
    generalize (((W4.setCell ⟨rb, 1, none⟩ (.int .i64 0)).setCell ⟨rb, 2, none⟩ (.int .i64 0)).setCell ⟨rb, 3, none⟩ (.string ⟨#[]⟩)).setCell ⟨rb, 4, none⟩ (.string ⟨#[]⟩) = W5 at k5 k5x q5 ⊢
    replace k5x := k5x.trans k4x
    clear f1 f2 f3 f4 c1 c2 c3 c4 k4 k4x q4 x0
    have k5r : W5.heap[rb]? = some (.cells (ccells (restK c)).toArray 41 (0, 0)) := k5
    have XC : Aside0 (∀ W, Below W5.heap.size W5 W → W.cell? ⟨xb, 1, none⟩ = some (.int .i64 c.c) ∧ W.cell? ⟨xb, 2, none⟩ = some (.int .i64 c.s) ∧ W.cell? ⟨xb, 3, none⟩ = some (.string c.u) ∧ Below rb W0 W) := ⟨fun W hW => by
      have k := (hW.block xb (Array.getElem?_eq_some_iff.1 k5x).1).trans k5x
      exact ⟨cell_in (l := ccells c) k rfl, cell_in (l := ccells c) k rfl, cell_in (l := ccells c) k rfl, q5.trans (hW.mono (by have := (Array.getElem?_eq_some_iff.1 k5r).1; omega))⟩⟩
    have EQ : ∀ W : World, (binOp .eql 41 (.agg (ccells (restK c)).toArray) (.agg #[.int .i64 0, .int .i64 0, .int .i64 0, .string ⟨#[]⟩, .string ⟨#[]⟩, .int .i64 0, .int .u8 0, .int .u8 0, .int .u8 0, .int .u8 0, .int .u8 0, .int .u8 0, .int .u8 0, .int .u8 0, .int .u8 0, .int .u8 0, .int .u8 0, .int .u8 0, .int .u8 0, .int .u8 0, .int .u8 0, .int .u8 0, .int .u8 0, .int .u8 0, .int .u8 0, .int .u8 0, .int .u8 0, .int .u8 0, .int .u8 0, .int .u8 0, .int .u8 0, .int .u8 0, .int .u8 0, .int .u8 0, .int .u8 0, .int .u8 0, .int .u8 0, .int .u8 0])).run Tryz.prog W = .ok (.bool (cmdEq (restK c) zC)) W := fun W => run_eq41 (restK c) zC hr zC_ok W
    have EG := fun x y a b W => run_guard41 x y a b W
    obtain ⟨x1, x2, x3, qx⟩ := XC.out W5 (Below.refl _ _)
    clear k5 k5x q5
    have hi41r : (Tryz.prog.info? 41).map (·.size) = some (ccells (restK c)).toArray.size := size41' (restK c) hr.len
    go_upto_region 12 with fail
    have MF := Aside0.mk (MM.out KK.out)
    have C1 := Aside0.mk (win_c c.c 1 4)
    have C2 := Aside0.mk (win_c c.s 1 1000000)
    have C3 := Aside0.mk (nam_c c.u)
    generalize cmdEq (restK c) zC = eb at EQ MF
    generalize winB c.c 1 4 = b1 at C1 MF
    generalize winB c.s 1 1000000 = b2 at C2 MF
    generalize winB c.u.size 1 32 = b3 at C3 MF
    have KB := Aside0.mk (show keyOk c = (c.key.toList.isEmpty) by unfold keyOk; rw [if_pos h1])
    rw [KB.out] at MF
    generalize (c.key.toList.isEmpty) = kb at MF ⊢
    cases eb
    · go_upto_region 99 with (first | (refine wpList_load_row rfl 41 (.tmp 3) rfl rb rfl 41 _ (0, 0) _ k5r Tryz.underlying41 rfl hi41r ?_) | (refine wpList_build41 rfl 41 #[] rfl [] rfl (ccells zC).toArray built41 ?_))
      go_wp2_with (first | (refine wpList_load_row rfl 41 (.tmp 3) rfl rb rfl 41 _ (0, 0) _ k5r Tryz.underlying41 rfl hi41r ?_) | (refine wpList_build41 rfl 41 #[] rfl [] rfl (ccells zC).toArray built41 ?_))
      go_ret
      exact PP.out false _ (by rw [MF.out]; rfl) qx
    cases kb
    · go_upto_region 99 with (first | (refine wpList_load_row rfl 41 (.tmp 3) rfl rb rfl 41 _ (0, 0) _ k5r Tryz.underlying41 rfl hi41r ?_) | (refine wpList_build41 rfl 41 #[] rfl [] rfl (ccells zC).toArray built41 ?_))
      go_wp2_with (first | (refine wpList_load_row rfl 41 (.tmp 3) rfl rb rfl 41 _ (0, 0) _ k5r Tryz.underlying41 rfl hi41r ?_) | (refine wpList_build41 rfl 41 #[] rfl [] rfl (ccells zC).toArray built41 ?_))
      go_ret
      exact PP.out false _ (by rw [MF.out]; rfl) qx
    go_upto_region 20 with (first | (refine wpList_load_row rfl 41 (.tmp 3) rfl rb rfl 41 _ (0, 0) _ k5r Tryz.underlying41 rfl hi41r ?_) | (refine wpList_build41 rfl 41 #[] rfl [] rfl (ccells zC).toArray built41 ?_) | (go_at_call_of 18 (Value.int IntKind.i64 c.c); refine (C1.out _).mono ?_; rintro e W6 ⟨rfl, hd6⟩; refine Aside0.out ?_))
    refine ⟨?_⟩
    have h6 : Below W5.heap.size W5 W6 := hd6.below
    clear x1 x2 x3 qx
    obtain ⟨x1, x2, x3, qx⟩ := XC.out W6 h6
    cases b1
    · go_wp2_with (first | (refine wpList_load_row rfl 41 (.tmp 3) rfl rb rfl 41 _ (0, 0) _ k5r Tryz.underlying41 rfl hi41r ?_) | (refine wpList_build41 rfl 41 #[] rfl [] rfl (ccells zC).toArray built41 ?_))
      go_ret
      exact PP.out false _ (by rw [MF.out]; rfl) qx
    go_upto_region 20 with (first | (go_at_call_of 18 (Value.int IntKind.i64 c.s); refine (C2.out _).mono ?_; rintro e W7 ⟨rfl, hd7⟩; refine Aside0.out ?_))
    refine ⟨?_⟩
    have h7 : Below W5.heap.size W5 W7 := h6.trans (hd7.below.mono h6.size)
    clear x1 x2 x3 qx
    obtain ⟨x1, x2, x3, qx⟩ := XC.out W7 h7
    cases b2
    · go_wp2_with (first | (refine wpList_load_row rfl 41 (.tmp 3) rfl rb rfl 41 _ (0, 0) _ k5r Tryz.underlying41 rfl hi41r ?_) | (refine wpList_build41 rfl 41 #[] rfl [] rfl (ccells zC).toArray built41 ?_))
      go_ret
      exact PP.out false _ (by rw [MF.out]; rfl) qx
    go_upto_region 20 with (first | (go_at_call_of 23 (Value.string c.u); refine (C3.out _).mono ?_; rintro e W8 ⟨rfl, hd8⟩; refine Aside0.out ?_))
    refine ⟨?_⟩
    have h8 : Below W5.heap.size W5 W8 := h7.trans (hd8.below.mono h7.size)
    clear x1 x2 x3 qx
    obtain ⟨x1, x2, x3, qx⟩ := XC.out W8 h8
    cases b3
    · go_wp2_with (first | (refine wpList_load_row rfl 41 (.tmp 3) rfl rb rfl 41 _ (0, 0) _ k5r Tryz.underlying41 rfl hi41r ?_) | (refine wpList_build41 rfl 41 #[] rfl [] rfl (ccells zC).toArray built41 ?_))
      go_ret
      exact PP.out false _ (by rw [MF.out]; rfl) qx
    go_wp2_with (first | (refine wpList_load_row rfl 41 (.tmp 3) rfl rb rfl 41 _ (0, 0) _ k5r Tryz.underlying41 rfl hi41r ?_) | (refine wpList_build41 rfl 41 #[] rfl [] rfl (ccells zC).toArray built41 ?_))
    go_ret
    exact PP.out true _ (by rw [MF.out]; rfl) qx
  have h3n := h1
  clear h1
  by_cases h1 : c.k = 5
  · obtain ⟨k4, k4x, q4⟩ := FA.out W3 (Below.refl _ _)
    have KN : Aside0 (¬ (c.k = 1 ∨ c.k = 2 ∨ c.k = 3)) := ⟨by omega⟩
    have KE : Aside0 (c.k = 5 ∨ c.k = 4) := ⟨by omega⟩
    go_upto_region 16 with (refine wpList_store_mid rfl 31 (.tmp 51) (.tmp 50) rfl rb 6 z31.toArray rfl rfl (there_root k4 hr.len) hi31z z31_one ?_)
    replace k4x := (setCells_far z31 6 xb hne.symm).trans k4x
    replace k4 := mid_root k4 hr.len (List.replicate 32 0) rfl
    replace q4 := below_setCells (Nat.le_refl _) z31 6 _ q4
    have hE : restE c = ⟨0, c.c, c.s, c.u, c.key, 0, List.replicate 32 0⟩ := by unfold restE; rw [if_pos h1]
    change (W3.setCells rb 6 z31).heap[xb]? = _ at k4x
    change (W3.setCells rb 6 z31).heap[rb]? = _ at k4
    generalize W3.setCells rb 6 z31 = W4 at k4 k4x q4 ⊢
    have f5 : W4.frozen? ⟨rb, 5, none⟩ = false := by simp [World.frozen?, k4]
    have c5 : W4.cell? ⟨rb, 5, none⟩ = some (.int .i64 c.e) := cell_in (l := ccells _) k4 rfl
    go_upto_region 17 with fail
    have k5 := blk_put k4 5 (.int .i64 0) rfl
    have k5x := (Below.heap_setCell W4 ⟨rb, 5, none⟩ (.int .i64 0) xb hne.symm).trans k4x
    have q5 : Below rb W0 (W4.setCell ⟨rb, 5, none⟩ (.int .i64 0)) := q4.setCell (Nat.le_refl _) _
    generalize W4.setCell ⟨rb, 5, none⟩ (.int .i64 0) = W5 at k5 k5x q5 ⊢
    clear f5 c5 k4 k4x q4 x0 x1 x4
    have hre : PathOk (restE c).root := by rw [hE]; exact zC_ok
    have k5r : W5.heap[rb]? = some (.cells (ccells (restE c)).toArray 41 (0, 0)) := by rw [hE]; exact k5
    have XC : Aside0 (∀ W, Below W5.heap.size W5 W → W.cell? ⟨xb, 5, none⟩ = some (.int .i64 c.e) ∧ Below rb W0 W) := ⟨fun W hW => by
      have k := (hW.block xb (Array.getElem?_eq_some_iff.1 k5x).1).trans k5x
      exact ⟨cell_in (l := ccells c) k rfl, q5.trans (hW.mono (by have := (Array.getElem?_eq_some_iff.1 k5r).1; omega))⟩⟩
    have EQ : ∀ W : World, (binOp .eql 41 (.agg (ccells (restE c)).toArray) (.agg #[.int .i64 0, .int .i64 0, .int .i64 0, .string ⟨#[]⟩, .string ⟨#[]⟩, .int .i64 0, .int .u8 0, .int .u8 0, .int .u8 0, .int .u8 0, .int .u8 0, .int .u8 0, .int .u8 0, .int .u8 0, .int .u8 0, .int .u8 0, .int .u8 0, .int .u8 0, .int .u8 0, .int .u8 0, .int .u8 0, .int .u8 0, .int .u8 0, .int .u8 0, .int .u8 0, .int .u8 0, .int .u8 0, .int .u8 0, .int .u8 0, .int .u8 0, .int .u8 0, .int .u8 0, .int .u8 0, .int .u8 0, .int .u8 0, .int .u8 0, .int .u8 0, .int .u8 0])).run Tryz.prog W = .ok (.bool (cmdEq (restE c) zC)) W := fun W => run_eq41 (restE c) zC hre zC_ok W
    have EG := fun x y a b W => run_guard41 x y a b W
    obtain ⟨x5, qx⟩ := XC.out W5 (Below.refl _ _)
    have hi41r : (Tryz.prog.info? 41).map (·.size) = some (ccells (restE c)).toArray.size := size41' (restE c) hre.len
    clear k5 k5x q5 hE hre
    have MF := Aside0.mk (ME.out KN.out KE.out)
    have C1 := Aside0.mk (win_c c.e 1 200)
    generalize cmdEq (restE c) zC = eb at EQ MF
    generalize winB c.e 1 200 = b1 at C1 MF
    generalize restE c = rc at *
    cases eb
    · go_wp2_with (first | (refine wpList_load_row rfl 41 (.tmp 3) rfl rb rfl 41 _ (0, 0) _ k5r Tryz.underlying41 rfl hi41r ?_) | (refine wpList_build41 rfl 41 #[] rfl [] rfl (ccells zC).toArray built41 ?_))
      go_ret
      exact PP.out false _ (by rw [MF.out]; rfl) qx
    go_upto_region 20 with (first | (refine wpList_load_row rfl 41 (.tmp 3) rfl rb rfl 41 _ (0, 0) _ k5r Tryz.underlying41 rfl hi41r ?_) | (refine wpList_build41 rfl 41 #[] rfl [] rfl (ccells zC).toArray built41 ?_) | (go_at_call_of 18 (Value.int IntKind.i64 c.e); refine (C1.out _).mono ?_; rintro e W6 ⟨rfl, hd6⟩; refine Aside0.out ?_))
    refine ⟨?_⟩
    have h6 : Below W5.heap.size W5 W6 := hd6.below
    clear x5 qx
    obtain ⟨x5, qx⟩ := XC.out W6 h6
    cases b1
    · go_wp2_with (first | (refine wpList_load_row rfl 41 (.tmp 3) rfl rb rfl 41 _ (0, 0) _ k5r Tryz.underlying41 rfl hi41r ?_) | (refine wpList_build41 rfl 41 #[] rfl [] rfl (ccells zC).toArray built41 ?_))
      go_ret
      exact PP.out false _ (by rw [MF.out]; rfl) qx
    go_wp2_with (first | (refine wpList_load_row rfl 41 (.tmp 3) rfl rb rfl 41 _ (0, 0) _ k5r Tryz.underlying41 rfl hi41r ?_) | (refine wpList_build41 rfl 41 #[] rfl [] rfl (ccells zC).toArray built41 ?_))
    go_ret
    exact PP.out true _ (by rw [MF.out]; rfl) qx
  have h5n := h1
  clear h1
  by_cases h1 : c.k = 4
  · obtain ⟨k4, k4x, q4⟩ := FA.out W3 (Below.refl _ _)
    have KN : Aside0 (¬ (c.k = 1 ∨ c.k = 2 ∨ c.k = 3)) := ⟨by omega⟩
    have KE : Aside0 (c.k = 5 ∨ c.k = 4) := ⟨by omega⟩
    go_upto_region 16 with fail
    have hE : restE c = ⟨0, c.c, c.s, c.u, c.key, 0, c.root⟩ := by unfold restE; rw [if_neg (by omega)]
    generalize W3 = W4 at k4 k4x q4 ⊢
    have f5 : W4.frozen? ⟨rb, 5, none⟩ = false := by simp [World.frozen?, k4]
    have c5 : W4.cell? ⟨rb, 5, none⟩ = some (.int .i64 c.e) := cell_in (l := ccells _) k4 rfl
    go_upto_region 17 with fail
    have k5 := blk_put k4 5 (.int .i64 0) rfl
    have k5x := (Below.heap_setCell W4 ⟨rb, 5, none⟩ (.int .i64 0) xb hne.symm).trans k4x
    have q5 : Below rb W0 (W4.setCell ⟨rb, 5, none⟩ (.int .i64 0)) := q4.setCell (Nat.le_refl _) _
    generalize W4.setCell ⟨rb, 5, none⟩ (.int .i64 0) = W5 at k5 k5x q5 ⊢
    clear f5 c5 k4 k4x q4 x0 x1 x4
    have hre : PathOk (restE c).root := by rw [hE]; exact hr
    have k5r : W5.heap[rb]? = some (.cells (ccells (restE c)).toArray 41 (0, 0)) := by rw [hE]; exact k5
    have XC : Aside0 (∀ W, Below W5.heap.size W5 W → W.cell? ⟨xb, 5, none⟩ = some (.int .i64 c.e) ∧ Below rb W0 W) := ⟨fun W hW => by
      have k := (hW.block xb (Array.getElem?_eq_some_iff.1 k5x).1).trans k5x
      exact ⟨cell_in (l := ccells c) k rfl, q5.trans (hW.mono (by have := (Array.getElem?_eq_some_iff.1 k5r).1; omega))⟩⟩
    have EQ : ∀ W : World, (binOp .eql 41 (.agg (ccells (restE c)).toArray) (.agg #[.int .i64 0, .int .i64 0, .int .i64 0, .string ⟨#[]⟩, .string ⟨#[]⟩, .int .i64 0, .int .u8 0, .int .u8 0, .int .u8 0, .int .u8 0, .int .u8 0, .int .u8 0, .int .u8 0, .int .u8 0, .int .u8 0, .int .u8 0, .int .u8 0, .int .u8 0, .int .u8 0, .int .u8 0, .int .u8 0, .int .u8 0, .int .u8 0, .int .u8 0, .int .u8 0, .int .u8 0, .int .u8 0, .int .u8 0, .int .u8 0, .int .u8 0, .int .u8 0, .int .u8 0, .int .u8 0, .int .u8 0, .int .u8 0, .int .u8 0, .int .u8 0, .int .u8 0])).run Tryz.prog W = .ok (.bool (cmdEq (restE c) zC)) W := fun W => run_eq41 (restE c) zC hre zC_ok W
    have EG := fun x y a b W => run_guard41 x y a b W
    obtain ⟨x5, qx⟩ := XC.out W5 (Below.refl _ _)
    have hi41r : (Tryz.prog.info? 41).map (·.size) = some (ccells (restE c)).toArray.size := size41' (restE c) hre.len
    clear k5 k5x q5 hE hre
    have MF := Aside0.mk (ME.out KN.out KE.out)
    have C1 := Aside0.mk (win_c c.e 1 200)
    generalize cmdEq (restE c) zC = eb at EQ MF
    generalize winB c.e 1 200 = b1 at C1 MF
    generalize restE c = rc at *
    cases eb
    · go_wp2_with (first | (refine wpList_load_row rfl 41 (.tmp 3) rfl rb rfl 41 _ (0, 0) _ k5r Tryz.underlying41 rfl hi41r ?_) | (refine wpList_build41 rfl 41 #[] rfl [] rfl (ccells zC).toArray built41 ?_))
      go_ret
      exact PP.out false _ (by rw [MF.out]; rfl) qx
    go_upto_region 20 with (first | (refine wpList_load_row rfl 41 (.tmp 3) rfl rb rfl 41 _ (0, 0) _ k5r Tryz.underlying41 rfl hi41r ?_) | (refine wpList_build41 rfl 41 #[] rfl [] rfl (ccells zC).toArray built41 ?_) | (go_at_call_of 18 (Value.int IntKind.i64 c.e); refine (C1.out _).mono ?_; rintro e W6 ⟨rfl, hd6⟩; refine Aside0.out ?_))
    refine ⟨?_⟩
    have h6 : Below W5.heap.size W5 W6 := hd6.below
    clear x5 qx
    obtain ⟨x5, qx⟩ := XC.out W6 h6
    cases b1
    · go_wp2_with (first | (refine wpList_load_row rfl 41 (.tmp 3) rfl rb rfl 41 _ (0, 0) _ k5r Tryz.underlying41 rfl hi41r ?_) | (refine wpList_build41 rfl 41 #[] rfl [] rfl (ccells zC).toArray built41 ?_))
      go_ret
      exact PP.out false _ (by rw [MF.out]; rfl) qx
    go_wp2_with (first | (refine wpList_load_row rfl 41 (.tmp 3) rfl rb rfl 41 _ (0, 0) _ k5r Tryz.underlying41 rfl hi41r ?_) | (refine wpList_build41 rfl 41 #[] rfl [] rfl (ccells zC).toArray built41 ?_))
    go_ret
    exact PP.out true _ (by rw [MF.out]; rfl) qx
  have h4n := h1
  clear h1
  have MF := Aside0.mk (MN.out (by omega) (by omega))
  obtain ⟨k4, k4x, q4⟩ := FA.out W3 (Below.refl _ _)
  go_wp2_with fail
  go_ret
  exact PP.out false _ MF.out q4
end Go.Proofs.YtadkeohohehmcaaGreatDoor.Top
