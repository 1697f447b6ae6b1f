/- Are two entries the same? Of the same entries. -/
import Derived.Test.YtpjachbmllklgaaEach
import Derived.Test.YtpjachbmllklgaaPCoux6
import Derived.Test.YtpjachbmllklgaaWEqStruct
import Derived.ChangeKeysEq
import Derived.BigFrame
namespace Go.Proofs.Ytpjachbmllklgaa.Rng
open Go.RowKit Go.Proofs.YtpjachbmllklgaaW.PrintWords Go.Proofs.Ytpjachbmllklgaa.Kinds Go.Proofs.Ytpjachbmllklgaa.PCou
set_option linter.unusedVariables false
set_option linter.unusedSimpArgs false
attribute [local go_sem] Oper.semAt_some

theorem wpList_load_mid_if {P : Program} {ops : Array Oper} {rest : List Oper} {o : Oper} {a : Act} {w : World} {Q : Exit → Act → World → Prop} (hw : Region.wanted o (yielded ops a.tmps) = true) (ty : TypeId) (x : Operand) (ho : o.op = .load ty x)
    (b off : Nat) (hx : a.eval x = .pointer (some ⟨b, off, none⟩)) (cs : List Value) (d : TypeDesc) (hc : w.rangeAt b off cs) (hu : P.underlying ty = some d) (hd : d.isRow = true) (hi : (P.info? ty).map (·.size) = some cs.length)
    (h : wpList P ops Q rest (a.put o.dst (.agg cs.toArray)) w) : wpList P ops Q (o :: rest) a w :=
  BigFrame.wpList_want hw fun K hK => wp_load_mid ty x ho b off hx cs d hc hu hd hi (hK _ _ h)
theorem wpList_load_row_if {P : Program} {ops : Array Oper} {rest : List Oper} {o : Oper} {a : Act} {w : World} {Q : Exit → Act → World → Prop} (hw : Region.wanted o (yielded ops a.tmps) = true) (ty : TypeId) (x : Operand) (ho : o.op = .load ty x)
    (g : Nat) (hx : a.eval x = .pointer (some ⟨g, 0, none⟩)) (t : TypeId) (cs : Array Value) (fr : Nat × Nat) (d : TypeDesc) (hg : w.heap[g]? = some (.cells cs t fr)) (hu : P.underlying ty = some d) (hd : (match d with | .struct _ | .array _ _ => true | _ => false) = true) (hi : (P.info? ty).map (·.size) = some cs.size)
    (h : wpList P ops Q rest (a.put o.dst (.agg cs)) w) : wpList P ops Q (o :: rest) a w :=
  BigFrame.wpList_want hw fun K hK => wp_load_row ty x ho g hx t cs fr d hg hu hd hi (hK _ _ h)
/-- A command's cells. -/
def cmdCells (c : Cmd) : List Value := [.int .i64 c.1, .int .i64 c.2.1, .int .i64 c.2.2.1, .string c.2.2.2.1, .string c.2.2.2.2.1, .int .i64 c.2.2.2.2.2.1] ++ c.2.2.2.2.2.2.map (Value.int .u8)
theorem cmd_K {w : World} {c : Cmd} {cc : List Value} (h : kCmd.K w c cc) : c.2.2.2.2.2.2.length = 32 ∧ cc = cmdCells c := by
  obtain ⟨_, _, rfl, rfl, _, _, rfl, rfl, _, _, rfl, rfl, _, _, rfl, rfl, _, _, rfl, rfl, _, _, rfl, rfl, h7⟩ := h
  obtain ⟨h8, h9⟩ := Kd.arr_cells (n := 32) h7
  exact ⟨h8, by rw [h9]; rfl⟩
theorem eq_items (d : Nat) (w : World) (xs : Array Value) (vs : List Int) (h : ∀ i, i < vs.length → xs[i]? = some (.int .u8 vs[i]!)) : ∀ is : List Nat, (∀ i ∈ is, i < vs.length) → (Op.eqItems (d + 1) 5 1 xs xs is).run Try.prog w = .ok true w
  | [], _ => by simp [Op.eqItems]
  | i :: is, hi => by
    have h1 : (part 5 xs (i * 1)).run Try.prog w = .ok (.int .u8 vs[i]!) w := run_part_plain (P := Try.prog) w (by kernel_rfl) (by rw [Nat.mul_one]; exact h i (hi i (by simp)))
    have h2 : (Op.equalIn (d + 1) 5 (.int .u8 vs[i]!) (.int .u8 vs[i]!)).run Try.prog w = .ok (vs[i]! == vs[i]!) w := run_equalIn_int (P := Try.prog) (w := w) d 5 .u8 .u8 _ _ Try.underlying5
    simp only [Op.eqItems, Sem.run_bind, h1, h2, Result.andThen_ok, beq_self_eq_true, Bool.not_true, Bool.false_eq_true, if_false]
    exact eq_items d w xs vs h is (fun j hj => hi j (by simp [hj]))
theorem eq_dig (d : Nat) (w : World) (vs : List Int) (h : vs.length = 32) : (Op.equalIn (d + 2) 55 (.agg (vs.map (Value.int .u8)).toArray) (.agg (vs.map (Value.int .u8)).toArray)).run Try.prog w = .ok true w := by
  obtain ⟨i, hi⟩ : ∃ i, Try.prog.info? 5 = some i := by
    have : (Try.prog.info? 5).isSome = true := by kernel_rfl
    exact Option.isSome_iff_exists.1 this
  rw [run_equalIn_array (P := Try.prog) (w := w) (d + 1) _ _ Try.underlying55 hi, show Try.prog.cellsOf 5 = 1 by kernel_rfl]
  refine eq_items d w _ vs (fun i hi => ?_) _ (fun i hi => by rw [List.mem_range] at hi; omega)
  rw [getElem!_pos vs i hi]
  simp [hi]
theorem eq_cmd (w : World) (c : Cmd) (h : c.2.2.2.2.2.2.length = 32) : (binOp .eql 57 (.agg (cmdCells c).toArray) (.agg (cmdCells c).toArray)).run Try.prog w = .ok (.bool true) w := by
  rw [run_eql_struct (P := Try.prog) (w := w)]
  have hs : Try.prog.stoodInHeld 57 = false := by kernel_rfl
  obtain ⟨a1, a2, a3, a4, a5, a6, a7⟩ := c
  dsimp only at h
  have eqI : ∀ (d t : Nat) (a : Int), Try.prog.underlying t = some (.int .i64) → (Op.equalIn (d + 1) t (.int .i64 a) (.int .i64 a)).run Try.prog w = .ok true w := fun d t a ht => by
    rw [run_equalIn_int (P := Try.prog) (w := w) d t .i64 .i64 a a ht, beq_self_eq_true]
  have eqS : ∀ (d t : Nat) (a : ByteArray), Try.prog.underlying t = some .string → (Op.equalIn (d + 1) t (.string a) (.string a)).run Try.prog w = .ok true w := fun d t a ht => by
    rw [run_equalIn_string (P := Try.prog) (w := w) d t a a ht, beq_self_eq_true]
  have p : ∀ (t : TypeId) (off : Nat) (v : Value), Try.prog.plainKey t = true → (cmdCells (a1, a2, a3, a4, a5, a6, a7)).toArray[off]? = some v → (part t (cmdCells (a1, a2, a3, a4, a5, a6, a7)).toArray off).run Try.prog w = .ok v w := fun t off v h1 h2 => run_part_plain (P := Try.prog) w h1 h2
  have q : (part 55 (cmdCells (a1, a2, a3, a4, a5, a6, a7)).toArray 6).run Try.prog w = .ok (.agg (a7.map (Value.int .u8)).toArray) w := by
    obtain ⟨i, hi⟩ : ∃ i, Try.prog.info? 55 = some i := by
      have : (Try.prog.info? 55).isSome = true := by kernel_rfl
      exact Option.isSome_iff_exists.1 this
    have hc : Try.prog.cellsOf 55 = 32 := by kernel_rfl
    have he : List.take 32 (List.drop 6 (cmdCells (a1, a2, a3, a4, a5, a6, a7))) = a7.map (Value.int .u8) := by
      show List.take 32 (a7.map (Value.int .u8)) = _
      exact List.take_of_length_le (by simp [h])
    simp [part, isAgg, run_underlying Try.underlying55, run_sizeOf w hi, hc, he]
  have := eqA_of (P := Try.prog) (w := w) (d := 9999) (r := true) Try.underlying57 hs (eqf_cons (s := true) (r := true) rfl (p 53 0 (.int .i64 a1) (by kernel_rfl) rfl) (p 53 0 (.int .i64 a1) (by kernel_rfl) rfl) (eqI 9998 53 a1 Try.underlying53)
    (eqf_cons (s := true) (r := true) rfl (p 3 1 (.int .i64 a2) (by kernel_rfl) rfl) (p 3 1 (.int .i64 a2) (by kernel_rfl) rfl) (eqI 9998 3 a2 Try.underlying3)
    (eqf_cons (s := true) (r := true) rfl (p 3 2 (.int .i64 a3) (by kernel_rfl) rfl) (p 3 2 (.int .i64 a3) (by kernel_rfl) rfl) (eqI 9998 3 a3 Try.underlying3)
    (eqf_cons (s := true) (r := true) rfl (p 9 3 (.string a4) (by kernel_rfl) rfl) (p 9 3 (.string a4) (by kernel_rfl) rfl) (eqS 9998 9 a4 Try.underlying9)
    (eqf_cons (s := true) (r := true) rfl (p 9 4 (.string a5) (by kernel_rfl) rfl) (p 9 4 (.string a5) (by kernel_rfl) rfl) (eqS 9998 9 a5 Try.underlying9)
    (eqf_cons (s := true) (r := true) rfl (p 3 5 (.int .i64 a6) (by kernel_rfl) rfl) (p 3 5 (.int .i64 a6) (by kernel_rfl) rfl) (eqI 9998 3 a6 Try.underlying3)
    (eqf_last (r := true) rfl q q (eq_dig 9997 w a7 h))))))))
  rw [this]
  rfl
/-- An entry's first cells. -/
def entHd (x : Ent) : List Value := [.int .i64 x.1, .int .i64 x.2.1, .int .i64 x.2.2.1] ++ cmdCells x.2.2.2.1
theorem ent_parts {w : World} {x : Ent} {cs : List Value} (h : kEnt.K w x cs) : (x.2.2.2.1.2.2.2.2.2.2.length = 32) ∧ ∃ (A : Option Addr) (c : Nat) (B : Option Addr) (d : Nat), cs = entHd x ++ [.slice A x.2.2.2.2.1.length c, .slice B x.2.2.2.2.2.length d] ∧
    x.2.2.2.2.1.length ≤ c ∧ (Kd.int .i64).C w A x.2.2.2.2.1.length x.2.2.2.2.1 ∧ x.2.2.2.2.2.length ≤ d ∧ (Kd.int .i64).C w B x.2.2.2.2.2.length x.2.2.2.2.2 := by
  obtain ⟨_, _, rfl, rfl, _, _, rfl, rfl, _, _, rfl, rfl, cc, cu, rfl, hc, _, _, rfl, ⟨A2, c2, rfl, h2, h3⟩, ⟨A3, c3, rfl, h4, h5⟩⟩ := h
  obtain ⟨h6, rfl⟩ := cmd_K hc
  exact ⟨h6, A2, c2, A3, c3, by simp [entHd], h2, h3, h4, h5⟩
theorem entHd_length (x : Ent) (h : x.2.2.2.1.2.2.2.2.2.2.length = 32) : (entHd x).length = 41 := by simp [entHd, cmdCells, h]
/-- What a box of an entry tells. -/
theorem ent_box {W : World} {g : Nat} {x : Ent} {V L : Value} {t : TypeId} {fr : Nat × Nat} (h : x.2.2.2.1.2.2.2.2.2.2.length = 32) (hg : W.heap[g]? = some (.cells (entHd x ++ [V, L]).toArray t fr)) :
    W.cell? ⟨g, 0, none⟩ = some (.int .i64 x.1) ∧ W.cell? ⟨g, 1, none⟩ = some (.int .i64 x.2.1) ∧ W.cell? ⟨g, 2, none⟩ = some (.int .i64 x.2.2.1) ∧ W.rangeAt g 3 (cmdCells x.2.2.2.1) ∧ W.cell? ⟨g, 41, none⟩ = some V ∧ W.cell? ⟨g, 42, none⟩ = some L := by
  have hl := entHd_length x h
  have hc : ∀ j, W.cell? ⟨g, j, none⟩ = (entHd x ++ [V, L])[j]? := fun j => by simp [World.cell?, hg]
  refine ⟨by rw [hc]; rfl, by rw [hc]; rfl, by rw [hc]; rfl, fun j v hj => ?_, by rw [hc]; simp [List.getElem?_append, hl], by rw [hc]; simp [List.getElem?_append, hl]⟩
  have hlt := (List.getElem?_eq_some_iff.1 hj).1
  have hcl : (cmdCells x.2.2.2.1).length = 38 := by simp [cmdCells, h]
  rw [hc, List.getElem?_append_left (by omega)]
  unfold entHd
  rw [List.getElem?_append_right (by simp)]
  simpa using hj
theorem ints_same : ∀ (n k : Nat) (xs : List Int) (i : Nat), i + n = xs.length → xs.length ≤ 1000000000 → n < k → r08_ints.l0 k xs xs (i : Int) = some true
  | _, 0, _, _, _, _, h => absurd h (Nat.not_lt_zero _)
  | 0, k + 1, xs, i, h, hl, _ => by
    unfold r08_ints.l0
    rw [if_neg (by omega)]
  | n + 1, k + 1, xs, i, h, hl, hk => by
    unfold r08_ints.l0
    rw [if_pos (by omega), if_pos (by omega), if_pos (by omega), if_pos rfl, show wrap64 ((i : Int) + 1) = ((i + 1 : Nat) : Int) by unfold wrap64; omega]
    exact ints_same n k xs (i + 1) (by omega) hl (by omega)
theorem ints_f (xs : List Int) (h : xs.length ≤ 1000000000) (k : Nat) (hk : xs.length < k) : r08_ints.f k xs xs = some true := by
  unfold r08_ints.f
  rw [if_pos rfl]
  exact ints_same xs.length k xs 0 (by omega) h hk
theorem council_f (v l : List Int) (h1 : v.length ≤ 1000000000) (h2 : l.length ≤ 1000000000) : r08_SameCouncil.f (v.length + l.length + 1) v l v l = some true := by
  unfold r08_SameCouncil.f
  rw [ints_f v h1 _ (by omega), ints_f l h2 _ (by omega)]
  rfl

set_option maxHeartbeats 1000000 in
set_option maxRecDepth 100000 in
theorem sameEntry_c (x : Ent) (cs1 cs2 : List Value) (w : World) (h1 : kEnt.K w x cs1) (h2 : kEnt.K w x cs2) (hv : x.2.2.2.2.1.length ≤ 1000000000) (hl : x.2.2.2.2.2.length ≤ 1000000000) :
    Calls Try.prog 37 #[.agg cs1.toArray, .agg cs2.toArray] w fun e w' => e = .returned (.bool true) ∧ Below w.heap.size w w' := by
  have e20 : ∀ args w, (callFunc 20 args).run Try.prog w = .ok (.enter 20 args) w := enters_of Try.func20 (by kernel_rfl) rfl
  obtain ⟨hd, A1, c1, B1, d1, rfl, ha1, hA1, hb1, hB1⟩ := ent_parts h1
  obtain ⟨_, A2, c2, B2, d2, rfl, ha2, hA2, hb2, hB2⟩ := ent_parts h2
  clear h1 h2
  have HS : Aside0 (∀ W, Below w.heap.size w W → Calls Try.prog 20 #[.agg #[.slice A1 x.2.2.2.2.1.length c1, .slice B1 x.2.2.2.2.2.length d1], .agg #[.slice A2 x.2.2.2.2.1.length c2, .slice B2 x.2.2.2.2.2.length d2]] W fun e w' => e = .returned (.bool true) ∧ Below W.heap.size W w') :=
    ⟨fun W hW => r08_SameCouncil.calls _ A1 c1 _ B1 d1 _ A2 c2 _ B2 d2 _ true W (Kd.C_below hA1 hW) ha1 (Kd.C_below hB1 hW) hb1 (Kd.C_below hA2 hW) ha2 (Kd.C_below hB2 hW) hb2 (council_f _ _ hv hl)⟩
  have hlh := entHd_length x hd
  have heq' : ∀ W : World, (binOp .eql 57 (.agg (cmdCells x.2.2.2.1).toArray) (.agg (cmdCells x.2.2.2.1).toArray)).run Try.prog W = .ok (.bool true) W := fun W => eq_cmd W _ hd
  have hi57 : (Try.prog.info? 57).map (·.size) = some (cmdCells x.2.2.2.1).length := by rw [show (cmdCells x.2.2.2.1).length = 38 by simp [cmdCells, hd]]; kernel_rfl
  clear hA1 hA2 hB1 hB2 ha1 ha2 hb1 hb2 hv hl
  obtain ⟨E1, hE1⟩ : ∃ E1, entHd x ++ [Value.slice A1 x.2.2.2.2.1.length c1, .slice B1 x.2.2.2.2.2.length d1] = E1 := ⟨_, rfl⟩
  obtain ⟨E2, hE2⟩ : ∃ E2, entHd x ++ [Value.slice A2 x.2.2.2.2.1.length c2, .slice B2 x.2.2.2.2.2.length d2] = E2 := ⟨_, rfl⟩
  have k1 := blk_alloc (blk_new w (.cells E1.toArray 59)) (.cells E2.toArray 59)
  have k2 := blk_new (w.alloc (.cells E1.toArray 59)) (.cells E2.toArray 59)
  rw [World.size_alloc] at k2
  have q0 : Below w.heap.size w ((w.alloc (.cells E1.toArray 59)).alloc (.cells E2.toArray 59)) := ((Below.refl _ w).alloc (Nat.le_refl _) _).alloc (by simp) _
  obtain ⟨_, _, _, r1, _, _⟩ := ent_box (x := x) hd (by rw [hE1]; exact k1)
  obtain ⟨_, _, _, r2, _, _⟩ := ent_box (x := x) hd (by rw [hE2]; exact k2)
  have a0 : E1[0]? = some (.int .i64 x.1) := by rw [← hE1]; rfl
  have a1 : E1[1]? = some (.int .i64 x.2.1) := by rw [← hE1]; rfl
  have a2 : E1[2]? = some (.int .i64 x.2.2.1) := by rw [← hE1]; rfl
  have a41 : E1[41]? = some (.slice A1 x.2.2.2.2.1.length c1) := by rw [← hE1]; simp [List.getElem?_append, hlh]
  have a42 : E1[42]? = some (.slice B1 x.2.2.2.2.2.length d1) := by rw [← hE1]; simp [List.getElem?_append, hlh]
  have b0 : E2[0]? = some (.int .i64 x.1) := by rw [← hE2]; rfl
  have b1 : E2[1]? = some (.int .i64 x.2.1) := by rw [← hE2]; rfl
  have b2 : E2[2]? = some (.int .i64 x.2.2.1) := by rw [← hE2]; rfl
  have b41 : E2[41]? = some (.slice A2 x.2.2.2.2.1.length c2) := by rw [← hE2]; simp [List.getElem?_append, hlh]
  have b42 : E2[42]? = some (.slice B2 x.2.2.2.2.2.length d2) := by rw [← hE2]; simp [List.getElem?_append, hlh]
  rw [hE1, hE2]
  clear hE1 hE2 k1 k2 hlh hd
  generalize cmdCells x.2.2.2.1 = cc at *
  generalize x.2.2.2.2.1.length = n1 at *
  generalize x.2.2.2.2.2.length = n2 at *
  go_enter Try.func37, Try.ntmps37
  go_wp2_with (first | (refine wpList_load_mid_if (by rfl) 57 (.tmp 25) rfl w.heap.size 3 rfl cc _ r1 Try.underlying57 rfl hi57 ?_) | (refine wpList_load_mid_if (by rfl) 57 (.tmp 27) rfl (w.heap.size + 1) 3 rfl cc _ r2 Try.underlying57 rfl hi57 ?_))
  refine (HS.out _ q0).mono ?_
  rintro e w2 ⟨rfl, hb⟩
  go_wp2
  go_ret
  exact ⟨rfl, q0.trans (hb.mono q0.size)⟩
end Go.Proofs.Ytpjachbmllklgaa.Rng
