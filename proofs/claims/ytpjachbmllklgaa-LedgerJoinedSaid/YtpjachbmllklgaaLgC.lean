/- Several texts in one. -/
import Derived.Test.YtpjachbmllklgaaLgB
import Derived.Test.YtpjachbmllklgaaPCoux6
import Derived.Test.YtpjachbmllklgaaWEqStruct
import Derived.ChangeKeysEq
import Derived.BigFrame
import Derived.Deep.RegionHeld3
import Derived.Test.YtpjachbmllklgaaLgA
section
/- Are two entries the same? Of the same entries. -/
namespace Go.Proofs.Ytpjachbmllklgaa.Rng
open Go.RowKit Go.Proofs.YtpjachbmllklgaaW.PrintWords Go.Proofs.Ytpjachbmllklgaa.Kinds Go.Proofs.Ytpjachbmllklgaa.PCou
set_option linter.unusedVariables false
set_option linter.unusedSimpArgs false
attribute [local go_sem] Oper.semAt_some

theorem wpList_load_mid_if {P : Program} {ops : Array Oper} {rest : List Oper} {o : Oper} {a : Act} {w : World} {Q : Exit → Act → World → Prop} (hw : Region.wanted o (yielded ops a.tmps) = true) (ty : TypeId) (x : Operand) (ho : o.op = .load ty x)
    (b off : Nat) (hx : a.eval x = .pointer (some ⟨b, off, none⟩)) (cs : List Value) (d : TypeDesc) (hc : w.rangeAt b off cs) (hu : P.underlying ty = some d) (hd : d.isRow = true) (hi : (P.info? ty).map (·.size) = some cs.length)
    (h : wpList P ops Q rest (a.put o.dst (.agg cs.toArray)) w) : wpList P ops Q (o :: rest) a w :=
  BigFrame.wpList_want hw fun K hK => wp_load_mid ty x ho b off hx cs d hc hu hd hi (hK _ _ h)
theorem wpList_load_row_if {P : Program} {ops : Array Oper} {rest : List Oper} {o : Oper} {a : Act} {w : World} {Q : Exit → Act → World → Prop} (hw : Region.wanted o (yielded ops a.tmps) = true) (ty : TypeId) (x : Operand) (ho : o.op = .load ty x)
    (g : Nat) (hx : a.eval x = .pointer (some ⟨g, 0, none⟩)) (t : TypeId) (cs : Array Value) (fr : Nat × Nat) (d : TypeDesc) (hg : w.heap[g]? = some (.cells cs t fr)) (hu : P.underlying ty = some d) (hd : (match d with | .struct _ | .array _ _ => true | _ => false) = true) (hi : (P.info? ty).map (·.size) = some cs.size)
    (h : wpList P ops Q rest (a.put o.dst (.agg cs)) w) : wpList P ops Q (o :: rest) a w :=
  BigFrame.wpList_want hw fun K hK => wp_load_row ty x ho g hx t cs fr d hg hu hd hi (hK _ _ h)
/-- A command's cells. -/
def cmdCells (c : Cmd) : List Value := [.int .i64 c.1, .int .i64 c.2.1, .int .i64 c.2.2.1, .string c.2.2.2.1, .string c.2.2.2.2.1, .int .i64 c.2.2.2.2.2.1] ++ c.2.2.2.2.2.2.map (Value.int .u8)
theorem cmd_K {w : World} {c : Cmd} {cc : List Value} (h : kCmd.K w c cc) : c.2.2.2.2.2.2.length = 32 ∧ cc = cmdCells c := by
  obtain ⟨_, _, rfl, rfl, _, _, rfl, rfl, _, _, rfl, rfl, _, _, rfl, rfl, _, _, rfl, rfl, _, _, rfl, rfl, h7⟩ := h
  obtain ⟨h8, h9⟩ := Kd.arr_cells (n := 32) h7
  exact ⟨h8, by rw [h9]; rfl⟩
theorem eq_items (d : Nat) (w : World) (xs : Array Value) (vs : List Int) (h : ∀ i, i < vs.length → xs[i]? = some (.int .u8 vs[i]!)) : ∀ is : List Nat, (∀ i ∈ is, i < vs.length) → (Op.eqItems (d + 1) 5 1 xs xs is).run Try.prog w = .ok true w
  | [], _ => by simp [Op.eqItems]
  | i :: is, hi => by
    have h1 : (part 5 xs (i * 1)).run Try.prog w = .ok (.int .u8 vs[i]!) w := run_part_plain (P := Try.prog) w (by kernel_rfl) (by rw [Nat.mul_one]; exact h i (hi i (by simp)))
    have h2 : (Op.equalIn (d + 1) 5 (.int .u8 vs[i]!) (.int .u8 vs[i]!)).run Try.prog w = .ok (vs[i]! == vs[i]!) w := run_equalIn_int (P := Try.prog) (w := w) d 5 .u8 .u8 _ _ Try.underlying5
    simp only [Op.eqItems, Sem.run_bind, h1, h2, Result.andThen_ok, beq_self_eq_true, Bool.not_true, Bool.false_eq_true, if_false]
    exact eq_items d w xs vs h is (fun j hj => hi j (by simp [hj]))
theorem eq_dig (d : Nat) (w : World) (vs : List Int) (h : vs.length = 32) : (Op.equalIn (d + 2) 55 (.agg (vs.map (Value.int .u8)).toArray) (.agg (vs.map (Value.int .u8)).toArray)).run Try.prog w = .ok true w := by
  obtain ⟨i, hi⟩ : ∃ i, Try.prog.info? 5 = some i := by
    have : (Try.prog.info? 5).isSome = true := by kernel_rfl
    exact Option.isSome_iff_exists.1 this
  rw [run_equalIn_array (P := Try.prog) (w := w) (d + 1) _ _ Try.underlying55 hi, show Try.prog.cellsOf 5 = 1 by kernel_rfl]
  refine eq_items d w _ vs (fun i hi => ?_) _ (fun i hi => by rw [List.mem_range] at hi; omega)
  rw [getElem!_pos vs i hi]
  simp [hi]
theorem eq_cmd (w : World) (c : Cmd) (h : c.2.2.2.2.2.2.length = 32) : (binOp .eql 57 (.agg (cmdCells c).toArray) (.agg (cmdCells c).toArray)).run Try.prog w = .ok (.bool true) w := by
  rw [run_eql_struct (P := Try.prog) (w := w)]
  have hs : Try.prog.stoodInHeld 57 = false := by kernel_rfl
  obtain ⟨a1, a2, a3, a4, a5, a6, a7⟩ := c
  dsimp only at h
  have eqI : ∀ (d t : Nat) (a : Int), Try.prog.underlying t = some (.int .i64) → (Op.equalIn (d + 1) t (.int .i64 a) (.int .i64 a)).run Try.prog w = .ok true w := fun d t a ht => by
    rw [run_equalIn_int (P := Try.prog) (w := w) d t .i64 .i64 a a ht, beq_self_eq_true]
  have eqS : ∀ (d t : Nat) (a : ByteArray), Try.prog.underlying t = some .string → (Op.equalIn (d + 1) t (.string a) (.string a)).run Try.prog w = .ok true w := fun d t a ht => by
    rw [run_equalIn_string (P := Try.prog) (w := w) d t a a ht, beq_self_eq_true]
  have p : ∀ (t : TypeId) (off : Nat) (v : Value), Try.prog.plainKey t = true → (cmdCells (a1, a2, a3, a4, a5, a6, a7)).toArray[off]? = some v → (part t (cmdCells (a1, a2, a3, a4, a5, a6, a7)).toArray off).run Try.prog w = .ok v w := fun t off v h1 h2 => run_part_plain (P := Try.prog) w h1 h2
  have q : (part 55 (cmdCells (a1, a2, a3, a4, a5, a6, a7)).toArray 6).run Try.prog w = .ok (.agg (a7.map (Value.int .u8)).toArray) w := by
    obtain ⟨i, hi⟩ : ∃ i, Try.prog.info? 55 = some i := by
      have : (Try.prog.info? 55).isSome = true := by kernel_rfl
      exact Option.isSome_iff_exists.1 this
    have hc : Try.prog.cellsOf 55 = 32 := by kernel_rfl
    have he : List.take 32 (List.drop 6 (cmdCells (a1, a2, a3, a4, a5, a6, a7))) = a7.map (Value.int .u8) := by
      show List.take 32 (a7.map (Value.int .u8)) = _
      exact List.take_of_length_le (by simp [h])
    simp [part, isAgg, run_underlying Try.underlying55, run_sizeOf w hi, hc, he]
  have := eqA_of (P := Try.prog) (w := w) (d := 9999) (r := true) Try.underlying57 hs (eqf_cons (s := true) (r := true) rfl (p 53 0 (.int .i64 a1) (by kernel_rfl) rfl) (p 53 0 (.int .i64 a1) (by kernel_rfl) rfl) (eqI 9998 53 a1 Try.underlying53)
    (eqf_cons (s := true) (r := true) rfl (p 3 1 (.int .i64 a2) (by kernel_rfl) rfl) (p 3 1 (.int .i64 a2) (by kernel_rfl) rfl) (eqI 9998 3 a2 Try.underlying3)
    (eqf_cons (s := true) (r := true) rfl (p 3 2 (.int .i64 a3) (by kernel_rfl) rfl) (p 3 2 (.int .i64 a3) (by kernel_rfl) rfl) (eqI 9998 3 a3 Try.underlying3)
    (eqf_cons (s := true) (r := true) rfl (p 9 3 (.string a4) (by kernel_rfl) rfl) (p 9 3 (.string a4) (by kernel_rfl) rfl) (eqS 9998 9 a4 Try.underlying9)
    (eqf_cons (s := true) (r := true) rfl (p 9 4 (.string a5) (by kernel_rfl) rfl) (p 9 4 (.string a5) (by kernel_rfl) rfl) (eqS 9998 9 a5 Try.underlying9)
    (eqf_cons (s := true) (r := true) rfl (p 3 5 (.int .i64 a6) (by kernel_rfl) rfl) (p 3 5 (.int .i64 a6) (by kernel_rfl) rfl) (eqI 9998 3 a6 Try.underlying3)
    (eqf_last (r := true) rfl q q (eq_dig 9997 w a7 h))))))))
  rw [this]
  rfl
/-- An entry's first cells. -/
def entHd (x : Ent) : List Value := [.int .i64 x.1, .int .i64 x.2.1, .int .i64 x.2.2.1] ++ cmdCells x.2.2.2.1
theorem ent_parts {w : World} {x : Ent} {cs : List Value} (h : kEnt.K w x cs) : (x.2.2.2.1.2.2.2.2.2.2.length = 32) ∧ ∃ (A : Option Addr) (c : Nat) (B : Option Addr) (d : Nat), cs = entHd x ++ [.slice A x.2.2.2.2.1.length c, .slice B x.2.2.2.2.2.length d] ∧
    x.2.2.2.2.1.length ≤ c ∧ (Kd.int .i64).C w A x.2.2.2.2.1.length x.2.2.2.2.1 ∧ x.2.2.2.2.2.length ≤ d ∧ (Kd.int .i64).C w B x.2.2.2.2.2.length x.2.2.2.2.2 := by
  obtain ⟨_, _, rfl, rfl, _, _, rfl, rfl, _, _, rfl, rfl, cc, cu, rfl, hc, _, _, rfl, ⟨A2, c2, rfl, h2, h3⟩, ⟨A3, c3, rfl, h4, h5⟩⟩ := h
  obtain ⟨h6, rfl⟩ := cmd_K hc
  exact ⟨h6, A2, c2, A3, c3, by simp [entHd], h2, h3, h4, h5⟩
theorem entHd_length (x : Ent) (h : x.2.2.2.1.2.2.2.2.2.2.length = 32) : (entHd x).length = 41 := by simp [entHd, cmdCells, h]
/-- What a box of an entry tells. -/
theorem ent_box {W : World} {g : Nat} {x : Ent} {V L : Value} {t : TypeId} {fr : Nat × Nat} (h : x.2.2.2.1.2.2.2.2.2.2.length = 32) (hg : W.heap[g]? = some (.cells (entHd x ++ [V, L]).toArray t fr)) :
    W.cell? ⟨g, 0, none⟩ = some (.int .i64 x.1) ∧ W.cell? ⟨g, 1, none⟩ = some (.int .i64 x.2.1) ∧ W.cell? ⟨g, 2, none⟩ = some (.int .i64 x.2.2.1) ∧ W.rangeAt g 3 (cmdCells x.2.2.2.1) ∧ W.cell? ⟨g, 41, none⟩ = some V ∧ W.cell? ⟨g, 42, none⟩ = some L := by
  have hl := entHd_length x h
  have hc : ∀ j, W.cell? ⟨g, j, none⟩ = (entHd x ++ [V, L])[j]? := fun j => by simp [World.cell?, hg]
  refine ⟨by rw [hc]; rfl, by rw [hc]; rfl, by rw [hc]; rfl, fun j v hj => ?_, by rw [hc]; simp [List.getElem?_append, hl], by rw [hc]; simp [List.getElem?_append, hl]⟩
  have hlt := (List.getElem?_eq_some_iff.1 hj).1
  have hcl : (cmdCells x.2.2.2.1).length = 38 := by simp [cmdCells, h]
  rw [hc, List.getElem?_append_left (by omega)]
  unfold entHd
  rw [List.getElem?_append_right (by simp)]
  simpa using hj
theorem ints_same : ∀ (n k : Nat) (xs : List Int) (i : Nat), i + n = xs.length → xs.length ≤ 1000000000 → n < k → r08_ints.l0 k xs xs (i : Int) = some true
  | _, 0, _, _, _, _, h => absurd h (Nat.not_lt_zero _)
  | 0, k + 1, xs, i, h, hl, _ => by
    unfold r08_ints.l0
    rw [if_neg (by omega)]
  | n + 1, k + 1, xs, i, h, hl, hk => by
    unfold r08_ints.l0
    rw [if_pos (by omega), if_pos (by omega), if_pos (by omega), if_pos rfl, show wrap64 ((i : Int) + 1) = ((i + 1 : Nat) : Int) by unfold wrap64; omega]
    exact ints_same n k xs (i + 1) (by omega) hl (by omega)
theorem ints_f (xs : List Int) (h : xs.length ≤ 1000000000) (k : Nat) (hk : xs.length < k) : r08_ints.f k xs xs = some true := by
  unfold r08_ints.f
  rw [if_pos rfl]
  exact ints_same xs.length k xs 0 (by omega) h hk
theorem council_f (v l : List Int) (h1 : v.length ≤ 1000000000) (h2 : l.length ≤ 1000000000) : r08_SameCouncil.f (v.length + l.length + 1) v l v l = some true := by
  unfold r08_SameCouncil.f
  rw [ints_f v h1 _ (by omega), ints_f l h2 _ (by omega)]
  rfl

set_option maxHeartbeats 1000000 in
set_option maxRecDepth 100000 in
theorem sameEntry_c (x : Ent) (cs1 cs2 : List Value) (w : World) (h1 : kEnt.K w x cs1) (h2 : kEnt.K w x cs2) (hv : x.2.2.2.2.1.length ≤ 1000000000) (hl : x.2.2.2.2.2.length ≤ 1000000000) :
    Calls Try.prog 37 #[.agg cs1.toArray, .agg cs2.toArray] w fun e w' => e = .returned (.bool true) ∧ Below w.heap.size w w' := by
  have e20 : ∀ args w, (callFunc 20 args).run Try.prog w = .ok (.enter 20 args) w := enters_of Try.func20 (by kernel_rfl) rfl
  obtain ⟨hd, A1, c1, B1, d1, rfl, ha1, hA1, hb1, hB1⟩ := ent_parts h1
  obtain ⟨_, A2, c2, B2, d2, rfl, ha2, hA2, hb2, hB2⟩ := ent_parts h2
  clear h1 h2
  have HS : Aside0 (∀ W, Below w.heap.size w W → Calls Try.prog 20 #[.agg #[.slice A1 x.2.2.2.2.1.length c1, .slice B1 x.2.2.2.2.2.length d1], .agg #[.slice A2 x.2.2.2.2.1.length c2, .slice B2 x.2.2.2.2.2.length d2]] W fun e w' => e = .returned (.bool true) ∧ Below W.heap.size W w') :=
    ⟨fun W hW => r08_SameCouncil.calls _ A1 c1 _ B1 d1 _ A2 c2 _ B2 d2 _ true W (Kd.C_below hA1 hW) ha1 (Kd.C_below hB1 hW) hb1 (Kd.C_below hA2 hW) ha2 (Kd.C_below hB2 hW) hb2 (council_f _ _ hv hl)⟩
  have hlh := entHd_length x hd
  have heq' : ∀ W : World, (binOp .eql 57 (.agg (cmdCells x.2.2.2.1).toArray) (.agg (cmdCells x.2.2.2.1).toArray)).run Try.prog W = .ok (.bool true) W := fun W => eq_cmd W _ hd
  have hi57 : (Try.prog.info? 57).map (·.size) = some (cmdCells x.2.2.2.1).length := by rw [show (cmdCells x.2.2.2.1).length = 38 by simp [cmdCells, hd]]; kernel_rfl
  clear hA1 hA2 hB1 hB2 ha1 ha2 hb1 hb2 hv hl
  obtain ⟨E1, hE1⟩ : ∃ E1, entHd x ++ [Value.slice A1 x.2.2.2.2.1.length c1, .slice B1 x.2.2.2.2.2.length d1] = E1 := ⟨_, rfl⟩
  obtain ⟨E2, hE2⟩ : ∃ E2, entHd x ++ [Value.slice A2 x.2.2.2.2.1.length c2, .slice B2 x.2.2.2.2.2.length d2] = E2 := ⟨_, rfl⟩
  have k1 := blk_alloc (blk_new w (.cells E1.toArray 59)) (.cells E2.toArray 59)
  have k2 := blk_new (w.alloc (.cells E1.toArray 59)) (.cells E2.toArray 59)
  rw [World.size_alloc] at k2
  have q0 : Below w.heap.size w ((w.alloc (.cells E1.toArray 59)).alloc (.cells E2.toArray 59)) := ((Below.refl _ w).alloc (Nat.le_refl _) _).alloc (by simp) _
  obtain ⟨_, _, _, r1, _, _⟩ := ent_box (x := x) hd (by rw [hE1]; exact k1)
  obtain ⟨_, _, _, r2, _, _⟩ := ent_box (x := x) hd (by rw [hE2]; exact k2)
  have a0 : E1[0]? = some (.int .i64 x.1) := by rw [← hE1]; rfl
  have a1 : E1[1]? = some (.int .i64 x.2.1) := by rw [← hE1]; rfl
  have a2 : E1[2]? = some (.int .i64 x.2.2.1) := by rw [← hE1]; rfl
  have a41 : E1[41]? = some (.slice A1 x.2.2.2.2.1.length c1) := by rw [← hE1]; simp [List.getElem?_append, hlh]
  have a42 : E1[42]? = some (.slice B1 x.2.2.2.2.2.length d1) := by rw [← hE1]; simp [List.getElem?_append, hlh]
  have b0 : E2[0]? = some (.int .i64 x.1) := by rw [← hE2]; rfl
  have b1 : E2[1]? = some (.int .i64 x.2.1) := by rw [← hE2]; rfl
  have b2 : E2[2]? = some (.int .i64 x.2.2.1) := by rw [← hE2]; rfl
  have b41 : E2[41]? = some (.slice A2 x.2.2.2.2.1.length c2) := by rw [← hE2]; simp [List.getElem?_append, hlh]
  have b42 : E2[42]? = some (.slice B2 x.2.2.2.2.2.length d2) := by rw [← hE2]; simp [List.getElem?_append, hlh]
  rw [hE1, hE2]
  clear hE1 hE2 k1 k2 hlh hd
  generalize cmdCells x.2.2.2.1 = cc at *
  generalize x.2.2.2.2.1.length = n1 at *
  generalize x.2.2.2.2.2.length = n2 at *
  go_enter Try.func37, Try.ntmps37
  go_wp2_with (first | (refine wpList_load_mid_if (by rfl) 57 (.tmp 25) rfl w.heap.size 3 rfl cc _ r1 Try.underlying57 rfl hi57 ?_) | (refine wpList_load_mid_if (by rfl) 57 (.tmp 27) rfl (w.heap.size + 1) 3 rfl cc _ r2 Try.underlying57 rfl hi57 ?_))
  refine (HS.out _ q0).mono ?_
  rintro e w2 ⟨rfl, hb⟩
  go_wp2
  go_ret
  exact ⟨rfl, q0.trans (hb.mono q0.size)⟩
end Go.Proofs.Ytpjachbmllklgaa.Rng
end
section
/- Are two rows of entries the same? Of the same ones. -/
namespace Go.Proofs.Ytpjachbmllklgaa.Rng
open Go.RowKit Go.Proofs.YtpjachbmllklgaaW.PrintWords Go.Proofs.Ytpjachbmllklgaa.Kinds Go.Proofs.Ytpjachbmllklgaa.PCou
set_option linter.unusedVariables false
set_option linter.unusedSimpArgs false
attribute [local go_sem] Oper.semAt_some

set_option maxHeartbeats 1000000 in
set_option maxRecDepth 100000 in
theorem entries_c (A1 : Option Addr) (n1 c1 b1 o1 : Nat) (css1 : List (List Value)) (A2 : Option Addr) (n2 c2 b2 o2 : Nat) (css2 : List (List Value)) (xs : List Ent) (w : World) (h1 : LX w A1 b1 o1 css1 xs) (e1 : n1 = xs.length) (h2 : LX w A2 b2 o2 css2 xs) (e2 : n2 = xs.length)
    (hcou : ∀ x ∈ xs, x.2.2.2.2.1.length ≤ 1000000000 ∧ x.2.2.2.2.2.length ≤ 1000000000) :
    Calls Try.prog 26 #[.slice A1 n1 c1, .slice A2 n2 c2] w fun e w' => e = .returned (.bool true) ∧ Below w.heap.size w w' := by
  have e37 : ∀ args w, (callFunc 37 args).run Try.prog w = .ok (.enter 37 args) w := enters_of Try.func37 (by kernel_rfl) rfl
  subst e1
  subst e2
  have H1 := Aside0.mk h1
  have H2 := Aside0.mk h2
  have HC := Aside0.mk hcou
  have hsm : xs.length ≤ 1000000 := by have := h1.small; have := h1.len; omega
  clear h1 h2 hcou
  go_enter Try.func26, Try.ntmps26
  go_wp2_with fail
  go_loopg [5] xs.length (fun gg s5 wr => ∃ kk : Nat, kk ≤ xs.length ∧ xs.length - kk ≤ gg ∧ s5 = .int .i64 kk ∧ Aside (Below w.heap.size w wr))
  case atStart => exact ⟨0, by omega, by omega, rfl, Below.refl _ _⟩
  case round =>
    obtain ⟨kk, hk, hgg, rfl, B⟩ := hrel
    by_cases hlt : kk < xs.length
    · have hltz : (kk : Int) < (xs.length : Int) := by omega
      have hl1 : kk < css1.length := by rw [H1.out.len]; exact hlt
      have hl2 : kk < css2.length := by rw [H2.out.len]; exact hlt
      obtain rfl := H1.out.A (by omega)
      obtain rfl := H2.out.A (by omega)
      have hL1 := H1.out.below B.out
      have hL2 := H2.out.below B.out
      have rg1 : ∀ W, Below wr.heap.size wr W → W.rangeAt b1 (o1 + kk * 43) css1[kk]! := fun W hW => (hL1.below hW).row kk hl1
      have rg2 : ∀ W, Below wr.heap.size wr W → W.rangeAt b2 (o2 + kk * 43) css2[kk]! := fun W hW => (hL2.below hW).row kk hl2
      have hi1 : (Try.prog.info? 59).map (·.size) = some css1[kk]!.length := by rw [(hL1.isE kk hl1).1.len]; exact size59
      have hi2 : (Try.prog.info? 59).map (·.size) = some css2[kk]!.length := by rw [(hL2.isE kk hl2).1.len]; exact size59
      have HS : Aside0 (∀ W, Below wr.heap.size wr W → Calls Try.prog 37 #[.agg css1[kk]!.toArray, .agg css2[kk]!.toArray] W fun e w' => e = .returned (.bool true) ∧ Below W.heap.size W w') :=
        ⟨fun W hW => sameEntry_c xs[kk]! _ _ W ((hL1.below hW).K kk hl1) ((hL2.below hW).K kk hl2) (HC.out _ (hL1.mem kk hl1)).1 (HC.out _ (hL1.mem kk hl1)).2⟩
      generalize css1[kk]! = cs1 at *
      generalize css2[kk]! = cs2 at *
      clear hL1 hL2 hl1 hl2
      go_wp2_with fail
      refine wp_region_held_drew (S := (fun W => Below wr.heap.size wr W)) (by kernel_rfl) (by exact (Below.refl _ _).drew) (fun hHeld => ?_)
      refine wpAnyH_take (i := 0) (oi := _) (v := ?_) rfl (by kernel_rfl) (by kernel_rfl) (by kernel_rfl) (fun _ _ _ h => h) (Or.inl ⟨by rfl, ?_⟩) (by assumption) ?_
      rotate_left
      · (intro w hSw; (try dsimp only at hSw); go_simp; (try with_reducible rfl))
      (try dsimp only [Act.put]); (try simp only [Act.put, List.setIfInBounds_toArray, List.set_cons_zero, List.set_cons_succ])
      refine wpAnyH_take (i := 1) (oi := _) (v := ?_) rfl (by kernel_rfl) (by kernel_rfl) (by kernel_rfl) (fun _ _ _ h => h) (Or.inl ⟨by rfl, ?_⟩) (by assumption) ?_
      rotate_left
      · (intro w hSw; (try dsimp only at hSw); go_simp; (try with_reducible rfl))
      (try dsimp only [Act.put]); (try simp only [Act.put, List.setIfInBounds_toArray, List.set_cons_zero, List.set_cons_succ])
      refine wpAnyH_take (i := 2) (oi := _) (v := ?_) rfl (by kernel_rfl) (by kernel_rfl) (by kernel_rfl) (fun _ _ _ h => h) (Or.inl ⟨by rfl, ?_⟩) (by assumption) ?_
      rotate_left
      · (intro w hSw; (try dsimp only at hSw); go_simp; (try with_reducible rfl))
      (try dsimp only [Act.put]); (try simp only [Act.put, List.setIfInBounds_toArray, List.set_cons_zero, List.set_cons_succ])
      refine wpAnyH_take (i := 3) (oi := _) (v := _) rfl (by kernel_rfl) (by kernel_rfl) (by kernel_rfl) (fun _ _ _ h => h) (yieldsIf_load_mid (by rfl) 59 (.tmp 19) rfl b1 (o1 + kk * 43) rfl cs1 _ rg1 Try.underlying59 rfl hi1) (by assumption) ?_
      (try dsimp only [Act.put]); (try simp only [Act.put, List.setIfInBounds_toArray, List.set_cons_zero, List.set_cons_succ])
      refine wpAnyH_take (i := 4) (oi := _) (v := ?_) rfl (by kernel_rfl) (by kernel_rfl) (by kernel_rfl) (fun _ _ _ h => h) (Or.inl ⟨by rfl, ?_⟩) (by assumption) ?_
      rotate_left
      · (intro w hSw; (try dsimp only at hSw); go_simp; (try with_reducible rfl))
      (try dsimp only [Act.put]); (try simp only [Act.put, List.setIfInBounds_toArray, List.set_cons_zero, List.set_cons_succ])
      refine wpAnyH_take (i := 5) (oi := _) (v := ?_) rfl (by kernel_rfl) (by kernel_rfl) (by kernel_rfl) (fun _ _ _ h => h) (Or.inl ⟨by rfl, ?_⟩) (by assumption) ?_
      rotate_left
      · (intro w hSw; (try dsimp only at hSw); go_simp; (try with_reducible rfl))
      (try dsimp only [Act.put]); (try simp only [Act.put, List.setIfInBounds_toArray, List.set_cons_zero, List.set_cons_succ])
      refine wpAnyH_take (i := 6) (oi := _) (v := ?_) rfl (by kernel_rfl) (by kernel_rfl) (by kernel_rfl) (fun _ _ _ h => h) (Or.inl ⟨by rfl, ?_⟩) (by assumption) ?_
      rotate_left
      · (intro w hSw; (try dsimp only at hSw); go_simp; (try with_reducible rfl))
      (try dsimp only [Act.put]); (try simp only [Act.put, List.setIfInBounds_toArray, List.set_cons_zero, List.set_cons_succ])
      refine wpAnyH_take (i := 7) (oi := _) (v := _) rfl (by kernel_rfl) (by kernel_rfl) (by kernel_rfl) (fun _ _ _ h => h) (yieldsIf_load_mid (by rfl) 59 (.tmp 23) rfl b2 (o2 + kk * 43) rfl cs2 _ rg2 Try.underlying59 rfl hi2) (by assumption) ?_
      (try dsimp only [Act.put]); (try simp only [Act.put, List.setIfInBounds_toArray, List.set_cons_zero, List.set_cons_succ])
      refine wpAnyH_ready (rs := [8]) (by kernel_rfl) (by decide) (AllReadyH.cons rfl (fun K' hK => ?_) AllReadyH.nil)
      rw [if_pos (by rfl)]
      go_simp
      refine (HS.out _ (by assumption)).mono ?_
      rintro e w' ⟨rfl, hb'⟩
      (try dsimp only)
      refine hK.out _ _ (by exact Below.trans (by assumption) (hb'.mono (Below.size (by assumption)))) (fun hHeld => ?_)
      clear hK
      (try dsimp only [Act.put]); (try simp only [Act.put, List.setIfInBounds_toArray, List.set_cons_zero, List.set_cons_succ])
      refine wpAnyH_take (i := 9) (oi := _) (v := ?_) rfl (by kernel_rfl) (by kernel_rfl) (by kernel_rfl) (fun _ _ _ h => h) (Or.inl ⟨by rfl, ?_⟩) (by assumption) ?_
      rotate_left
      · (intro w hSw; (try dsimp only at hSw); go_simp; (try with_reducible rfl))
      (try dsimp only [Act.put]); (try simp only [Act.put, List.setIfInBounds_toArray, List.set_cons_zero, List.set_cons_succ])
      refine wpAnyH_done (by kernel_rfl) ?_ _
      have hfin : Below w.heap.size w w' := B.out.trans (Below.mono (by assumption) B.out.size)
      clear hb'
      go_wp2
      go_roundg (xs.length - (kk + 1))
      case measure => omega
      case rel => exact ⟨kk + 1, by omega, by omega, by go_num, hfin⟩
    · have hltz : ¬ (kk : Int) < (xs.length : Int) := by omega
      go_wp2
      go_ret
      exact ⟨rfl, B.out⟩
end Go.Proofs.Ytpjachbmllklgaa.Rng
end
section
/- Behind; what the document's L answers: parts. -/
namespace Go.Proofs.Ytpjachbmllklgaa.Rng
open Go.RowKit Go.Proofs.YtpjachbmllklgaaW.PrintWords Go.Proofs.Ytpjachbmllklgaa.Kinds Go.Proofs.Ytpjachbmllklgaa.PCou
set_option linter.unusedVariables false
set_option linter.unusedSimpArgs false
attribute [local go_sem] Oper.semAt_some

/-- Is a log that ends so older than one that ends with that number and term? -/
def behV (x : Int × Int) (index term : Int) : Bool := decide (x.2 < term) || (decide (x.2 = term) && decide (x.1 < index))

set_option maxHeartbeats 1000000 in
set_option maxRecDepth 100000 in
theorem behind_c (s : Sv) (b off : Nat) (css : List (List Value)) (w : World) (h : Lg w s b off css) (index term : Int) :
    Calls Try.prog 30 #[.agg s.cells, .int .i64 index, .int .i64 term] w fun e w' => e = .returned (.bool (behV (lastV (s.sound css) (soundE s css)) index term)) ∧ Below w.heap.size w w' := by
  have e11 : ∀ args w, (callFunc 11 args).run Try.prog w = .ok (.enter 11 args) w := enters_of Try.func11 (by kernel_rfl) rfl
  obtain ⟨⟨n1, t1⟩, hlv⟩ : ∃ x, lastV (s.sound css) (soundE s css) = x := ⟨_, rfl⟩
  have C : Aside0 (∀ W, Below w.heap.size w W → Calls Try.prog 11 #[.agg s.cells] W fun e w' => e = .returned (.tuple #[.int .i64 n1, .int .i64 t1]) ∧ Below W.heap.size W w') := ⟨fun W hW => by have := last_c s b off css W (h.below hW); rw [hlv] at this; exact this⟩
  rw [hlv]
  clear h hlv
  generalize hrv : behV (n1, t1) index term = rv
  have RV := Aside0.mk hrv
  clear hrv
  rw [cells_eq]
  go_enter Try.func30, Try.ntmps30
  go_wp2_with fail
  rw [← cells_eq]
  have q0 : Below w.heap.size w (w.alloc (.cells s.cells 30)) := (Below.refl _ w).alloc (Nat.le_refl _) _
  generalize w.alloc (.cells s.cells 30) = W0 at q0 ⊢
  refine (C.out W0 q0).mono ?_
  rintro e w2 ⟨rfl, hb2⟩
  have q2 : Below w.heap.size w w2 := q0.trans (hb2.mono q0.size)
  clear C q0 hb2
  by_cases g1 : t1 < term
  · obtain rfl : true = rv := by rw [← RV.out]; simp [behV, g1]
    go_wp2
    go_ret
    exact ⟨rfl, q2⟩
  · by_cases g2 : t1 = term
    · by_cases g3 : n1 < index
      · obtain rfl : true = rv := by rw [← RV.out]; simp [behV, g2, g3]
        subst g2
        go_wp2
        go_ret
        exact ⟨rfl, q2⟩
      · obtain rfl : false = rv := by rw [← RV.out]; simp [behV, g2, g3]
        subst g2
        have hd : decide (n1 < index) = false := decide_eq_false g3
        have HD := Aside0.mk hd
        clear hd
        go_wp2
        go_ret
        refine ⟨?_, q2⟩
        show Ending.returned (Value.bool (decide (n1 < index))) = _
        rw [HD.out]
    · obtain rfl : false = rv := by rw [← RV.out]; simp [behV, g1, g2]
      have hd : decide (t1 < term) = false := decide_eq_false g1
      have HD := Aside0.mk hd
      clear hd
      go_wp2
      go_ret
      refine ⟨?_, q2⟩
      show Ending.returned (Value.bool (decide (t1 < term))) = _
      rw [HD.out]
/-- The document's L, its entries. -/
def oneX : List Ent := [entX 3 1, entX 4 2, entX 5 2]
theorem one_lx {W : World} {b : Nat} (h : Lg W (oneSv b) b 0 oneE) : LX W (oneSv b).A b 0 oneE oneX := by
  refine ⟨rfl, fun _ => rfl, h.row, ?_, ?_, ?_, h.b, by decide⟩
  · intro j hj
    have : j < 3 := hj
    have : j = 0 ∨ j = 1 ∨ j = 2 := by omega
    rcases this with rfl | rfl | rfl
    · exact kEnt.K_of_M (ent_M W 0 (fun _ => True) 3 1)
    · exact kEnt.K_of_M (ent_M W 0 (fun _ => True) 4 2)
    · exact kEnt.K_of_M (ent_M W 0 (fun _ => True) 5 2)
  · intro x hx
    simp only [oneX, List.mem_cons, List.not_mem_nil, or_false] at hx
    rcases hx with rfl | rfl | rfl <;> simp [entX]
  · intro x hx
    simp only [oneX, List.mem_cons, List.not_mem_nil, or_false] at hx
    rcases hx with rfl | rfl | rfl <;> simp [entX]
theorem one_above (b : Nat) : aboveX (sndX (oneSv b) oneX) 4 9 = [entX 5 2] := by
  have h : checkB (oneSv b).si (itX oneX) = true := by show checkB 2 (itX oneX) = true; decide
  unfold sndX
  rw [h, if_pos rfl]
  have h2 : beyV oneX 4 = (2 : Nat) := beyV_hit oneX 4 2 (by decide) (by decide) (by
    intro j hj
    have : j = 0 ∨ j = 1 := by omega
    rcases this with rfl | rfl <;> decide)
  unfold aboveX
  rw [h2, if_neg (by omega)]
  rfl
theorem one_above_c (b : Nat) (w : World) (h : Lg w (oneSv b) b 0 oneE) : Calls Try.prog 25 #[.agg (oneSv b).cells, .int .i64 4, .int .i64 9] w fun e w' => ∃ v, e = .returned v ∧ kEnt.R 59 w' w.heap.size (fun _ => True) v [entX 5 2] ∧ Below w.heap.size w w' := by
  have := above_c (oneSv b) b 0 oneE oneX w (one_lx h) rfl (Nat.le_refl _) 4 9 (by decide)
  rw [one_above] at this
  exact this
theorem one_sound2 (b : Nat) : (oneSv b).sound oneE = oneSv b ∧ soundE (oneSv b) oneE = oneE := by
  have h : checkB (oneSv b).si (its oneE) = true := by show checkB 2 (its oneE) = true; decide
  unfold Sv.sound soundE
  rw [h]
  exact ⟨rfl, rfl⟩
theorem one_behind_c (b : Nat) (w : World) (h : Lg w (oneSv b) b 0 oneE) (i t : Int) (r : Bool) (hr : behV (5, 2) i t = r) : Calls Try.prog 30 #[.agg (oneSv b).cells, .int .i64 i, .int .i64 t] w fun e w' => e = .returned (.bool r) ∧ Below w.heap.size w w' := by
  have := behind_c (oneSv b) b 0 oneE w h i t
  rw [(one_sound2 b).1, (one_sound2 b).2, show lastV (oneSv b) oneE = (5, 2) from rfl, hr] at this
  exact this

set_option maxHeartbeats 1000000 in
set_option maxRecDepth 100000 in
theorem parts_c (w : World) : Calls Try.prog 29 #[] w fun e w' => e = .returned (.bool true) ∧ Below w.heap.size w w' := by
  have e42 : ∀ args w, (callFunc 42 args).run Try.prog w = .ok (.enter 42 args) w := enters_of Try.func42 (by kernel_rfl) rfl
  have e25 : ∀ args w, (callFunc 25 args).run Try.prog w = .ok (.enter 25 args) w := enters_of Try.func25 (by kernel_rfl) rfl
  have e30 : ∀ args w, (callFunc 30 args).run Try.prog w = .ok (.enter 30 args) w := enters_of Try.func30 (by kernel_rfl) rfl
  go_enter Try.func29, Try.ntmps29
  go_wp2_with fail
  refine (one_c w).mono ?_
  rintro e w1 ⟨b1, rfl, hb1, hL1⟩
  have q1 : Below w.heap.size w w1 := hb1
  clear hb1
  go_wp2_with fail
  refine (one_above_c b1 w1 hL1).mono ?_
  rintro e w2 ⟨v, rfl, hR, hb2⟩
  have q2 : Below w.heap.size w w2 := q1.trans (hb2.mono q1.size)
  clear hb2 q1 hL1
  obtain ⟨A, c, rfl, hc, hC⟩ := Kd.R_reads hR
  obtain ⟨b, off, css, hLX⟩ := lx_of_C hC rfl (by decide) (fun x hx => by simp at hx; subst hx; simp [entX]) (fun x hx => by simp at hx; subst hx; simp [entX])
  have hcl := hLX.len
  obtain rfl := hLX.A (by rw [hcl]; decide)
  have hrow := hLX.row 0 (by rw [hcl]; decide)
  obtain ⟨hE, hit, _⟩ := hLX.isE 0 (by rw [hcl]; decide)
  have c5 : w2.cell? ⟨b, off, none⟩ = some (.int .i64 5) := by
    have := hrow 0 _ hE.i0
    rw [hit] at this
    simpa [entX] using this
  have hl1 : ([entX 5 2] : List Ent).length = 1 := rfl
  rw [hl1]
  clear hR hC hLX hcl hrow hE hit hl1
  go_wp2_with fail
  refine (one_c w2).mono ?_
  rintro e w3 ⟨b3, rfl, hb3, hL3⟩
  have q3 : Below w.heap.size w w3 := q2.trans (hb3.mono q2.size)
  clear hb3 q2
  go_wp2_with fail
  refine (one_behind_c b3 w3 hL3 4 3 true (by decide)).mono ?_
  rintro e w4 ⟨rfl, hb4⟩
  have q4 : Below w.heap.size w w4 := q3.trans (hb4.mono q3.size)
  clear hb4 q3 hL3
  go_wp2_with fail
  refine (one_c w4).mono ?_
  rintro e w5 ⟨b5, rfl, hb5, hL5⟩
  have q5 : Below w.heap.size w w5 := q4.trans (hb5.mono q4.size)
  clear hb5 q4
  go_wp2_with fail
  refine (one_behind_c b5 w5 hL5 5 2 false (by decide)).mono ?_
  rintro e w6 ⟨rfl, hb6⟩
  have q6 : Below w.heap.size w w6 := q5.trans (hb6.mono q5.size)
  clear hb6 q5 hL5
  go_wp2
  go_ret
  exact ⟨rfl, q6⟩
end Go.Proofs.Ytpjachbmllklgaa.Rng
end
section
/- What is looked at: Big, and what holds then. -/
namespace Go.Proofs.Ytpjachbmllklgaa.Rng
open Go.RowKit Go.Proofs.YtpjachbmllklgaaW.PrintWords Go.Proofs.Ytpjachbmllklgaa.Kinds
set_option linter.unusedVariables false
set_option linter.unusedSimpArgs false
attribute [local go_sem] Oper.semAt_some

/-- Big answers; and what holds if it answers 'no'. -/
structure Small (s : Sv) (xs : List Ent) : Prop where
  n : (s.n : Int) ≤ 1000
  g : (s.Gn : Int) ≤ 1000
  v : (s.Vn : Int) ≤ 5000
  l : (s.Ln : Int) ≤ 5000
  c : ∀ j, j < xs.length → xs[j]!.2.2.2.2.1.length ≤ 5000 ∧ xs[j]!.2.2.2.2.2.length ≤ 5000
def BigPost2 (s : Sv) (xs : List Ent) (e : Ending) : Prop := ∃ B, e = .returned (.bool B) ∧ (B = false → Small s xs)
theorem bigPost2_true (s : Sv) (xs : List Ent) : BigPost2 s xs (.returned (.bool true)) := ⟨true, rfl, fun h => by cases h⟩
theorem bigPost2_any (s : Sv) (xs : List Ent) (B : Bool) (h : B = false → Small s xs) : BigPost2 s xs (.returned (.bool B)) := ⟨B, rfl, h⟩
/-- The councils of entries, as they lie. -/
def IsCX (css : List (List Value)) (xs : List Ent) : Prop := css.length = xs.length ∧ ∀ j, j < css.length → ∃ A c B d, css[j]![41]? = some (.slice A xs[j]!.2.2.2.2.1.length c) ∧ css[j]![42]? = some (.slice B xs[j]!.2.2.2.2.2.length d)

set_option maxHeartbeats 2000000 in
set_option maxRecDepth 100000 in
theorem big2_c (s : Sv) (b off : Nat) (css : List (List Value)) (xs : List Ent) (w : World) (h : (s.n : Int) ≤ 1000 → Lg w s b off css ∧ IsCX css xs) :
    Calls Try.prog 9 #[.agg s.cells, .slice none 0 0] w fun e w' => BigPost2 s xs e ∧ Below w.heap.size w w' := by
  have H := Aside0.mk h
  clear h
  obtain ⟨t, v, si, st, Va, Vn, Vc, La, Ln, Lc, d, A, n, cap, Ga, Gn, Gc⟩ := s
  unfold Sv.cells
  dsimp only at H ⊢
  by_cases g1 : (n : Int) > 1000
  · go_enter Try.func9, Try.ntmps9
    go_wp2
    go_ret
    exact ⟨bigPost2_true _ _, (Below.refl _ w).alloc (Nat.le_refl _) _⟩
  by_cases g2 : (Gn : Int) > 1000
  · go_enter Try.func9, Try.ntmps9
    go_wp2
    go_ret
    exact ⟨bigPost2_true _ _, (Below.refl _ w).alloc (Nat.le_refl _) _⟩
  by_cases g3 : (Vn : Int) > 5000
  · go_enter Try.func9, Try.ntmps9
    go_wp2
    go_ret
    exact ⟨bigPost2_true _ _, ((Below.refl _ w).alloc (Nat.le_refl _) _).alloc (by simp) _⟩
  by_cases g4 : (Ln : Int) > 5000
  · go_enter Try.func9, Try.ntmps9
    go_wp2
    go_ret
    exact ⟨bigPost2_true _ _, ((Below.refl _ w).alloc (Nat.le_refl _) _).alloc (by simp) _⟩
  obtain ⟨hL, hC⟩ := H.out (by omega)
  have hn := hL.n
  dsimp only at hn
  subst hn
  clear H
  have HL := Aside0.mk hL
  have HC := Aside0.mk hC
  clear hL hC
  have G1 : Aside0 ((css.length : Int) ≤ 1000 ∧ (Gn : Int) ≤ 1000 ∧ (Vn : Int) ≤ 5000 ∧ (Ln : Int) ≤ 5000) := ⟨by omega⟩
  go_enter Try.func9, Try.ntmps9
  go_wp2
  obtain ⟨W0, hW0⟩ : ∃ W0, ((w.alloc (.cells #[.int .i64 t, .int .i64 v, .int .i64 si, .int .i64 st, .slice Va Vn Vc, .slice La Ln Lc, .string d, .slice A css.length cap, .slice Ga Gn Gc] 30)).alloc (.cells #[.slice Va Vn Vc, .slice La Ln Lc] 24)) = W0 := ⟨_, rfl⟩
  have hb0 : Below w.heap.size w W0 := by rw [← hW0]; exact ((Below.refl _ w).alloc (Nat.le_refl _) _).alloc (by simp) _
  have hc7 : W0.cell? ⟨w.heap.size, 7, none⟩ = some (.slice A css.length cap) := by rw [← hW0]; simp
  have hs0 : w.heap.size < W0.heap.size := by rw [← hW0]; simp; omega
  rw [hW0]
  clear hW0
  go_loopg [5, 6] css.length (fun gg s5 s6 wr => ∃ (kk : Nat) (x : Int), kk ≤ css.length ∧ css.length - kk ≤ gg ∧ s5 = .int .i64 x ∧ s6 = .int .i64 kk ∧ Aside (Below W0.heap.size W0 wr) ∧ 0 ≤ x ∧ Aside (x ≤ 5000 → ∀ j, j < kk → xs[j]!.2.2.2.2.1.length ≤ 5000 ∧ xs[j]!.2.2.2.2.2.length ≤ 5000))
  case atStart => exact ⟨0, 0, by omega, by omega, rfl, rfl, Below.refl _ _, by omega, fun _ j hj => absurd hj (Nat.not_lt_zero _)⟩
  case round =>
    obtain ⟨kk, x, hk, hg, rfl, rfl, B, hx0, XC⟩ := hrel
    have hc7' : wr.cell? ⟨w.heap.size, 7, none⟩ = some (.slice A css.length cap) := (B.out.cell (p := ⟨w.heap.size, 7, none⟩) hs0).trans hc7
    by_cases hlt : kk < css.length ∧ x ≤ 5000
    · obtain ⟨hlt, hx5⟩ := hlt
      have hltz : (kk : Int) < (css.length : Int) := by omega
      obtain rfl := HL.out.A (by omega)
      have hrg := ((HL.out.below hb0).below B.out).row kk hlt
      obtain ⟨A1, c1, A2, c2, e1, e2⟩ := HC.out.2 kk hlt
      generalize hn1 : xs[kk]!.2.2.2.2.1.length = n1 at e1
      generalize hn2 : xs[kk]!.2.2.2.2.2.length = n2 at e2
      have N12 : Aside0 (xs[kk]!.2.2.2.2.1.length = n1 ∧ xs[kk]!.2.2.2.2.2.length = n2) := ⟨hn1, hn2⟩
      clear hn1 hn2
      have XS : Aside0 (∀ x', x' ≤ 5000 → x' ≥ x + (if 5001 < (n1 : Int) then 5001 else (n1 : Int)) + (if 5001 < (n2 : Int) then 5001 else (n2 : Int)) → ∀ j, j < kk + 1 → xs[j]!.2.2.2.2.1.length ≤ 5000 ∧ xs[j]!.2.2.2.2.2.length ≤ 5000) := ⟨fun x' h1 h2 j hj => by
        have hm1 : (0 : Int) ≤ (if 5001 < (n1 : Int) then 5001 else (n1 : Int)) := by split <;> omega
        have hm2 : (0 : Int) ≤ (if 5001 < (n2 : Int) then 5001 else (n2 : Int)) := by split <;> omega
        by_cases e : j = kk
        · subst e
          rw [N12.out.1, N12.out.2]
          constructor
          · split at h2 <;> omega
          · split at h2 <;> split at h2 <;> omega
        · exact XC.out hx5 j (by omega)⟩
      have k1 : wr.cell? ⟨b, off + kk * 43 + 41, none⟩ = some (.slice A1 n1 c1) := hrg 41 _ e1
      have k2 : wr.cell? ⟨b, off + kk * 43 + 42, none⟩ = some (.slice A2 n2 c2) := hrg 42 _ e2
      clear hrg e1 e2
      go_wp2
      go_region
      go_wp2
      all_goals go_roundg (css.length - (kk + 1))
      all_goals first | omega | exact ⟨kk + 1, _, by omega, by omega, rfl, by go_num, B.out.drew, by omega, fun h => XS.out _ h (by (repeat' split) <;> omega)⟩
    · have hb := hb0.trans (B.out.mono hb0.size)
      have hout : ¬ ((kk : Int) < (css.length : Int)) ∨ ((kk : Int) < (css.length : Int) ∧ ¬ x ≤ 5000) := by
        by_cases g : kk < css.length
        · exact .inr ⟨by omega, fun h => hlt ⟨g, h⟩⟩
        · exact .inl (by omega)
      clear hlt
      have FIN : Aside0 (x ≤ 5000 → ∀ j, j < xs.length → xs[j]!.2.2.2.2.1.length ≤ 5000 ∧ xs[j]!.2.2.2.2.2.length ≤ 5000) := ⟨fun hx j hj => by
        have := HC.out.1
        exact XC.out hx j (by omega)⟩
      rcases hout with g | ⟨g, g'⟩
      · go_wp2
        go_loopg [5, 7] 0 (fun gg s5 s7 wr2 => s5 = .int .i64 x ∧ s7 = .int .i64 0 ∧ wr2 = wr)
        case atStart => exact ⟨rfl, rfl, rfl⟩
        case round =>
          obtain ⟨rfl, rfl, rfl⟩ := hrel
          go_wp2
          go_ret
          exact ⟨bigPost2_any _ _ _ (fun hB => ⟨G1.out.1, G1.out.2.1, G1.out.2.2.1, G1.out.2.2.2, fun j hj => FIN.out (by (simp at hB) <;> omega) j hj⟩), hb⟩
      · go_wp2
        go_loopg [5, 7] 0 (fun gg s5 s7 wr2 => s5 = .int .i64 x ∧ s7 = .int .i64 0 ∧ wr2 = wr)
        case atStart => exact ⟨rfl, rfl, rfl⟩
        case round =>
          obtain ⟨rfl, rfl, rfl⟩ := hrel
          go_wp2
          go_ret
          exact ⟨bigPost2_any _ _ _ (fun hB => ⟨G1.out.1, G1.out.2.1, G1.out.2.2.1, G1.out.2.2.2, fun j hj => FIN.out (by (simp at hB) <;> omega) j hj⟩), hb⟩
end Go.Proofs.Ytpjachbmllklgaa.Rng
end
section
/- What is saved, as an argument. -/
namespace Go.Proofs.Ytpjachbmllklgaa.Rng
open Go.RowKit Go.Proofs.YtpjachbmllklgaaW.PrintWords Go.Proofs.Ytpjachbmllklgaa.Kinds
set_option linter.unusedVariables false
set_option linter.unusedSimpArgs false

/-- Entries that are read; their councils may be of any length. -/
structure LX0 (W : World) (A : Option Addr) (b off : Nat) (css : List (List Value)) (xs : List Ent) : Prop where
  len : css.length = xs.length
  A : 0 < css.length → A = some ⟨b, off, none⟩
  row : Row W b off css
  K : ∀ j, j < css.length → kEnt.K W xs[j]! css[j]!
  wi : ∀ x ∈ xs, -9223372036854775808 ≤ x.1 ∧ x.1 ≤ 9223372036854775807
  b : b < W.heap.size ∨ css = []
  small : css.length ≤ 1000000
theorem lx0_of_C {w : World} {A : Option Addr} {n : Nat} {xs : List Ent} (hr : kEnt.C w A n xs) (hn : xs.length = n) (hs : xs.length ≤ 1000000)
    (hi : ∀ x ∈ xs, -9223372036854775808 ≤ x.1 ∧ x.1 ≤ 9223372036854775807) : ∃ (b off : Nat) (css : List (List Value)), LX0 w A b off css xs := by
  subst hn
  by_cases h0 : 0 < xs.length
  · obtain ⟨ad, rfl, hcell⟩ := hr.2.2 h0
    have key : ∀ j, j < xs.length → ∃ cs', cs'.length = 43 ∧ kEnt.K w (xs[j]!) cs' ∧ ∀ i u, cs'[i]? = some u → w.cell? (ad.add (j * 43 + i)) = some u := fun j hj => hcell j _ (by rw [getElem!_pos _ j hj]; exact List.getElem?_eq_getElem hj)
    have : ∀ k, k ≤ xs.length → ∃ css : List (List Value), css.length = k ∧ ∀ j, j < css.length → kEnt.K w (xs[j]!) css[j]! ∧ ∀ i u, css[j]![i]? = some u → w.cell? (ad.add (j * 43 + i)) = some u := by
      intro k
      induction k with
      | zero => exact fun _ => ⟨[], rfl, fun j hj => by simp at hj⟩
      | succ k ih =>
        intro hk
        obtain ⟨css, hl, hh⟩ := ih (by omega)
        obtain ⟨cs', _, h1, h2⟩ := key k (by omega)
        refine ⟨css ++ [cs'], by simp [hl], fun j hj => ?_⟩
        simp only [List.length_append, List.length_singleton] at hj
        by_cases e : j < css.length
        · have : (css ++ [cs'])[j]! = css[j]! := by rw [getElem!_pos _ j (by simp; omega), getElem!_pos _ j e, List.getElem_append_left e]
          rw [this]
          exact hh j e
        · have e2 : j = k := by omega
          subst e2
          have : (css ++ [cs'])[j]! = cs' := by rw [getElem!_pos _ j (by simp; omega), List.getElem_append_right (by omega)]; simp [hl]
          rw [this]
          exact ⟨h1, h2⟩
    obtain ⟨css, hl, hh⟩ := this _ (Nat.le_refl _)
    obtain ⟨b, off, spot⟩ := ad
    have hc0 := (hh 0 (by omega)).2 0 _ (ent_cells (hh 0 (by omega)).1).1.i0
    have hspot : spot = none := by simpa [Addr.add] using World.cell?_spot hc0
    subst hspot
    refine ⟨b, off, css, hl, fun _ => rfl, fun j hj i u hiu => ?_, fun j hj => (hh j hj).1, hi, .inl ?_, by omega⟩
    · have := (hh j hj).2 i u hiu
      rw [Addr.add_mid] at this
      rw [show off + j * 43 + i = off + (j * 43 + i) by omega]
      exact this
    · have := block_lt_of_cell hc0
      simpa [Addr.add] using this
  · have h1 : xs = [] := by simpa using h0
    subst h1
    exact ⟨0, 0, [], rfl, fun g => by simp at g, fun j hj => by simp at hj, fun j hj => by simp at hj, hi, .inr rfl, by simp⟩
theorem LX0.below {W W' : World} {A : Option Addr} {b off : Nat} {css : List (List Value)} {xs : List Ent} (h : LX0 W A b off css xs) (hb : Below W.heap.size W W') : LX0 W' A b off css xs := by
  refine ⟨h.len, h.A, ?_, fun j hj => kEnt.K_below hb (h.K j hj), h.wi, ?_, h.small⟩
  · rcases h.b with g | g
    · exact h.row.same (hb.block b g)
    · subst g; intro j hj; simp at hj
  · rcases h.b with g | g
    · exact .inl (Nat.lt_of_lt_of_le g hb.size)
    · exact .inr g
theorem LX0.lx {W : World} {A : Option Addr} {b off : Nat} {css : List (List Value)} {xs : List Ent} (h : LX0 W A b off css xs) (hc : ∀ x ∈ xs, x.2.2.2.2.1.length < 17592186044416 ∧ x.2.2.2.2.2.length < 17592186044416) : LX W A b off css xs :=
  ⟨h.len, h.A, h.row, h.K, hc, h.wi, h.b, h.small⟩
theorem LX0.lg {W : World} {s : Sv} {b off : Nat} {css : List (List Value)} {xs : List Ent} (h : LX0 W s.A b off css xs) (hn : s.n = css.length) : Lg W s b off css :=
  ⟨hn, h.A, h.row, fun j hj => (ent_cells (h.K j hj)).1, fun j hj => by
    rw [(ent_cells (h.K j hj)).2.1]
    refine h.wi _ ?_
    have := h.len
    rw [getElem!_pos xs j (by omega)]
    exact List.getElem_mem _, h.small, h.b⟩
theorem LX0.cx {W : World} {A : Option Addr} {b off : Nat} {css : List (List Value)} {xs : List Ent} (h : LX0 W A b off css xs) : IsCX css xs := ⟨h.len, fun j hj => by
  obtain ⟨hd, A1, c1, B1, d1, hl, he, _⟩ := ent_split (h.K j hj)
  refine ⟨A1, c1, B1, d1, ?_, ?_⟩
  · rw [he]; simp [List.getElem?_append, hl]
  · rw [he]; simp [List.getElem?_append, hl]⟩
/-- What is saved, as it lies. -/
structure SK (W : World) (s : Sv) (x : Saved) : Prop where
  t : s.t = x.1
  v : s.v = x.2.1
  si : s.si = x.2.2.1.1
  st : s.st = x.2.2.1.2.1
  Vn : s.Vn = x.2.2.1.2.2.1.1.length
  Vc : x.2.2.1.2.2.1.1.length ≤ s.Vc
  VC : (Kd.int .i64).C W s.Va x.2.2.1.2.2.1.1.length x.2.2.1.2.2.1.1
  Ln : s.Ln = x.2.2.1.2.2.1.2.length
  Lc : x.2.2.1.2.2.1.2.length ≤ s.Lc
  LC : (Kd.int .i64).C W s.La x.2.2.1.2.2.1.2.length x.2.2.1.2.2.1.2
  d : s.d = x.2.2.1.2.2.2
  n : s.n = x.2.2.2.1.length
  cap : x.2.2.2.1.length ≤ s.cap
  C : kEnt.C W s.A x.2.2.2.1.length x.2.2.2.1
  Gn : s.Gn = x.2.2.2.2.length
  Gc : x.2.2.2.2.length ≤ s.Gc
  GC : kSgn.C W s.Ga x.2.2.2.2.length x.2.2.2.2
theorem SK.below {W W' : World} {s : Sv} {x : Saved} (h : SK W s x) (hb : Below W.heap.size W W') : SK W' s x :=
  ⟨h.t, h.v, h.si, h.st, h.Vn, h.Vc, Kd.C_below h.VC hb, h.Ln, h.Lc, Kd.C_below h.LC hb, h.d, h.n, h.cap, Kd.C_below h.C hb, h.Gn, h.Gc, Kd.C_below h.GC hb⟩
theorem saved_sk {w : World} {cs : List Value} {x : Saved} (h : kSaved.K w x cs) : ∃ s : Sv, cs = s.cells.toList ∧ SK w s x := by
  obtain ⟨_, _, rfl, rfl, _, _, rfl, rfl, _, _, rfl, ⟨_, _, rfl, rfl, _, _, rfl, rfl, _, _, rfl, ⟨_, _, rfl, ⟨A1, c1, rfl, h1, h2⟩, ⟨A2, c2, rfl, h3, h4⟩⟩, rfl⟩, _, _, rfl, ⟨A, c, rfl, hc, hr⟩, ⟨B, d, rfl, h5, h6⟩⟩ := h
  exact ⟨⟨x.1, x.2.1, x.2.2.1.1, x.2.2.1.2.1, A1, x.2.2.1.2.2.1.1.length, c1, A2, x.2.2.1.2.2.1.2.length, c2, x.2.2.1.2.2.2, A, x.2.2.2.1.length, c, B, x.2.2.2.2.length, d⟩, rfl, rfl, rfl, rfl, rfl, rfl, h1, h2, rfl, h3, h4, rfl, rfl, hc, hr, rfl, h5, h6⟩
/-- Its entries, if they are few. -/
theorem SK.lx0 {W : World} {s : Sv} {x : Saved} (h : SK W s x) (hw : WSaved x) (hn : (s.n : Int) ≤ 1000) : ∃ (b off : Nat) (css : List (List Value)), LX0 W s.A b off css x.2.2.2.1 :=
  lx0_of_C h.C rfl (by rw [← h.n]; omega) (fun e he => bounds _ (hw.2.2.2.1.2 e he).1)
end Go.Proofs.Ytpjachbmllklgaa.Rng
end
