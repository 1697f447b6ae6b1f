/- Several texts in one. -/
import Derived.Test.YtpjachbmllklgaaJdA
import Derived.Test.YtpjachbmllklgaaPCoux7
import Derived.Deep.DeepCutAuto
import Derived.Great.BuildSlice
section
/- Comparisons of any two: they answer. -/
namespace Go.Proofs.Ytpjachbmllklgaa.Rng
open Go.RowKit Go.Proofs.YtpjachbmllklgaaW.PrintWords Go.Proofs.Ytpjachbmllklgaa.Kinds Go.Proofs.Ytpjachbmllklgaa.PCou
set_option linter.unusedVariables false
set_option linter.unusedSimpArgs false

theorem eq_items_any (d : Nat) (xs ys : Array Value) (vs us : List Int) (h : ∀ i, i < vs.length → xs[i]? = some (.int .u8 vs[i]!)) (h2 : ∀ i, i < vs.length → ys[i]? = some (.int .u8 us[i]!)) : ∀ is : List Nat, (∀ i ∈ is, i < vs.length) → ∃ B, ∀ w : World, (Op.eqItems (d + 1) 5 1 xs ys is).run Try.prog w = .ok B w
  | [], _ => ⟨true, fun w => by simp [Op.eqItems]⟩
  | i :: is, hi => by
    have h1 : ∀ w : World, (part 5 xs (i * 1)).run Try.prog w = .ok (.int .u8 vs[i]!) w := fun w => run_part_plain (P := Try.prog) w (by kernel_rfl) (by rw [Nat.mul_one]; exact h i (hi i (by simp)))
    have h3 : ∀ w : World, (part 5 ys (i * 1)).run Try.prog w = .ok (.int .u8 us[i]!) w := fun w => run_part_plain (P := Try.prog) w (by kernel_rfl) (by rw [Nat.mul_one]; exact h2 i (hi i (by simp)))
    have h4 : ∀ w : World, (Op.equalIn (d + 1) 5 (.int .u8 vs[i]!) (.int .u8 us[i]!)).run Try.prog w = .ok (vs[i]! == us[i]!) w := fun w => run_equalIn_int (P := Try.prog) (w := w) d 5 .u8 .u8 _ _ Try.underlying5
    obtain ⟨B, hB⟩ := eq_items_any d xs ys vs us h h2 is (fun j hj => hi j (by simp [hj]))
    cases hc : (vs[i]! == us[i]!) with
    | true => exact ⟨B, fun w => by simp only [Op.eqItems, Sem.run_bind, h1, h3, h4, Result.andThen_ok, hc, Bool.not_true, Bool.false_eq_true, if_false, hB]⟩
    | false => exact ⟨false, fun w => by simp only [Op.eqItems, Sem.run_bind, h1, h3, h4, Result.andThen_ok, hc, Bool.not_false, if_true, Sem.run_pure]⟩
theorem eq_dig_any (d : Nat) (vs us : List Int) (h : vs.length = 32) (h2 : us.length = 32) : ∃ B, ∀ w : World, (Op.equalIn (d + 2) 55 (.agg (vs.map (Value.int .u8)).toArray) (.agg (us.map (Value.int .u8)).toArray)).run Try.prog w = .ok B w := by
  obtain ⟨i, hi⟩ : ∃ i, Try.prog.info? 5 = some i := by
    have : (Try.prog.info? 5).isSome = true := by kernel_rfl
    exact Option.isSome_iff_exists.1 this
  have f1 : ∀ i, i < vs.length → (vs.map (Value.int .u8)).toArray[i]? = some (.int .u8 vs[i]!) := fun i hi => by
    rw [getElem!_pos vs i hi]
    simp [hi]
  have f2 : ∀ i, i < vs.length → (us.map (Value.int .u8)).toArray[i]? = some (.int .u8 us[i]!) := fun i hi => by
    rw [getElem!_pos us i (by omega)]
    simp [show i < us.length by omega]
  obtain ⟨B, hB⟩ := eq_items_any d (vs.map (Value.int .u8)).toArray (us.map (Value.int .u8)).toArray vs us f1 f2 (List.range 32) (fun i hi => by rw [List.mem_range] at hi; omega)
  refine ⟨B, fun w => ?_⟩
  rw [run_equalIn_array (P := Try.prog) (w := w) (d + 1) _ _ Try.underlying55 hi, show Try.prog.cellsOf 5 = 1 by kernel_rfl]
  exact hB w
theorem eq_cmd_any (c e : Cmd) (h : c.2.2.2.2.2.2.length = 32) (h2 : e.2.2.2.2.2.2.length = 32) : ∃ B, ∀ w : World, (binOp .eql 57 (.agg (cmdCells c).toArray) (.agg (cmdCells e).toArray)).run Try.prog w = .ok (.bool B) w := by
  have hs : Try.prog.stoodInHeld 57 = false := by kernel_rfl
  obtain ⟨a1, a2, a3, a4, a5, a6, a7⟩ := c
  obtain ⟨b1, b2, b3, b4, b5, b6, b7⟩ := e
  dsimp only at h h2
  obtain ⟨B, hB⟩ := eq_dig_any 9997 a7 b7 h h2
  refine ⟨((a1 == b1) && ((a2 == b2) && ((a3 == b3) && ((a4.toList == b4.toList) && ((a5.toList == b5.toList) && ((a6 == b6) && B)))))), fun w => ?_⟩
  rw [run_eql_struct (P := Try.prog) (w := w)]
  have eqI : ∀ (d t : Nat) (a b : Int), Try.prog.underlying t = some (.int .i64) → (Op.equalIn (d + 1) t (.int .i64 a) (.int .i64 b)).run Try.prog w = .ok (a == b) w := fun d t a b ht => run_equalIn_int (P := Try.prog) (w := w) d t .i64 .i64 a b ht
  have eqS : ∀ (d t : Nat) (a b : ByteArray), Try.prog.underlying t = some .string → (Op.equalIn (d + 1) t (.string a) (.string b)).run Try.prog w = .ok (a.toList == b.toList) w := fun d t a b ht => run_equalIn_string (P := Try.prog) (w := w) d t a b ht
  have p : ∀ (c : Cmd) (t : TypeId) (off : Nat) (v : Value), Try.prog.plainKey t = true → (cmdCells c).toArray[off]? = some v → (part t (cmdCells c).toArray off).run Try.prog w = .ok v w := fun c t off v h1 h2 => run_part_plain (P := Try.prog) w h1 h2
  have q : ∀ (c : Cmd), c.2.2.2.2.2.2.length = 32 → (part 55 (cmdCells c).toArray 6).run Try.prog w = .ok (.agg (c.2.2.2.2.2.2.map (Value.int .u8)).toArray) w := fun c hc => part_dig w _ 6 _ (by
    show List.take 32 (c.2.2.2.2.2.2.map (Value.int .u8)) = _
    exact List.take_of_length_le (by simp [hc]))
  have := eqA_of (P := Try.prog) (w := w) (d := 9999) Try.underlying57 hs (eqf_cons rfl (p (a1, a2, a3, a4, a5, a6, a7) 53 0 (.int .i64 a1) (by kernel_rfl) rfl) (p (b1, b2, b3, b4, b5, b6, b7) 53 0 (.int .i64 b1) (by kernel_rfl) rfl) (eqI 9998 53 a1 b1 Try.underlying53)
    (eqf_cons rfl (p (a1, a2, a3, a4, a5, a6, a7) 3 1 (.int .i64 a2) (by kernel_rfl) rfl) (p (b1, b2, b3, b4, b5, b6, b7) 3 1 (.int .i64 b2) (by kernel_rfl) rfl) (eqI 9998 3 a2 b2 Try.underlying3)
    (eqf_cons rfl (p (a1, a2, a3, a4, a5, a6, a7) 3 2 (.int .i64 a3) (by kernel_rfl) rfl) (p (b1, b2, b3, b4, b5, b6, b7) 3 2 (.int .i64 b3) (by kernel_rfl) rfl) (eqI 9998 3 a3 b3 Try.underlying3)
    (eqf_cons rfl (p (a1, a2, a3, a4, a5, a6, a7) 9 3 (.string a4) (by kernel_rfl) rfl) (p (b1, b2, b3, b4, b5, b6, b7) 9 3 (.string b4) (by kernel_rfl) rfl) (eqS 9998 9 a4 b4 Try.underlying9)
    (eqf_cons rfl (p (a1, a2, a3, a4, a5, a6, a7) 9 4 (.string a5) (by kernel_rfl) rfl) (p (b1, b2, b3, b4, b5, b6, b7) 9 4 (.string b5) (by kernel_rfl) rfl) (eqS 9998 9 a5 b5 Try.underlying9)
    (eqf_cons rfl (p (a1, a2, a3, a4, a5, a6, a7) 3 5 (.int .i64 a6) (by kernel_rfl) rfl) (p (b1, b2, b3, b4, b5, b6, b7) 3 5 (.int .i64 b6) (by kernel_rfl) rfl) (eqI 9998 3 a6 b6 Try.underlying3)
    (eqf_last rfl (q (a1, a2, a3, a4, a5, a6, a7) h) (q (b1, b2, b3, b4, b5, b6, b7) h2) (hB w))))))))
  rw [this]
  rfl
theorem eq_sgn_any (x y : Sgn) (h1 : x.1.2.1.length = 32) (h2 : x.1.2.2.length = 32) (h3 : x.2.length = 32) (g1 : y.1.2.1.length = 32) (g2 : y.1.2.2.length = 32) (g3 : y.2.length = 32) : ∃ B, ∀ w : World, (binOp .eql 69 (.agg (sgnCells x).toArray) (.agg (sgnCells y).toArray)).run Try.prog w = .ok (.bool B) w := by
  have hs : Try.prog.stoodInHeld 69 = false := by kernel_rfl
  have hs7 : Try.prog.stoodInHeld 67 = false := by kernel_rfl
  obtain ⟨B1, hB1⟩ := eq_dig_any 9996 x.1.2.1 y.1.2.1 h1 g1
  obtain ⟨B2, hB2⟩ := eq_dig_any 9996 x.1.2.2 y.1.2.2 h2 g2
  obtain ⟨B3, hB3⟩ := eq_dig_any 9997 x.2 y.2 h3 g3
  refine ⟨(((x.1.1 == y.1.1) && (B1 && B2)) && B3), fun w => ?_⟩
  rw [run_eql_struct (P := Try.prog) (w := w)]
  have q0 : ∀ z : Sgn, z.1.2.1.length = 32 → z.1.2.2.length = 32 → (part 67 (sgnCells z).toArray 0).run Try.prog w = .ok (.agg (headCells z.1).toArray) w := fun z a b => part_head w _ _ (by
    unfold sgnCells
    have hl := head_len z.1 a b
    rw [List.take_append_of_le_length (by omega), List.take_of_length_le (by omega)])
  have q1 : ∀ z : Sgn, z.1.2.1.length = 32 → z.1.2.2.length = 32 → z.2.length = 32 → (part 55 (sgnCells z).toArray 65).run Try.prog w = .ok (.agg (z.2.map (Value.int .u8)).toArray) w := fun z a b c => part_dig w _ 65 z.2 (by
    have hl := head_len z.1 a b
    unfold sgnCells
    rw [List.drop_append, List.drop_of_length_le (by omega), List.nil_append, hl, Nat.sub_self, List.drop_zero]
    exact List.take_of_length_le (by simp [c]))
  have p : ∀ z : Head, (part 3 (headCells z).toArray 0).run Try.prog w = .ok (.int .i64 z.1) w := fun z => run_part_plain (P := Try.prog) w (by kernel_rfl) rfl
  have r1 : ∀ z : Head, z.2.1.length = 32 → z.2.2.length = 32 → (part 55 (headCells z).toArray 1).run Try.prog w = .ok (.agg (z.2.1.map (Value.int .u8)).toArray) w := fun z a b => part_dig w _ 1 z.2.1 (by
    have := (head_parts z a b).1
    rwa [List.length_map, a] at this)
  have r2 : ∀ z : Head, z.2.1.length = 32 → z.2.2.length = 32 → (part 55 (headCells z).toArray 33).run Try.prog w = .ok (.agg (z.2.2.map (Value.int .u8)).toArray) w := fun z a b => part_dig w _ 33 z.2.2 (by
    have := (head_parts z a b).2
    rwa [List.length_map, b] at this)
  have eqI : ∀ (d t : Nat) (a b : Int), Try.prog.underlying t = some (.int .i64) → (Op.equalIn (d + 1) t (.int .i64 a) (.int .i64 b)).run Try.prog w = .ok (a == b) w := fun d t a b ht => run_equalIn_int (P := Try.prog) (w := w) d t .i64 .i64 a b ht
  have hh := eqA_of (P := Try.prog) (w := w) (d := 9998) Try.underlying67 hs7 (eqf_cons rfl (p x.1) (p y.1) (eqI 9997 3 x.1.1 y.1.1 Try.underlying3)
    (eqf_cons rfl (r1 x.1 h1 h2) (r1 y.1 g1 g2) (hB1 w) (eqf_last rfl (r2 x.1 h1 h2) (r2 y.1 g1 g2) (hB2 w))))
  have := eqA_of (P := Try.prog) (w := w) (d := 9999) Try.underlying69 hs (eqf_cons rfl (q0 x h1 h2) (q0 y g1 g2) hh (eqf_last rfl (q1 x h1 h2 h3) (q1 y g1 g2 g3) (hB3 w)))
  rw [this]
  rfl
theorem ints_any : ∀ (n k : Nat) (xs ys : List Int) (i : Nat), i + n = xs.length → xs.length = ys.length → xs.length ≤ 1000000000 → n < k → ∃ B, r08_ints.l0 k xs ys (i : Int) = some B
  | n, 0, _, _, _, _, _, _, h => absurd h (by omega)
  | 0, k + 1, xs, ys, i, h1, h2, h3, h4 => ⟨true, by unfold r08_ints.l0; rw [if_neg (by omega)]⟩
  | n + 1, k + 1, xs, ys, i, h1, h2, h3, h4 => by
    unfold r08_ints.l0
    rw [if_pos (by omega), if_pos (by omega), if_pos (by omega), show wrap64 ((i : Int) + 1) = ((i + 1 : Nat) : Int) by unfold wrap64; omega]
    split
    · exact ints_any n k xs ys (i + 1) (by omega) h2 h3 (by omega)
    · exact ⟨_, rfl⟩
theorem ints_f_any (xs ys : List Int) (h : xs.length ≤ 1000000000) (k : Nat) (hk : xs.length < k) : ∃ B, r08_ints.f k xs ys = some B := by
  unfold r08_ints.f
  split
  · rename_i h2
    exact ints_any xs.length k xs ys 0 (by omega) (by omega) h hk
  · exact ⟨_, rfl⟩
theorem council_f_any (v l v2 l2 : List Int) (h1 : v.length ≤ 1000000000) (h2 : l.length ≤ 1000000000) : ∃ B, r08_SameCouncil.f (v.length + l.length + 1) v l v2 l2 = some B := by
  obtain ⟨B1, e1⟩ := ints_f_any v v2 h1 (v.length + l.length + 1) (by omega)
  obtain ⟨B2, e2⟩ := ints_f_any l l2 h2 (v.length + l.length + 1) (by omega)
  unfold r08_SameCouncil.f
  rw [e1]
  simp only [Option.bind_some]
  split
  · rw [e2]; exact ⟨_, rfl⟩
  · exact ⟨_, rfl⟩
theorem snap_f_any (a b : Int) (v l : List Int) (d : ByteArray) (a2 b2 : Int) (v2 l2 : List Int) (d2 : ByteArray) (h1 : v.length ≤ 1000000000) (h2 : l.length ≤ 1000000000) : ∃ B, r08_SameSnap.f (v.length + l.length + 1) a b v l d a2 b2 v2 l2 d2 = some B := by
  obtain ⟨B1, e1⟩ := council_f_any v l v2 l2 h1 h2
  unfold r08_SameSnap.f
  rw [e1]
  split
  · split
    · split
      · exact ⟨_, rfl⟩
      · exact ⟨_, rfl⟩
    · exact ⟨_, rfl⟩
  · exact ⟨_, rfl⟩
end Go.Proofs.Ytpjachbmllklgaa.Rng
end
section
/- SameEntry of any two; bare. -/
namespace Go.Proofs.Ytpjachbmllklgaa.Rng
open Go.RowKit Go.Proofs.YtpjachbmllklgaaW.PrintWords Go.Proofs.Ytpjachbmllklgaa.Kinds Go.Proofs.Ytpjachbmllklgaa.PCou
set_option linter.unusedVariables false
set_option linter.unusedSimpArgs false
attribute [local go_sem] Oper.semAt_some

theorem C_nil (W : World) : (Kd.int .i64).C W none ([] : List Int).length [] := ⟨rfl, by decide, fun g => absurd g (by decide)⟩

set_option maxHeartbeats 1000000 in
set_option maxRecDepth 100000 in
theorem sameEntry_any (x y : Ent) (cs1 cs2 : List Value) (w : World) (h1 : kEnt.K w x cs1) (h2 : kEnt.K w y cs2) (hv : x.2.2.2.2.1.length ≤ 1000000000) (hl : x.2.2.2.2.2.length ≤ 1000000000) :
    Calls Try.prog 37 #[.agg cs1.toArray, .agg cs2.toArray] w fun e w' => ∃ B, e = .returned (.bool B) ∧ Below w.heap.size w w' := by
  have e20 : ∀ args w, (callFunc 20 args).run Try.prog w = .ok (.enter 20 args) w := enters_of Try.func20 (by kernel_rfl) rfl
  obtain ⟨hd, A1, c1, B1, d1, rfl, ha1, hA1, hb1, hB1⟩ := ent_parts h1
  obtain ⟨hd2, A2, c2, B2, d2, rfl, ha2, hA2, hb2, hB2⟩ := ent_parts h2
  clear h1 h2
  obtain ⟨BC, hBC⟩ := council_f_any x.2.2.2.2.1 x.2.2.2.2.2 y.2.2.2.2.1 y.2.2.2.2.2 hv hl
  have HS : Aside0 (∀ W, Below w.heap.size w W → Calls Try.prog 20 #[.agg #[.slice A1 x.2.2.2.2.1.length c1, .slice B1 x.2.2.2.2.2.length d1], .agg #[.slice A2 y.2.2.2.2.1.length c2, .slice B2 y.2.2.2.2.2.length d2]] W fun e w' => e = .returned (.bool BC) ∧ Below W.heap.size W w') :=
    ⟨fun W hW => r08_SameCouncil.calls _ A1 c1 _ B1 d1 _ A2 c2 _ B2 d2 _ BC W (Kd.C_below hA1 hW) ha1 (Kd.C_below hB1 hW) hb1 (Kd.C_below hA2 hW) ha2 (Kd.C_below hB2 hW) hb2 hBC⟩
  have hlh := entHd_length x hd
  have hlh2 := entHd_length y hd2
  obtain ⟨BQ, heq'⟩ := eq_cmd_any x.2.2.2.1 y.2.2.2.1 hd hd2
  have hi57 : (Try.prog.info? 57).map (·.size) = some (cmdCells x.2.2.2.1).length := by rw [cmd_len _ hd]; exact size57
  have hi57' : (Try.prog.info? 57).map (·.size) = some (cmdCells y.2.2.2.1).length := by rw [cmd_len _ hd2]; exact size57
  clear hA1 hA2 hB1 hB2 ha1 ha2 hb1 hb2 hv hl hBC
  obtain ⟨E1, hE1⟩ : ∃ E1, entHd x ++ [Value.slice A1 x.2.2.2.2.1.length c1, .slice B1 x.2.2.2.2.2.length d1] = E1 := ⟨_, rfl⟩
  obtain ⟨E2, hE2⟩ : ∃ E2, entHd y ++ [Value.slice A2 y.2.2.2.2.1.length c2, .slice B2 y.2.2.2.2.2.length d2] = E2 := ⟨_, rfl⟩
  have k1 := blk_alloc (blk_new w (.cells E1.toArray 59)) (.cells E2.toArray 59)
  have k2 := blk_new (w.alloc (.cells E1.toArray 59)) (.cells E2.toArray 59)
  rw [World.size_alloc] at k2
  have q0 : Below w.heap.size w ((w.alloc (.cells E1.toArray 59)).alloc (.cells E2.toArray 59)) := ((Below.refl _ w).alloc (Nat.le_refl _) _).alloc (by simp) _
  obtain ⟨-, -, -, r1, -, -⟩ := ent_box (x := x) hd (by rw [hE1]; exact k1)
  obtain ⟨-, -, -, r2, -, -⟩ := ent_box (x := y) hd2 (by rw [hE2]; exact k2)
  have a0 : E1[0]? = some (.int .i64 x.1) := by rw [← hE1]; rfl
  have a1 : E1[1]? = some (.int .i64 x.2.1) := by rw [← hE1]; rfl
  have a2 : E1[2]? = some (.int .i64 x.2.2.1) := by rw [← hE1]; rfl
  have a41 : E1[41]? = some (.slice A1 x.2.2.2.2.1.length c1) := by rw [← hE1]; simp [List.getElem?_append, hlh]
  have a42 : E1[42]? = some (.slice B1 x.2.2.2.2.2.length d1) := by rw [← hE1]; simp [List.getElem?_append, hlh]
  have b0 : E2[0]? = some (.int .i64 y.1) := by rw [← hE2]; rfl
  have b1 : E2[1]? = some (.int .i64 y.2.1) := by rw [← hE2]; rfl
  have b2 : E2[2]? = some (.int .i64 y.2.2.1) := by rw [← hE2]; rfl
  have b41 : E2[41]? = some (.slice A2 y.2.2.2.2.1.length c2) := by rw [← hE2]; simp [List.getElem?_append, hlh2]
  have b42 : E2[42]? = some (.slice B2 y.2.2.2.2.2.length d2) := by rw [← hE2]; simp [List.getElem?_append, hlh2]
  rw [hE1, hE2]
  clear hE1 hE2 k1 k2 hlh hd hlh2 hd2
  generalize cmdCells x.2.2.2.1 = cc at *
  generalize cmdCells y.2.2.2.1 = cd at *
  generalize x.2.2.2.2.1.length = n1 at *
  generalize x.2.2.2.2.2.length = n2 at *
  generalize y.2.2.2.2.1.length = m1 at *
  generalize y.2.2.2.2.2.length = m2 at *
  by_cases g0 : x.1 = y.1
  · by_cases g1 : x.2.1 = y.2.1
    · by_cases g2 : x.2.2.1 = y.2.2.1
      · rw [g0] at a0
        rw [g1] at a1
        rw [g2] at a2
        clear g0 g1 g2
        cases BQ with
        | true =>
          go_enter Try.func37, Try.ntmps37
          go_wp2_with (first | (refine wpList_load_mid_if (by rfl) 57 (.tmp 25) rfl w.heap.size 3 rfl cc _ r1 Try.underlying57 rfl hi57 ?_) | (refine wpList_load_mid_if (by rfl) 57 (.tmp 27) rfl (w.heap.size + 1) 3 rfl cd _ r2 Try.underlying57 rfl hi57' ?_))
          refine (HS.out _ q0).mono ?_
          rintro e w2 ⟨rfl, hb⟩
          go_wp2
          go_ret
          exact ⟨_, rfl, q0.trans (hb.mono q0.size)⟩
        | false =>
          go_enter Try.func37, Try.ntmps37
          go_wp2_with (first | (refine wpList_load_mid_if (by rfl) 57 (.tmp 25) rfl w.heap.size 3 rfl cc _ r1 Try.underlying57 rfl hi57 ?_) | (refine wpList_load_mid_if (by rfl) 57 (.tmp 27) rfl (w.heap.size + 1) 3 rfl cd _ r2 Try.underlying57 rfl hi57' ?_))
          all_goals (go_ret; exact ⟨_, rfl, q0⟩)
      · have g2' : (x.2.2.1 == y.2.2.1) = false := by simpa using g2
        rw [g0] at a0
        rw [g1] at a1
        clear g0 g1
        go_enter Try.func37, Try.ntmps37
        go_wp2_with fail
        all_goals (go_ret; exact ⟨_, rfl, q0⟩)
    · have g1' : (x.2.1 == y.2.1) = false := by simpa using g1
      rw [g0] at a0
      clear g0
      go_enter Try.func37, Try.ntmps37
      go_wp2_with fail
      all_goals (go_ret; exact ⟨_, rfl, q0⟩)
  · have g0' : (x.1 == y.1) = false := by simpa using g0
    go_enter Try.func37, Try.ntmps37
    go_wp2_with fail
    all_goals (go_ret; exact ⟨_, rfl, q0⟩)

set_option maxHeartbeats 1000000 in
set_option maxRecDepth 100000 in
theorem bare_c (a b : Int) (A : Option Addr) (vc : Nat) (v : List Int) (B : Option Addr) (lc : Nat) (l : List Int) (d : ByteArray) (w : World) (hA : (Kd.int .i64).C w A v.length v) (hvc : v.length ≤ vc) (hB : (Kd.int .i64).C w B l.length l) (hlc : l.length ≤ lc) (h1 : v.length ≤ 1000000000) (h2 : l.length ≤ 1000000000) :
    Calls Try.prog 55 #[.agg #[.int .i64 a, .int .i64 b, .slice A v.length vc, .slice B l.length lc, .string d]] w fun e w' => ∃ Q, e = .returned (.bool Q) ∧ Below w.heap.size w w' := by
  have e49 : ∀ args w, (callFunc 49 args).run Try.prog w = .ok (.enter 49 args) w := enters_of Try.func49 (by kernel_rfl) rfl
  obtain ⟨Q, hQ⟩ := snap_f_any a b v l d 0 0 [] [] ⟨#[]⟩ h1 h2
  have HS : Aside0 (∀ W, Below w.heap.size w W → Calls Try.prog 49 #[.agg #[.int .i64 a, .int .i64 b, .slice A v.length vc, .slice B l.length lc, .string d], .agg #[.int .i64 0, .int .i64 0, .slice none 0 0, .slice none 0 0, .string ⟨#[]⟩]] W fun e w' => e = .returned (.bool Q) ∧ Below W.heap.size W w') :=
    ⟨fun W hW => r08_SameSnap.calls _ a b A vc v B lc l d 0 0 none 0 [] none 0 [] ⟨#[]⟩ Q W (Kd.C_below hA hW) hvc (Kd.C_below hB hW) hlc (C_nil W) (Nat.le_refl _) (C_nil W) (Nat.le_refl _) hQ⟩
  generalize v.length = vn at *
  generalize l.length = ln at *
  clear hA hB hQ
  have q0 : Below w.heap.size w (w.alloc (.cells #[.int .i64 a, .int .i64 b, .slice A vn vc, .slice B ln lc, .string d] 26)) := (Below.refl _ w).alloc (Nat.le_refl _) _
  go_enter Try.func55, Try.ntmps55
  go_wp2_with fail
  refine (HS.out _ q0).mono ?_
  rintro e w2 ⟨rfl, hb⟩
  go_wp2_with fail
  go_ret
  exact ⟨_, rfl, q0.trans (hb.mono q0.size)⟩
end Go.Proofs.Ytpjachbmllklgaa.Rng
end
section
/- The reference's May: it answers. -/
namespace Go.Proofs.Ytpjachbmllklgaa.Rng
open Go.RowKit Go.Proofs.YtpjachbmllklgaaW.PrintWords Go.Proofs.Ytpjachbmllklgaa.Kinds Go.Proofs.Ytpjachbmllklgaa.PCou
set_option linter.unusedVariables false
set_option linter.unusedSimpArgs false
attribute [local go_sem] Oper.semAt_some

def zSgn : Sgn := ((0, List.replicate 32 0, List.replicate 32 0), List.replicate 32 0)
theorem built59 (f : Nat × Operand → Nat × Value) : (Try.prog.built 59 ((#[] : Array (Nat × Operand)).map f).toList).getD #[] = (ent 0 0).toArray := by
  rw [show (#[] : Array (Nat × Operand)).map f = #[] by simp]
  kernel_rfl
theorem built69 (f : Nat × Operand → Nat × Value) : (Try.prog.built 69 ((#[] : Array (Nat × Operand)).map f).toList).getD #[] = (sgnCells zSgn).toArray := by
  rw [show (#[] : Array (Nat × Operand)).map f = #[] by simp]
  kernel_rfl
theorem some59 (f : Nat × Operand → Nat × Value) : (Try.prog.built 59 ((#[] : Array (Nat × Operand)).map f).toList).isSome = true := by
  rw [show (#[] : Array (Nat × Operand)).map f = #[] by simp]
  kernel_rfl
theorem some69 (f : Nat × Operand → Nat × Value) : (Try.prog.built 69 ((#[] : Array (Nat × Operand)).map f).toList).isSome = true := by
  rw [show (#[] : Array (Nat × Operand)).map f = #[] by simp]
  kernel_rfl
theorem size26 : (Try.prog.info? 26).map (·.size) = some 5 := by kernel_rfl
theorem rec_snap (k t v : Int) (ecs : List Value) (i si st : Int) (V L : Value) (d : ByteArray) (sg : List Value) (h : ecs.length = 43) : ((recCells k t v ecs i si st V L d sg).drop 47).take 5 = [.int .i64 si, .int .i64 st, V, L, .string d] := by
  unfold recCells
  rw [List.drop_append, List.drop_of_length_le (by show 3 ≤ 47; decide), List.nil_append]
  rw [show 47 - ([Value.int .i64 k, .int .i64 t, .int .i64 v] : List Value).length = 44 from rfl]
  rw [List.drop_append, List.drop_of_length_le (by omega), List.nil_append, h]
  rfl

theorem rec_K2 {w : World} {r : Rec} {rs : List Value} (h : kRec.K w r rs) : ∃ (ecs : List Value) (Va : Option Addr) (vc : Nat) (La : Option Addr) (lc : Nat),
    rs = recCells r.1 r.2.1 r.2.2.1 ecs r.2.2.2.2.1 r.2.2.2.2.2.1.1 r.2.2.2.2.2.1.2.1 (.slice Va r.2.2.2.2.2.1.2.2.1.1.length vc) (.slice La r.2.2.2.2.2.1.2.2.1.2.length lc) r.2.2.2.2.2.1.2.2.2 (sgnCells r.2.2.2.2.2.2) ∧
    kEnt.K w r.2.2.2.1 ecs ∧ r.2.2.2.2.2.1.2.2.1.1.length ≤ vc ∧ r.2.2.2.2.2.1.2.2.1.2.length ≤ lc ∧
    (Kd.int .i64).C w Va r.2.2.2.2.2.1.2.2.1.1.length r.2.2.2.2.2.1.2.2.1.1 ∧ (Kd.int .i64).C w La r.2.2.2.2.2.1.2.2.1.2.length r.2.2.2.2.2.1.2.2.1.2 ∧
    r.2.2.2.2.2.2.1.2.1.length = 32 ∧ r.2.2.2.2.2.2.1.2.2.length = 32 ∧ r.2.2.2.2.2.2.2.length = 32 := by
  obtain ⟨_, _, rfl, rfl, _, _, rfl, rfl, _, _, rfl, rfl, ecs, _, rfl, hE, _, _, rfl, rfl, _, sg, rfl, hS, hG⟩ := h
  obtain ⟨_, _, rfl, rfl, _, _, rfl, rfl, _, _, rfl, ⟨_, _, rfl, ⟨Va, vc, rfl, h1, h2⟩, ⟨La, lc, rfl, h3, h4⟩⟩, rfl⟩ := hS
  obtain ⟨g1, g2, g3, rfl⟩ := sgn_K hG
  exact ⟨ecs, Va, vc, La, lc, by simp [recCells], hE, h1, h3, h2, h4, g1, g2, g3⟩

set_option maxHeartbeats 1000000 in
set_option maxRecDepth 100000 in
theorem may_c (r : Rec) (rs : List Value) (w : World) (h : kRec.K w r rs) (hl : r.2.2.2.1.2.2.2.2.1.length ≤ 1000000000 ∧ r.2.2.2.1.2.2.2.2.2.length ≤ 1000000000 ∧ r.2.2.2.2.2.1.2.2.1.1.length ≤ 1000000000 ∧ r.2.2.2.2.2.1.2.2.1.2.length ≤ 1000000000) :
    Calls Try.prog 35 #[.agg rs.toArray] w fun e w' => ∃ B, e = .returned (.bool B) ∧ Below w.heap.size w w' := by
  have e57 : ∀ args w, (callFunc 57 args).run Try.prog w = .ok (.enter 57 args) w := enters_of Try.func57 (by kernel_rfl) rfl
  have e37 : ∀ args w, (callFunc 37 args).run Try.prog w = .ok (.enter 37 args) w := enters_of Try.func37 (by kernel_rfl) rfl
  have e55 : ∀ args w, (callFunc 55 args).run Try.prog w = .ok (.enter 55 args) w := enters_of Try.func55 (by kernel_rfl) rfl
  have hlen : rs.length = 149 := kRec.K_len h
  have hi71 : (Try.prog.info? 71).map (·.size) = some rs.toArray.size := by rw [List.size_toArray, hlen]; exact size71
  have q1 : Below w.heap.size w (w.alloc (.cells rs.toArray 71)) := (Below.refl _ w).alloc (Nat.le_refl _) _
  have k1 := blk_new w (.cells rs.toArray 71)
  have hs1 : (w.alloc (.cells rs.toArray 71)).heap.size = w.heap.size + 1 := by simp
  obtain ⟨ecs, Va, vc, La, lc, hrs, hE, hvc, hlc, cV, cL, g1, g2, g3⟩ := rec_K2 h
  have hel : ecs.length = 43 := kEnt.K_len hE
  obtain ⟨l1, l2, l3, l4⟩ := hl
  obtain ⟨BS, hBS⟩ := eq_sgn_any r.2.2.2.2.2.2 zSgn g1 g2 g3 (by decide) (by decide) (by decide)
  have C57 := Aside0.mk (putrec_c r rs _ (kRec.K_below q1 h))
  have C37 : Aside0 (∀ W, Below w.heap.size w W → Calls Try.prog 37 #[.agg ecs.toArray, .agg (ent 0 0).toArray] W fun e w' => ∃ B, e = .returned (.bool B) ∧ Below W.heap.size W w') :=
    ⟨fun W hW => sameEntry_any r.2.2.2.1 (entX 0 0) ecs (ent 0 0) W (kEnt.K_below hW hE) (kEnt.K_of_M (ent_M W 0 (fun _ => True) 0 0)) l1 l2⟩
  have C55 : Aside0 (∀ W, Below w.heap.size w W → Calls Try.prog 55 #[.agg #[.int .i64 r.2.2.2.2.2.1.1, .int .i64 r.2.2.2.2.2.1.2.1, .slice Va r.2.2.2.2.2.1.2.2.1.1.length vc, .slice La r.2.2.2.2.2.1.2.2.1.2.length lc, .string r.2.2.2.2.2.1.2.2.2]] W fun e w' => ∃ Q, e = .returned (.bool Q) ∧ Below W.heap.size W w') :=
    ⟨fun W hW => bare_c _ _ Va vc _ La lc _ _ W (Kd.C_below cV hW) hvc (Kd.C_below cL hW) hlc l3 l4⟩
  have hsg := sgnCells_length r.2.2.2.2.2.2 g1 g2 g3
  have T0 : ∀ W : World, W.heap[w.heap.size]? = some (.cells rs.toArray 71 (0, 0)) → W.cell? ⟨w.heap.size, 0, none⟩ = some (.int .i64 r.1) := fun W k => cell_hp k (by rw [hrs]; rfl)
  have T1 : ∀ W : World, W.heap[w.heap.size]? = some (.cells rs.toArray 71 (0, 0)) → W.cell? ⟨w.heap.size, 1, none⟩ = some (.int .i64 r.2.1) := fun W k => cell_hp k (by rw [hrs]; rfl)
  have T2 : ∀ W : World, W.heap[w.heap.size]? = some (.cells rs.toArray 71 (0, 0)) → W.cell? ⟨w.heap.size, 2, none⟩ = some (.int .i64 r.2.2.1) := fun W k => cell_hp k (by rw [hrs]; rfl)
  have T46 : ∀ W : World, W.heap[w.heap.size]? = some (.cells rs.toArray 71 (0, 0)) → W.cell? ⟨w.heap.size, 46, none⟩ = some (.int .i64 r.2.2.2.2.1) := fun W k => cell_hp k (by
    rw [hrs]
    have := rec_mid r.1 r.2.1 r.2.2.1 ecs r.2.2.2.2.1 r.2.2.2.2.2.1.1 r.2.2.2.2.2.1.2.1 (.slice Va r.2.2.2.2.2.1.2.2.1.1.length vc) (.slice La r.2.2.2.2.2.1.2.2.1.2.length lc) r.2.2.2.2.2.1.2.2.2 (sgnCells r.2.2.2.2.2.2) hel 0
    simpa using this)
  have T3 : ∀ W : World, W.heap[w.heap.size]? = some (.cells rs.toArray 71 (0, 0)) → W.rangeAt w.heap.size 3 ecs := fun W k => range_sub k 3 ecs (by rw [hrs]; exact rec_ent ..)
  have T47 : ∀ W : World, W.heap[w.heap.size]? = some (.cells rs.toArray 71 (0, 0)) → W.rangeAt w.heap.size 47 [.int .i64 r.2.2.2.2.2.1.1, .int .i64 r.2.2.2.2.2.1.2.1, .slice Va r.2.2.2.2.2.1.2.2.1.1.length vc, .slice La r.2.2.2.2.2.1.2.2.1.2.length lc, .string r.2.2.2.2.2.1.2.2.2] := fun W k => range_sub k 47 _ (by rw [hrs]; exact rec_snap _ _ _ _ _ _ _ _ _ _ _ hel)
  have T52 : ∀ W : World, W.heap[w.heap.size]? = some (.cells rs.toArray 71 (0, 0)) → W.rangeAt w.heap.size 52 (sgnCells r.2.2.2.2.2.2) := fun W k => range_sub k 52 _ (by rw [hrs]; exact rec_sgn _ _ _ _ _ _ _ _ _ _ _ hel)
  have hi59 : (Try.prog.info? 59).map (·.size) = some ecs.length := by rw [hel]; exact size59
  have hi69 : (Try.prog.info? 69).map (·.size) = some (sgnCells r.2.2.2.2.2.2).length := by rw [hsg]; exact size69
  have hi26 : (Try.prog.info? 26).map (·.size) = some [Value.int .i64 r.2.2.2.2.2.1.1, .int .i64 r.2.2.2.2.2.1.2.1, .slice Va r.2.2.2.2.2.1.2.2.1.1.length vc, .slice La r.2.2.2.2.2.1.2.2.1.2.length lc, .string r.2.2.2.2.2.1.2.2.2].length := size26
  have TT := Aside0.mk (And.intro T0 (And.intro T1 (And.intro T2 (And.intro T46 (And.intro T3 (And.intro T47 T52))))))
  have HBS := Aside0.mk hBS
  clear h hrs hE hvc hlc cV cL g1 g2 g3 l1 l2 l3 l4 hsg hel T0 T1 T2 T46 T3 T47 T52 hBS
  generalize sgnCells r.2.2.2.2.2.2 = sgc at *
  generalize r.2.2.2.2.2.1.2.2.1.1.length = vn at *
  generalize r.2.2.2.2.2.1.2.2.1.2.length = ln at *
  go_enter Try.func35, Try.ntmps35
  go_wp2_with (refine wpList_load_row rfl 71 (.tmp 1) rfl w.heap.size rfl 71 _ (0, 0) _ k1 Try.underlying71 rfl hi71 ?_)
  refine C57.out.mono ?_
  rintro e w2 ⟨v, er, rfl, hb2⟩
  have k2 := (hb2.block w.heap.size (by omega)).trans k1
  have q2 : Below w.heap.size w w2 := q1.trans (hb2.mono q1.size)
  have hs2 : w.heap.size < w2.heap.size := by have := hb2.size; omega
  clear hb2 k1 q1 hs1 C57
  have c1 := TT.out.2.1 w2 k2
  have c2 := TT.out.2.2.1 w2 k2
  have c3 := TT.out.2.2.2.2.1 w2 k2
  go_upto_region 2 with (fail)
  go_cut [5] (fun s5 wx => (∃ B5, s5 = .bool B5) ∧ wx = w2)
  case first =>
    by_cases t1 : r.2.1 = 0
    · rw [t1] at c1
      by_cases t2 : r.2.2.1 = 0
      · rw [t2] at c2
        go_wp2_with fail
        go_meet
        exact ⟨⟨_, rfl⟩, rfl⟩
      · have t2' : (r.2.2.1 == 0) = false := by simpa using t2
        go_wp2_with fail
        go_meet
        exact ⟨⟨_, rfl⟩, rfl⟩
    · have t1' : (r.2.1 == 0) = false := by simpa using t1
      go_wp2_with fail
      go_meet
      exact ⟨⟨_, rfl⟩, rfl⟩
  case rest =>
    obtain ⟨⟨B5, rfl⟩, rfl⟩ := hcut
    clear c1 c2
    go_wp2_with (first | (refine wpList_load_mid rfl 59 (.tmp 23) rfl w.heap.size 3 rfl ecs _ c3 Try.underlying59 rfl hi59 ?_) | (refine wpList_build rfl 59 #[] rfl (some59 _) ?_; rw [built59]))
    refine (C37.out wc q2).mono ?_
    rintro e w3 ⟨B6, rfl, hb3⟩
    have k3 := (hb3.block w.heap.size hs2).trans k2
    have q3 : Below w.heap.size w w3 := q2.trans (hb3.mono q2.size)
    have hs3 : w.heap.size < w3.heap.size := by have := hb3.size; omega
    clear hb3 k2 q2 hs2 c3 C37
    have c46 := TT.out.2.2.2.1 w3 k3
    have c47 := TT.out.2.2.2.2.2.1 w3 k3
    go_wp2_with (refine wpList_load_mid rfl 26 (.tmp 30) rfl w.heap.size 47 rfl _ _ c47 Try.underlying26 rfl hi26 ?_)
    refine (C55.out w3 q3).mono ?_
    rintro e w4 ⟨B8, rfl, hb4⟩
    have k4 := (hb4.block w.heap.size hs3).trans k3
    have q4 : Below w.heap.size w w4 := q3.trans (hb4.mono q3.size)
    clear hb4 k3 q3 hs3 c46 c47 C55
    have c52 := TT.out.2.2.2.2.2.2 w4 k4
    have c0 := TT.out.1 w4 k4
    have hq := HBS.out
    go_upto_region 7 with (first | (refine wpList_load_mid rfl 69 (.tmp 33) rfl w.heap.size 52 rfl sgc _ c52 Try.underlying69 rfl hi69 ?_) | (refine wpList_build rfl 69 #[] rfl (some69 _) ?_; rw [built69]))
    generalize (r.2.2.2.2.1 == (0 : Int)) = B7 at *
    clear hq c52 TT HBS
    generalize sgnCells zSgn = zz at *
    generalize r.1 = rk at *
    by_cases hk1 : rk = 1
    · subst hk1
      by_cases he : er = 0
      · subst he
        cases B6 with
        | false =>
          go_wp2_with fail
          go_ret
          exact ⟨_, rfl, q4⟩
        | true =>
          cases B7 with
          | false =>
            go_wp2_with fail
            go_ret
            exact ⟨_, rfl, q4⟩
          | true =>
            cases B8 with
            | false =>
              go_wp2_with fail
              go_ret
              exact ⟨_, rfl, q4⟩
            | true =>
              cases BS with
              | false =>
                go_wp2_with fail
                go_ret
                exact ⟨_, rfl, q4⟩
              | true =>
                go_wp2_with fail
                go_ret
                exact ⟨_, rfl, q4⟩
      · have he' : (er == 0) = false := by simpa using he
        go_wp2_with fail
        go_ret
        exact ⟨_, rfl, q4⟩
    have hk1' : (rk == 1) = false := by simpa using hk1
    by_cases hk2 : rk = 2
    · subst hk2
      by_cases he : er = 0
      · subst he
        cases B5 with
        | false =>
          go_wp2_with fail
          go_ret
          exact ⟨_, rfl, q4⟩
        | true =>
          cases B7 with
          | false =>
            go_wp2_with fail
            go_ret
            exact ⟨_, rfl, q4⟩
          | true =>
            cases B8 with
            | false =>
              go_wp2_with fail
              go_ret
              exact ⟨_, rfl, q4⟩
            | true =>
              cases BS with
              | false =>
                go_wp2_with fail
                go_ret
                exact ⟨_, rfl, q4⟩
              | true =>
                go_wp2_with fail
                go_ret
                exact ⟨_, rfl, q4⟩
      · have he' : (er == 0) = false := by simpa using he
        go_wp2_with fail
        go_ret
        exact ⟨_, rfl, q4⟩
    have hk2' : (rk == 2) = false := by simpa using hk2
    by_cases hk3 : rk = 3
    · subst hk3
      by_cases he : er = 0
      · subst he
        cases B5 with
        | false =>
          go_wp2_with fail
          go_ret
          exact ⟨_, rfl, q4⟩
        | true =>
          cases B6 with
          | false =>
            go_wp2_with fail
            go_ret
            exact ⟨_, rfl, q4⟩
          | true =>
            cases B8 with
            | false =>
              go_wp2_with fail
              go_ret
              exact ⟨_, rfl, q4⟩
            | true =>
              cases BS with
              | false =>
                go_wp2_with fail
                go_ret
                exact ⟨_, rfl, q4⟩
              | true =>
                go_wp2_with fail
                go_ret
                exact ⟨_, rfl, q4⟩
      · have he' : (er == 0) = false := by simpa using he
        go_wp2_with fail
        go_ret
        exact ⟨_, rfl, q4⟩
    have hk3' : (rk == 3) = false := by simpa using hk3
    by_cases hk4 : rk = 4
    · subst hk4
      by_cases he : er = 0
      · subst he
        cases B5 with
        | false =>
          go_wp2_with fail
          go_ret
          exact ⟨_, rfl, q4⟩
        | true =>
          cases B6 with
          | false =>
            go_wp2_with fail
            go_ret
            exact ⟨_, rfl, q4⟩
          | true =>
            cases B7 with
            | false =>
              go_wp2_with fail
              go_ret
              exact ⟨_, rfl, q4⟩
            | true =>
              cases BS with
              | false =>
                go_wp2_with fail
                go_ret
                exact ⟨_, rfl, q4⟩
              | true =>
                go_wp2_with fail
                go_ret
                exact ⟨_, rfl, q4⟩
      · have he' : (er == 0) = false := by simpa using he
        go_wp2_with fail
        go_ret
        exact ⟨_, rfl, q4⟩
    have hk4' : (rk == 4) = false := by simpa using hk4
    by_cases hk5 : rk = 5
    · subst hk5
      by_cases he : er = 0
      · subst he
        cases B5 with
        | false =>
          go_wp2_with fail
          go_ret
          exact ⟨_, rfl, q4⟩
        | true =>
          cases B6 with
          | false =>
            go_wp2_with fail
            go_ret
            exact ⟨_, rfl, q4⟩
          | true =>
            cases B7 with
            | false =>
              go_wp2_with fail
              go_ret
              exact ⟨_, rfl, q4⟩
            | true =>
              cases B8 with
              | false =>
                go_wp2_with fail
                go_ret
                exact ⟨_, rfl, q4⟩
              | true =>
                go_wp2_with fail
                go_ret
                exact ⟨_, rfl, q4⟩
      · have he' : (er == 0) = false := by simpa using he
        go_wp2_with fail
        go_ret
        exact ⟨_, rfl, q4⟩
    have hk5' : (rk == 5) = false := by simpa using hk5
    go_wp2_with fail
    go_ret
    exact ⟨_, rfl, q4⟩
end Go.Proofs.Ytpjachbmllklgaa.Rng
end
section
/- Records: built. -/
namespace Go.Proofs.Ytpjachbmllklgaa.Rng
open Go.RowKit Go.Proofs.YtpjachbmllklgaaW.PrintWords Go.Proofs.Ytpjachbmllklgaa.Kinds Go.Proofs.Ytpjachbmllklgaa.PCou
set_option linter.unusedVariables false
set_option linter.unusedSimpArgs false

/-- A struct is built, of these parts. -/
theorem wpList_build2 {P : Program} {ops : Array Oper} {rest : List Oper} {o : Oper} {a : Act} {w : World} {Q : Exit → Act → World → Prop} (hg : o.guard = none) (t : TypeId) (parts : Array (Nat × Operand)) (ho : o.op = .build t parts)
    (ps : List (Nat × Value)) (hps : (parts.map fun (i, x) => (i, a.eval x)).toList = ps) (cs : Array Value) (hb : P.built t ps = some cs)
    (h : wpList P ops Q rest (a.put o.dst (.agg cs)) w) : wpList P ops Q (o :: rest) a w := by
  refine wpList_build hg t parts ho (by rw [hps, hb]; rfl) ?_
  rw [hps, hb]
  exact h
theorem fold_at (off : Nat) : ∀ (vs : List Value) (k : Nat) (z : Array Value), off + k + vs.length ≤ z.size →
    ((vs.zipIdx k).foldl (fun (cs : Array Value) (x : Value × Nat) => cs.setIfInBounds (off + x.2) x.1) z).toList = z.toList.take (off + k) ++ vs ++ z.toList.drop (off + k + vs.length)
  | [], k, z, h => by simp
  | v :: vs, k, z, h => by
    simp only [List.length_cons] at h
    rw [List.zipIdx_cons, List.foldl_cons, fold_at off vs (k + 1) _ (by simp; omega)]
    have hk : off + k < z.toList.length := by simp; omega
    rw [Array.toList_setIfInBounds, show off + (k + 1) = off + k + 1 by omega, List.take_add_one, List.take_set_of_le (Nat.le_refl _), List.drop_set_of_lt (by omega)]
    simp [List.getElem?_set, hk, show off + k < z.size by omega]
    congr 1
    omega
theorem fill_one (place : Nat → Option (Nat × Nat)) (z : Array Value) (i off size : Nat) (v : Value) (rest : List (Nat × Value)) (hp : place i = some (off, size)) (hs : v.cells.size = size) (hz : off + size ≤ z.size) :
    Instr.fill place z ((i, v) :: rest) = Instr.fill place (z.toList.take off ++ v.cells.toList ++ z.toList.drop (off + size)).toArray rest := by
  rw [Instr.fill, hp]
  simp only
  rw [if_neg (by simp [hs]; omega)]
  congr 1
  apply Array.toList_inj.1
  have := fold_at off v.cells.toList 0 z (by simp [hs]; omega)
  simp only [Nat.add_zero, Array.length_toList, hs] at this
  simp only [List.toList_toArray]
  rw [← this, ← Array.foldl_toList]
  simp
/-- The zero record's cells. -/
def zRec : List Value := recCells 0 0 0 (ent 0 0) 0 0 0 (.slice none 0 0) (.slice none 0 0) ⟨#[]⟩ (sgnCells zSgn)
def recAt : Nat → Option (Nat × Nat) := fun i => (#[(0, 1), (1, 1), (2, 1), (3, 43), (46, 1), (47, 5), (52, 97)] : Array (Nat × Nat))[i]?
theorem built_eq {P : Program} {t : TypeId} {fields : Array Field} {z : Value} {places : List (Nat × Nat)} (hz : (P.info? t).map (·.zero) = some (some z)) (hu : P.underlying t = some (.struct fields)) (hp : fields.toList.mapM (fun f => (P.info? f.type).map fun i => (f.offset, i.size)) = some places) (ps : List (Nat × Value)) :
    P.built t ps = Instr.fill (places.toArray[·]?) z.cells ps := by
  obtain ⟨it, hi, hz⟩ := Option.map_eq_some_iff.1 hz
  unfold Program.built
  rw [hi, hu]
  simp only [hz, hp]
set_option maxRecDepth 1000000 in
theorem zero71 : (Try.prog.info? 71).map (·.zero) = some (some (.agg zRec.toArray)) := by kernel_rfl
set_option maxRecDepth 1000000 in
theorem places71 : (match Try.prog.underlying 71 with | some (.struct fields) => fields.toList.mapM (fun f => (Try.prog.info? f.type).map fun i => (f.offset, i.size)) | _ => none) = some [(0, 1), (1, 1), (2, 1), (3, 43), (46, 1), (47, 5), (52, 97)] := by kernel_rfl
set_option maxRecDepth 1000000 in
theorem built71 (ps : List (Nat × Value)) : Try.prog.built 71 ps = Instr.fill recAt zRec.toArray ps := by
  have h := places71
  rw [Try.underlying71] at h
  rw [built_eq zero71 Try.underlying71 h]
  rfl
set_option maxRecDepth 1000000 in
theorem zRec_len : zRec.length = 149 := by decide
set_option maxRecDepth 1000000 in
/-- A term and a vote; a snapshot; an entry; a signed head; a cut. -/
theorem built_term (t v : Int) : Try.prog.built 71 [(0, .int .i64 1), (1, .int .i64 t), (2, .int .i64 v)] = some (recCells 1 t v (ent 0 0) 0 0 0 (.slice none 0 0) (.slice none 0 0) ⟨#[]⟩ (sgnCells zSgn)).toArray := by
  rw [built71]
  kernel_rfl
set_option maxRecDepth 1000000 in
theorem built_cut (i : Int) : Try.prog.built 71 [(0, .int .i64 3), (4, .int .i64 i)] = some (recCells 3 0 0 (ent 0 0) i 0 0 (.slice none 0 0) (.slice none 0 0) ⟨#[]⟩ (sgnCells zSgn)).toArray := by
  rw [built71]
  kernel_rfl
set_option maxRecDepth 1000000 in
theorem built_snap (si st : Int) (V L : Value) (d : ByteArray) : Try.prog.built 71 [(0, .int .i64 4), (5, .agg #[.int .i64 si, .int .i64 st, V, L, .string d])] = some (recCells 4 0 0 (ent 0 0) 0 si st V L d (sgnCells zSgn)).toArray := by
  rw [built71]
  kernel_rfl
set_option maxRecDepth 1000000 in
theorem built_ent (es : List Value) (h : es.length = 43) : Try.prog.built 71 [(0, .int .i64 2), (3, .agg es.toArray)] = some (recCells 2 0 0 es 0 0 0 (.slice none 0 0) (.slice none 0 0) ⟨#[]⟩ (sgnCells zSgn)).toArray := by
  rw [built71, fill_one recAt _ 0 0 1 (.int .i64 2) _ rfl rfl (by rw [List.size_toArray, zRec_len]; decide)]
  rw [fill_one recAt _ 3 3 43 (.agg es.toArray) [] rfl (by show es.toArray.size = 43; simpa using h) (by simp [zRec_len, Value.cells])]
  rw [Instr.fill]
  rfl
set_option maxRecDepth 1000000 in
theorem built_sgn (sg : List Value) (h : sg.length = 97) : Try.prog.built 71 [(0, .int .i64 5), (6, .agg sg.toArray)] = some (recCells 5 0 0 (ent 0 0) 0 0 0 (.slice none 0 0) (.slice none 0 0) ⟨#[]⟩ sg).toArray := by
  rw [built71, fill_one recAt _ 0 0 1 (.int .i64 5) _ rfl rfl (by rw [List.size_toArray, zRec_len]; decide)]
  rw [fill_one recAt _ 6 52 97 (.agg sg.toArray) [] rfl (by show sg.toArray.size = 97; simpa using h) (by simp [zRec_len, Value.cells])]
  rw [Instr.fill]
  congr 1
  congr 1
  show List.take 52 _ ++ sg ++ List.drop 149 _ = _
  have e1 : List.take 52 (List.take 0 zRec ++ [Value.int .i64 5] ++ List.drop 1 zRec) = [.int .i64 5, .int .i64 0, .int .i64 0] ++ (ent 0 0 ++ [.int .i64 0, .int .i64 0, .int .i64 0, .slice none 0 0, .slice none 0 0, .string ⟨#[]⟩]) := by rfl
  have e2 : List.drop 149 (List.take 0 zRec ++ [Value.int .i64 5] ++ List.drop 1 zRec) = [] := by rfl
  refine (congrArg (fun z => z ++ sg ++ List.drop 149 (List.take 0 zRec ++ [Value.int .i64 5] ++ List.drop 1 zRec)) e1).trans ?_
  rw [e2, List.append_nil]
  unfold recCells
  simp only [List.append_assoc]
/-- A made record. -/
theorem rec_M {W : World} {base : Nat} {ok : Nat → Prop} {k t v : Int} {x : Ent} {ecs : List Value} {i si st : Int} {V L : Value} {vs ls : List Int} {d : ByteArray} {g : Sgn} (hE : kEnt.M W base ok x ecs) (hV : (Kd.int .i64).R 3 W base ok V vs) (hL : (Kd.int .i64).R 3 W base ok L ls) (h1 : g.1.2.1.length = 32) (h2 : g.1.2.2.length = 32) (h3 : g.2.length = 32) :
    kRec.M W base ok (k, t, v, x, i, (si, st, (vs, ls), d), g) (recCells k t v ecs i si st V L d (sgnCells g)) := by
  refine ⟨[.int .i64 k], _, rfl, rfl, [.int .i64 t], _, rfl, rfl, [.int .i64 v], _, rfl, rfl, ecs, _, rfl, hE, [.int .i64 i], _, rfl, rfl, [.int .i64 si, .int .i64 st, V, L, .string d], sgnCells g, rfl, ?_, ?_⟩
  · exact ⟨[.int .i64 si], _, rfl, rfl, [.int .i64 st], _, rfl, rfl, [V, L], [.string d], rfl, ⟨[V], [L], rfl, ⟨V, rfl, hV⟩, ⟨L, rfl, hL⟩⟩, rfl⟩
  · refine ⟨headCells g.1, _, rfl, ⟨[.int .i64 g.1.1], _, rfl, rfl, g.1.2.1.map (Value.int .u8), g.1.2.2.map (Value.int .u8), rfl, ?_, ?_⟩, ?_⟩
    · exact Kd.arr_of_cells (n := 32) h1
    · exact Kd.arr_of_cells (n := 32) h2
    · exact Kd.arr_of_cells (n := 32) h3
end Go.Proofs.Ytpjachbmllklgaa.Rng
end
section
/- A slice of one struct is built. -/
namespace Go.Proofs.Ytpjachbmllklgaa.Rng
open Go.RowKit Go.Proofs.YtpjachbmllklgaaW.PrintWords
set_option linter.unusedVariables false

theorem wpList_buildOne {P : Program} {ops : Array Oper} {rest : List Oper} {o : Oper} {a : Act} {w : World} {Q : Exit → Act → World → Prop} (hg : o.guard = none) (t e : TypeId) (x : Operand) (ho : o.op = .buildSlice t 1 #[(0, x)])
    (cs : List Value) (hx : a.eval x = .agg cs.toArray) (hu : P.underlying t = some (.slice e)) (z : Value) (n by_ : Nat) (hinfo : (P.info? e).map (fun i => (i.zero, i.size, i.bytes)) = some (some z, n, by_)) (hl : cs.length = n) (hn0 : 0 < n) (hn : n ≤ 16777216)
    (h : wpList P ops Q rest (a.put o.dst (.slice (some ⟨w.heap.size, 0, none⟩) 1 1)) (w.alloc (.cells cs.toArray e))) : wpList P ops Q (o :: rest) a w := by
  obtain ⟨ie, hi, hz⟩ := Option.map_eq_some_iff.1 hinfo
  simp only [Prod.mk.injEq] at hz
  obtain ⟨hz0, hz1, _⟩ := hz
  refine wpList_buildSlice hg t e 1 #[(0, x)] ho cs.toArray ie z hu hi hz0 (by rw [hz1]; omega) (by rw [hz1]; omega) ?_ h
  have hZ : ((Array.range (1 * ie.size)).map (z.cells[· % z.cells.size]!)).size = n := by simp [hz1]
  have hp : ((#[(0, x)] : Array (Nat × Operand)).map fun (i, x) => (i, a.eval x)).toList = [(0, .agg cs.toArray)] := by simp [hx]
  rw [hp]
  generalize ((Array.range (1 * ie.size)).map (z.cells[· % z.cells.size]!)) = Z at hZ ⊢
  rw [fill_one _ Z 0 0 n (.agg cs.toArray) [] (by simp [hz1]) (by show cs.toArray.size = n; simpa using hl) (by omega)]
  rw [Instr.fill]
  congr 1
  apply Array.toList_inj.1
  have hd : Z.toList.drop (0 + n) = [] := List.drop_eq_nil_of_le (by simp; omega)
  rw [hd]
  simp [Value.cells]
end Go.Proofs.Ytpjachbmllklgaa.Rng
end
