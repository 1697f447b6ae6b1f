/- What New makes. -/
import Derived.Test.YtnhceomdjlocaaaWTell
import Derived.Test.YtnhceomdjlocaaaPAllx1
import Derived.Test.YtnhceomdjlocaaaPureS
import Derived.Deep.RegionWith
namespace Go.Proofs.Ytnhceomdjlocaaa.Clock
open Go.RowKit Go.Lib Go.MuLone Go.Proofs.Ytnhceomdjlocaaa.PAll Go.Proofs.YtnhceomdjlocaaaW.PrintWords Go.Proofs.YtnhceomdjlocaaaW.PrintLast Go.Proofs.YtnhceomdjlocaaaW.PrintMore
set_option linter.unusedVariables false
set_option linter.unusedSimpArgs false

theorem readsInt_of_C {w : World} {A : Option Addr} {n : Nat} {xs : List Int} (h : Kd.C (Kd.int .i64) w A n xs) : ReadsInt w .i64 A n xs := by
  obtain ⟨h1, h2, h3⟩ := h
  refine ⟨h1, h2, fun g => ?_⟩
  obtain ⟨ad, e, k⟩ := h3 g
  refine ⟨ad, e, fun j hj => ?_⟩
  have hj' : j < xs.length := by omega
  obtain ⟨c, k1, k2, k3⟩ := k j xs[j] (List.getElem?_eq_getElem hj')
  have k2 : c = [.int .i64 xs[j]] := k2
  subst k2
  have := k3 0 _ rfl
  simpa [Kd.int, Kd.scalar, List.getElem?_eq_getElem hj'] using this

set_option maxHeartbeats 8000000 in
theorem clone_any (ad : Addr) (c0 : Nat) (ns : List Int) (w : World) (hr : ReadsInt w .i64 (some ad) ns.length ns) (hl : ns.length ≤ 1000000) :
    Calls Try.prog 20 #[.slice (some ad) ns.length c0] w fun e w' => ∃ v, e = .returned v ∧ w'.ownsRow w.heap.size 3 1 v ns.length (nums .i64 ns) ∧ Below w.heap.size w w' := by
  have q22 : ∀ (w : World) (a : Option Addr) (n c n' c' : Nat), (binOp .eql 22 (.slice a n c) (.slice none n' c')).run Try.prog w = .ok (.bool a.isNone) w := fun w a n c n' c' => Lib.run_eql_slice_nil w _ _ a n c n' c' Try.underlying22
  have HR := Aside0.mk hr
  clear hr
  go_enter Try.func20, Try.ntmps20
  go_wp2_with (at_builtin; refine print_append_row (w0 := w) w.heap.size rfl (.tmp 5) (.tmp 6) 22 3 .i64 8 rfl Try.underlying22 info3 (by decide) (.slice (some ⟨w.heap.size, 0, none⟩) 0 0) ([] : List Int) ns _ _ _ rfl rfl ?aO ?aR ?aB ?aS ?aL ?_)
  case aO => exact World.ownsRow_made w #[] 0 (Nat.le_refl _) (Nat.zero_le _) rfl
  case aR => exact HR.out.allocS _
  case aB => exact below_alloc (Below.refl _ w) _
  case aS => simp
  case aL => simp; omega
  intro v1 w1 ho hb hg hat
  go_wp2
  go_ret
  exact ⟨_, rfl, by simpa using ho, hb⟩

theorem info49 : (Try.prog.info? 49).map (fun i => (i.zero, i.size, i.bytes)) = some (some (.agg #[.int .i64 0, .int .i64 0, .bool false, .bool false, .int .i64 0, .int .i64 0, .int .i64 0, .int .i64 0, .bool false]), 9, 64) := by kernel_rfl
theorem info54 : (Try.prog.info? 54).map (fun i => (i.zero, i.size, i.bytes)) = some (some (.agg #[.int .i64 0]), 1, 8) := by kernel_rfl
theorem make54 (n : Nat) (h : n ≤ 1000000) (w : World) : (Instr.makeSlice 37 (.int .i64 (n : Int)) (.int .i64 (n : Int))).run Try.prog w = .ok (.slice (some ⟨w.heap.size, 0, none⟩) n n) (w.alloc (.cells (madeCells #[.int .i64 0] n) 54)) := by
  obtain ⟨i0, hi, hzz⟩ := Option.map_eq_some_iff.1 info54
  simp only [Prod.mk.injEq] at hzz
  obtain ⟨hz0, hz1, hz2⟩ := hzz
  have := run_make (P := Try.prog) w 37 54 i0 _ Try.underlying37 hi hz0 .i64 .i64 (n : Int) (n : Int) (by omega) (by omega) (by rw [hz2]; omega) (by omega)
  rw [hz1] at this
  simpa [Value.cells] using this
theorem madeCells_get (n j : Nat) (h : j < n) : (madeCells #[.int .i64 0] n)[j]? = some (.int .i64 0) := by
  simp [madeCells, h, Nat.mod_one]
theorem own_at {w : World} {base e : Nat} {v : Value} {xs : List Int} (h : w.ownsRow base e 1 v xs.length (nums .i64 xs)) (hn : 0 < xs.length) :
    ∃ g cap cur, v = .slice (some ⟨g, 0, none⟩) xs.length cap ∧ base ≤ g ∧ w.heap[g]? = some (.cells cur e (0, 0)) ∧ ∀ j, j < xs.length → cur[j]? = some (.int .i64 xs[j]!) := by
  rcases h.2 with ⟨_, h0⟩ | ⟨g, cap, cur, rfl, hb, hg, hc, hm, hsz, htake⟩
  · omega
  · refine ⟨g, cap, cur, rfl, hb, hg, fun j hj => ?_⟩
    have h1 : (cur.toList.take (xs.length * 1))[j]? = (nums .i64 xs)[j]? := by rw [htake]
    rw [List.getElem?_take_of_lt (by omega)] at h1
    rw [← Array.getElem?_toList, h1]
    simp [nums, List.getElem?_eq_getElem hj, getElem!_pos xs j hj]

/-- The pairs of the first i nodes, one behind the other. -/
def pairsTo (ns : List Int) : Nat → List PairS
  | 0 => []
  | i + 1 => pairsTo ns i ++ (ns.take i).map (pair0 ns[i]!)

/-- A watch while it is made. -/
structure Nl (w W : World) (bw bn bt cn n : Nat) (ns : List Int) (v : Value) (ps : List PairS) : Prop where
  bel : Below w.heap.size w W
  hw : W.heap[bw]? = some (.cells #[.slice (some ⟨bn, 0, none⟩) n cn, .slice (some ⟨bt, 0, none⟩) n n, .int .i32 0, .int .u32 0, v] 47 (0, 0))
  hn : ∃ c, W.heap[bn]? = some (.cells c 3 (0, 0)) ∧ ∀ j, j < n → c[j]? = some (.int .i64 ns[j]!)
  ht : W.heap[bt]? = some (.cells (madeCells #[.int .i64 0] n) 54 (0, 0))
  own : W.ownsRow w.heap.size 49 9 v ps.length (ps.flatMap cellsP)
  bw_ge : w.heap.size ≤ bw
  bn_ge : w.heap.size ≤ bn
  bt_ge : w.heap.size ≤ bt

theorem pairsTo_length (ns : List Int) : ∀ i, ns.length ≤ 1000 → (pairsTo ns i).length ≤ i * 1000
  | 0, _ => by simp [pairsTo]
  | i + 1, h => by
    have := pairsTo_length ns i h
    simp only [pairsTo, List.length_append, List.length_map, List.length_take]
    omega
section
variable {w W : World} {bw bn bt cn n : Nat} {ns : List Int} {v : Value} {ps : List PairS}
theorem Nl.c4 (h : Nl w W bw bn bt cn n ns v ps) : W.cell? ⟨bw, 4, none⟩ = some v := by simp [World.cell?, h.hw]
theorem Nl.own_ne (h : Nl w W bw bn bt cn n ns v ps) : ∀ b, (b = bw ∨ b = bn ∨ b = bt) → some b ≠ v.ownBlock := fun b hb e => by
  obtain ⟨cells, hc⟩ := own_typed h.own b e.symm
  obtain ⟨c, hn, _⟩ := h.hn
  rcases hb with rfl | rfl | rfl
  · rw [h.hw] at hc; simp at hc
  · rw [hn] at hc; simp at hc
  · rw [h.ht] at hc; simp at hc
theorem Nl.ne_nt (h : Nl w W bw bn bt cn n ns v ps) : bn ≠ bw ∧ bt ≠ bw := by
  obtain ⟨c, hn, _⟩ := h.hn
  refine ⟨fun e => ?_, fun e => ?_⟩
  · rw [e, h.hw] at hn; simp at hn
  · have := h.ht; rw [e, h.hw] at this; simp at this
/-- The row has grown. -/
theorem Nl.grown {w1 : World} {v1 : Value} {p : PairS} (h : Nl w W bw bn bt cn n ns v ps) (hb : Below w.heap.size w w1) (hg : W.grownBy w1 v.ownBlock) (ho : w1.ownsRow w.heap.size 49 9 v1 (ps.length + 1) (ps.flatMap cellsP ++ cellsP p)) :
    w1.heap[bw]? = some (.cells #[.slice (some ⟨bn, 0, none⟩) n cn, .slice (some ⟨bt, 0, none⟩) n n, .int .i32 0, .int .u32 0, v] 47 (0, 0)) ∧ Nl w (w1.setCell ⟨bw, 4, none⟩ v1) bw bn bt cn n ns v1 (ps ++ [p]) := by
  obtain ⟨c, hn, hc⟩ := h.hn
  have k1 := (hg.block bw (heap_lt h.hw) (h.own_ne bw (.inl rfl))).trans h.hw
  have k2 := (hg.block bn (heap_lt hn) (h.own_ne bn (.inr (.inl rfl)))).trans hn
  have k3 := (hg.block bt (heap_lt h.ht) (h.own_ne bt (.inr (.inr rfl)))).trans h.ht
  refine ⟨k1, ⟨?_, ?_, ⟨c, ?_, hc⟩, ?_, ?_, h.bw_ge, h.bn_ge, h.bt_ge⟩⟩
  · exact hb.setCell (p := ⟨bw, 4, none⟩) h.bw_ge _
  · simp [World.setCell, Array.getElem?_modify, k1]
  · rw [Below.heap_setCell _ _ _ _ h.ne_nt.1]; exact k2
  · rw [Below.heap_setCell _ _ _ _ h.ne_nt.2]; exact k3
  · have e1 : (ps ++ [p]).length = ps.length + 1 := by simp
    have e2 : (ps ++ [p]).flatMap cellsP = ps.flatMap cellsP ++ cellsP p := by simp
    rw [e1, e2]
    refine own_move ho (fun b hb => Below.heap_setCell _ _ _ _ (fun e => ?_))
    obtain ⟨cells, hc⟩ := own_typed ho b hb
    have e : b = bw := e
    subst e
    rw [k1] at hc; simp at hc
end

set_option maxHeartbeats 8000000 in
set_option maxRecDepth 100000 in
theorem new_ok (k : Nat) (A0 : Option Addr) (c0 : Nat) (ns : List Int) (w : World) (hr0 : Kd.C (Kd.int .i64) w A0 ns.length ns) (hc0 : ns.length ≤ c0) (h : clock_nodes.f k ns = some true) (hl0 : 0 < ns.length) (hl : ns.length ≤ 1000) :
    Calls Try.prog 11 #[.slice A0 ns.length c0] w fun e w' => ∃ a : Wa, e = .returned (.tuple #[.pointer (some ⟨a.bw, 0, none⟩), .int .i64 0]) ∧ Below w.heap.size w w' ∧ ∃ v, Nl w w' a.bw a.bn a.bt a.cn ns.length ns v (pairsTo ns ns.length) := by
  have e19 : ∀ args w, (callFunc 19 args).run Try.prog w = .ok (.enter 19 args) w := enters_of Try.func19 (by kernel_rfl) rfl
  have e20 : ∀ args w, (callFunc 20 args).run Try.prog w = .ok (.enter 20 args) w := enters_of Try.func20 (by kernel_rfl) rfl
  have hmk := make54 ns.length (by omega)
  have HRI := readsInt_of_C hr0
  obtain ⟨ad, rfl, hcells⟩ := HRI.2.2 hl0
  have hcn := clock_nodes.calls k (some ad) c0 ns true w hr0 hc0 h
  have HR := Aside0.mk HRI
  have HC := Aside0.mk hcells
  clear hr0 HRI hcells h
  go_enter Try.func11, Try.ntmps11
  go_wp2_with fail
  refine hcn.mono ?_
  rintro e w1 ⟨rfl, q, rfl⟩
  have hb1 : Below w.heap.size w (w.drewN q) := pw_below_drewN (Below.refl _ w) q
  generalize w.drewN q = w1 at hb1 ⊢
  have HR1 := Aside0.mk (HR.out.below hb1)
  have HC1 : Aside0 (∀ j, j < ns.length → w1.cell? (ad.add j) = some (.int .i64 (ns.getD j 0))) := Aside0.mk (fun j hj => pw_cell_below hb1 (HC.out j hj))
  go_wp2_with fail
  have hbd : Below w.heap.size w w1.drew := below_drew hb1
  have HRd : ReadsInt w1.drew .i64 (some ad) ns.length ns := HR1.out
  change Code.wp _ _ _ _ _
  go_region_with (go_at_call 20; refine (clone_any ad c0 ns _ ?_ (by omega)).mono ?_; (first | exact HR1.out.drewN 1 | exact (HR1.out.drewN 1).allocS _); rintro e w' ⟨v, rfl, ho, hb⟩; obtain ⟨g, cap, cur, rfl, hge, hg, hcur⟩ := own_at ho hl0; clear ho)
  -- the two orders
  · have N : Nl w ((w'.alloc (.cells (madeCells #[.int .i64 0] ns.length) 54)).alloc (.cells #[.slice (some ⟨g, 0, none⟩) ns.length cap, .slice (some ⟨w'.heap.size, 0, none⟩) ns.length ns.length, .int .i32 0, .int .u32 0, .slice none 0 0] 47)) (w'.heap.size + 1) g w'.heap.size cap ns.length ns (.slice none 0 0) (pairsTo ns 0) := by
      have hbw : Below w.heap.size w w' := hbd.trans (hb.mono hbd.size)
      have hs1 := hbw.size
      have hs2 := hbd.size
      have hlt := heap_lt hg
      refine ⟨(hbw.alloc hs1 _).alloc (by simp; omega) _, ?_, ⟨cur, ?_, hcur⟩, ?_, own_nil _ _ _ _, by omega, by omega, by omega⟩
      · simpa using heap_alloc_new (w'.alloc (.cells (madeCells #[.int .i64 0] ns.length) 54)) _
      · rw [heap_alloc_old _ _ (by simp; omega), heap_alloc_old _ _ hlt]; exact hg
      · rw [heap_alloc_old _ _ (by simp)]; exact heap_alloc_new _ _
    generalize ((w'.alloc (.cells (madeCells #[.int .i64 0] ns.length) 54)).alloc (.cells #[.slice (some ⟨g, 0, none⟩) ns.length cap, .slice (some ⟨w'.heap.size, 0, none⟩) ns.length ns.length, .int .i32 0, .int .u32 0, .slice none 0 0] 47)) = W at N ⊢
    generalize w'.heap.size + 1 = bw at N ⊢
    generalize w'.heap.size = bt at N ⊢
    have NN := Aside0.mk N
    clear N hb hg hcur hge
    go_wp2_with fail
    go_loopg [21] ns.length (fun gg s21 wr => ∃ (i : Nat) (v : Value), i ≤ ns.length ∧ ns.length - i ≤ gg ∧ s21 = .int .i64 i ∧ Aside (Nl w wr bw g bt cap ns.length ns v (pairsTo ns i)))
    case atStart => exact ⟨0, _, by omega, by omega, rfl, NN.out⟩
    case round =>
      obtain ⟨i, v, hi, hgg, rfl, A⟩ := hrel
      by_cases hlt : i < ns.length
      · have hltz : (i : Int) < (ns.length : Int) := by omega
        have hci : wr.cell? (ad.add i) = some (.int .i64 ns[i]!) := by have := pw_cell_below A.out.bel (HC.out i hlt); rw [this]; simp [List.getElem?_eq_getElem hlt, getElem!_pos ns i hlt]
        generalize hni : ns[i]! = x at hci
        have NI := Aside0.mk hni
        clear hni
        have hic : (i : Int) ≤ (c0 : Int) := by omega
        go_wp2_with fail
        go_loopg [30] i (fun gg s30 wr2 => ∃ (k : Nat) (v : Value), k ≤ i ∧ i - k ≤ gg ∧ s30 = .int .i64 k ∧ Aside (Nl w wr2 bw g bt cap ns.length ns v (pairsTo ns i ++ (ns.take k).map (pair0 x))))
        case atStart => exact ⟨0, v, by omega, by omega, rfl, show Nl _ _ _ _ _ _ _ _ _ _ by simpa using A.out⟩
        case round =>
          obtain ⟨kk, v2, hk, hgk, rfl, A2⟩ := hrel
          by_cases hlt2 : kk < i
          · have hltz2 : (kk : Int) < (i : Int) := by omega
            have hck : wr.cell? (ad.add kk) = some (.int .i64 ns[kk]!) := by have := pw_cell_below A2.out.bel (HC.out kk (by omega)); rw [this]; simp [List.getElem?_eq_getElem (show kk < ns.length by omega), getElem!_pos ns kk (by omega)]
            generalize hnk : ns[kk]! = y at hck
            have NK := Aside0.mk hnk
            clear hnk
            have h4 := A2.out.c4
            have hlen : (pairsTo ns i ++ (ns.take kk).map (pair0 x)).length ≤ 1000000000 := by
              have h1 := pairsTo_length ns i (by omega)
              have h2 : ((ns.take kk).map (pair0 x)).length ≤ 1000 := by simp; omega
              have h3 : i * 1000 ≤ 1000 * 1000 := Nat.mul_le_mul_right _ (by omega)
              rw [List.length_append]
              omega
            generalize hps : pairsTo ns i ++ (ns.take kk).map (pair0 x) = ps at A2 hlen
            have HPS := Aside0.mk hps
            clear hps
            have hsz := A2.out.bel.size
            go_wp2_with (at_builtin; refine print_append_cells (w0 := w) w.heap.size rfl (.tmp 38) (.tmp 42) 45 49 _ 9 64 rfl Try.underlying45 info49 rfl (by decide) (by decide) v2 ps.length (ps.flatMap cellsP) (cellsP (pair0 x y)) rfl rfl rfl (by intro u hu; simp only [cellsP, List.mem_cons, List.mem_nil_iff, or_false] at hu; rcases hu with rfl | rfl | rfl | rfl | rfl | rfl | rfl | rfl | rfl <;> rfl) A2.out.own A2.out.bel hsz (by omega) ?_)
            intro v1 w3 ho hb3 hg3 hat3
            obtain ⟨g3, cap3, rfl, _, _⟩ := ho.form (by omega)
            have hgr := A2.out.grown hb3 hg3 ho
            have b4 : w3.cell? ⟨bw, 4, none⟩ = some v2 := by simp [World.cell?, hgr.1]
            have fz4 : w3.frozen? ⟨bw, 4, none⟩ = false := by simp [World.frozen?, hgr.1]
            have N3 := Aside0.mk hgr.2
            clear hgr ho hb3 hg3 hat3
            go_wp2
            go_roundg (i - (kk + 1))
            case measure => omega
            case rel => exact ⟨kk + 1, _, by omega, by omega, by go_num, by
              show Nl w _ bw g bt cap _ ns _ _
              have h2 : ns.take (kk + 1) = ns.take kk ++ [ns[kk]!] := by rw [List.take_add_one, getElem!_pos ns kk (by omega), List.getElem?_eq_getElem (by omega)]; rfl
              have h3 : ps ++ [pair0 x y] = pairsTo ns i ++ (ns.take (kk + 1)).map (pair0 x) := by rw [← HPS.out, h2, NK.out, List.map_append, List.append_assoc]; rfl
              rw [← h3]
              exact N3.out⟩
          · have hltz2 : ¬ (kk : Int) < (i : Int) := by omega
            have : kk = i := by omega
            subst this
            go_wp2
            go_roundg (ns.length - (kk + 1))
            case measure => omega
            case rel => exact ⟨kk + 1, v2, by omega, by omega, by go_num, by have := A2.out; rw [← NI.out] at this; exact this⟩
      · have hltz : ¬ (i : Int) < (ns.length : Int) := by omega
        have : i = ns.length := by omega
        subst this
        go_wp2
        go_ret2
        exact ⟨⟨bw, g, bt, 0, cap, 0, none⟩, rfl, A.out.bel, v, A.out⟩
  · have N : Nl w (w'.alloc (.cells #[.slice (some ⟨g, 0, none⟩) ns.length cap, .slice (some ⟨w1.heap.size, 0, none⟩) ns.length ns.length, .int .i32 0, .int .u32 0, .slice none 0 0] 47)) w'.heap.size g w1.heap.size cap ns.length ns (.slice none 0 0) (pairsTo ns 0) := by
      have hba : Below w.heap.size w (w1.alloc (.cells (madeCells #[.int .i64 0] ns.length) 54)).drew := below_drew (hb1.alloc hb1.size _)
      have hbw : Below w.heap.size w w' := hba.trans (hb.mono hba.size)
      have hs0 := hb1.size
      have hs1 := hbw.size
      have hs2 := hb.size
      have hs3 : (w1.alloc (.cells (madeCells #[.int .i64 0] ns.length) 54)).drew.heap.size = w1.heap.size + 1 := by show (w1.alloc _).heap.size = _; simp
      have hlt := heap_lt hg
      refine ⟨hbw.alloc hs1 _, heap_alloc_new _ _, ⟨cur, ?_, hcur⟩, ?_, own_nil _ _ _ _, by omega, by omega, by omega⟩
      · rw [heap_alloc_old _ _ hlt]; exact hg
      · rw [heap_alloc_old _ _ (by omega), hb.block _ (by omega)]
        exact heap_alloc_new w1 _
    generalize hW : (w'.alloc (.cells #[.slice (some ⟨g, 0, none⟩) ns.length cap, .slice (some ⟨w1.heap.size, 0, none⟩) ns.length ns.length, .int .i32 0, .int .u32 0, .slice none 0 0] 47)) = W at N ⊢
    generalize w'.heap.size = bw at N ⊢
    generalize w1.heap.size = bt at N ⊢
    have NN := Aside0.mk N
    clear N hb hg hcur hge hW
    go_wp2_with fail
    go_loopg [21] ns.length (fun gg s21 wr => ∃ (i : Nat) (v : Value), i ≤ ns.length ∧ ns.length - i ≤ gg ∧ s21 = .int .i64 i ∧ Aside (Nl w wr bw g bt cap ns.length ns v (pairsTo ns i)))
    case atStart => exact ⟨0, _, by omega, by omega, rfl, NN.out⟩
    case round =>
      obtain ⟨i, v, hi, hgg, rfl, A⟩ := hrel
      by_cases hlt : i < ns.length
      · have hltz : (i : Int) < (ns.length : Int) := by omega
        have hci : wr.cell? (ad.add i) = some (.int .i64 ns[i]!) := by have := pw_cell_below A.out.bel (HC.out i hlt); rw [this]; simp [List.getElem?_eq_getElem hlt, getElem!_pos ns i hlt]
        generalize hni : ns[i]! = x at hci
        have NI := Aside0.mk hni
        clear hni
        have hic : (i : Int) ≤ (c0 : Int) := by omega
        go_wp2_with fail
        go_loopg [30] i (fun gg s30 wr2 => ∃ (k : Nat) (v : Value), k ≤ i ∧ i - k ≤ gg ∧ s30 = .int .i64 k ∧ Aside (Nl w wr2 bw g bt cap ns.length ns v (pairsTo ns i ++ (ns.take k).map (pair0 x))))
        case atStart => exact ⟨0, v, by omega, by omega, rfl, show Nl _ _ _ _ _ _ _ _ _ _ by simpa using A.out⟩
        case round =>
          obtain ⟨kk, v2, hk, hgk, rfl, A2⟩ := hrel
          by_cases hlt2 : kk < i
          · have hltz2 : (kk : Int) < (i : Int) := by omega
            have hck : wr.cell? (ad.add kk) = some (.int .i64 ns[kk]!) := by have := pw_cell_below A2.out.bel (HC.out kk (by omega)); rw [this]; simp [List.getElem?_eq_getElem (show kk < ns.length by omega), getElem!_pos ns kk (by omega)]
            generalize hnk : ns[kk]! = y at hck
            have NK := Aside0.mk hnk
            clear hnk
            have h4 := A2.out.c4
            have hlen : (pairsTo ns i ++ (ns.take kk).map (pair0 x)).length ≤ 1000000000 := by
              have h1 := pairsTo_length ns i (by omega)
              have h2 : ((ns.take kk).map (pair0 x)).length ≤ 1000 := by simp; omega
              have h3 : i * 1000 ≤ 1000 * 1000 := Nat.mul_le_mul_right _ (by omega)
              rw [List.length_append]
              omega
            generalize hps : pairsTo ns i ++ (ns.take kk).map (pair0 x) = ps at A2 hlen
            have HPS := Aside0.mk hps
            clear hps
            have hsz := A2.out.bel.size
            go_wp2_with (at_builtin; refine print_append_cells (w0 := w) w.heap.size rfl (.tmp 38) (.tmp 42) 45 49 _ 9 64 rfl Try.underlying45 info49 rfl (by decide) (by decide) v2 ps.length (ps.flatMap cellsP) (cellsP (pair0 x y)) rfl rfl rfl (by intro u hu; simp only [cellsP, List.mem_cons, List.mem_nil_iff, or_false] at hu; rcases hu with rfl | rfl | rfl | rfl | rfl | rfl | rfl | rfl | rfl <;> rfl) A2.out.own A2.out.bel hsz (by omega) ?_)
            intro v1 w3 ho hb3 hg3 hat3
            obtain ⟨g3, cap3, rfl, _, _⟩ := ho.form (by omega)
            have hgr := A2.out.grown hb3 hg3 ho
            have b4 : w3.cell? ⟨bw, 4, none⟩ = some v2 := by simp [World.cell?, hgr.1]
            have fz4 : w3.frozen? ⟨bw, 4, none⟩ = false := by simp [World.frozen?, hgr.1]
            have N3 := Aside0.mk hgr.2
            clear hgr ho hb3 hg3 hat3
            go_wp2
            go_roundg (i - (kk + 1))
            case measure => omega
            case rel => exact ⟨kk + 1, _, by omega, by omega, by go_num, by
              show Nl w _ bw g bt cap _ ns _ _
              have h2 : ns.take (kk + 1) = ns.take kk ++ [ns[kk]!] := by rw [List.take_add_one, getElem!_pos ns kk (by omega), List.getElem?_eq_getElem (by omega)]; rfl
              have h3 : ps ++ [pair0 x y] = pairsTo ns i ++ (ns.take (kk + 1)).map (pair0 x) := by rw [← HPS.out, h2, NK.out, List.map_append, List.append_assoc]; rfl
              rw [← h3]
              exact N3.out⟩
          · have hltz2 : ¬ (kk : Int) < (i : Int) := by omega
            have : kk = i := by omega
            subst this
            go_wp2
            go_roundg (ns.length - (kk + 1))
            case measure => omega
            case rel => exact ⟨kk + 1, v2, by omega, by omega, by go_num, by have := A2.out; rw [← NI.out] at this; exact this⟩
      · have hltz : ¬ (i : Int) < (ns.length : Int) := by omega
        have : i = ns.length := by omega
        subst this
        go_wp2
        go_ret2
        exact ⟨⟨bw, g, bt, 0, cap, 0, none⟩, rfl, A.out.bel, v, A.out⟩
end Go.Proofs.Ytnhceomdjlocaaa.Clock
