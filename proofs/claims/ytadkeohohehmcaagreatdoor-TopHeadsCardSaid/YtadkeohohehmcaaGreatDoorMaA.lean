/- Several texts in one. -/
import Derived.Test.YtadkeohohehmcaaGreatDoorRooA
section
/- What commands make: the law's made. -/
namespace Go.Proofs.YtadkeohohehmcaaGreatDoor.Top
open Go.RowKit Go.Proofs.YtadkeohohehmcaaGreatDoorW.PrintWords Go.Proofs.YtadkeohohehmcaaGreatDoorW.PrintLast Go.Proofs.YtadkeohohehmcaaGreatDoorW.PrintMore Go.Proofs.YtadkeohohehmcaaGreatDoor.PTop
set_option linter.unusedVariables false
set_option linter.unusedSimpArgs false
attribute [local go_sem] Oper.semAt_some
theorem wp_allocW {o : Oper} {a : Act} {w : World} {K : Act → World → Prop} {Q : Exit → Act → World → Prop} (T : TypeId) (ho : o.op = .alloc T) (z : Array Value) (hz : (Tryz.prog.info? T).map (·.zero) = some (some (.agg z)))
    (h : ∀ W, Below w.heap.size w W → W.heap.size = w.heap.size + 1 → W.heap[w.heap.size]? = some (.cells z T (0, 0)) → K (a.put o.dst (.pointer (some ⟨w.heap.size, 0, none⟩))) W) : o.wp Tryz.prog a w K Q := by
  obtain ⟨it, hi, hz⟩ := Option.map_eq_some_iff.1 hz
  have := h _ ((Below.refl _ w).alloc (Nat.le_refl _) (.cells z T)) (World.size_alloc w _) (blk_new w _)
  unfold Oper.wp
  have e : (execOp a.eval o).run Tryz.prog w = .ok (.value (.pointer (some ⟨w.heap.size, 0, none⟩))) (w.alloc (.cells z T)) := by
    simp only [execOp, ho, Instr.alloc, zeroValue, newVar, newRow, typeInfo]
    simp [hi, hz, Value.cells]
  rw [e]
  simp only [Oper.upon]
  first | exact this | exact Or.inl this
def csC : List Cmd → List Value
  | [] => []
  | x :: r => ccells x ++ csC r
theorem csC_len : ∀ l : List Cmd, (∀ c ∈ l, c.root.length = 32) → (csC l).length = l.length * 38
  | [], _ => rfl
  | x :: r, h => by rw [csC, List.length_append, csC_len r (fun y hy => h y (List.mem_cons_of_mem _ hy)), ccells_len x (h x List.mem_cons_self), List.length_cons]; omega
theorem csC_at : ∀ (l : List Cmd), (∀ c ∈ l, c.root.length = 32) → ∀ (i : Nat) (x : Cmd), l[i]? = some x → ∀ j u, (ccells x)[j]? = some u → (csC l)[i * 38 + j]? = some u
  | [], _, i, x, h => by simp at h
  | y :: r, _, 0, x, h => fun j u hj => by
    obtain rfl : y = x := by simpa using h
    rw [csC, Nat.zero_mul, Nat.zero_add, List.getElem?_append_left (List.getElem?_eq_some_iff.1 hj).1]
    exact hj
  | y :: r, hok, i + 1, x, h => fun j u hj => by
    have l := ccells_len y (hok y List.mem_cons_self)
    rw [csC, show (i + 1) * 38 + j = (ccells y).length + (i * 38 + j) by omega, List.getElem?_append_right (by omega), Nat.add_sub_cancel_left]
    exact csC_at r (fun z hz => hok z (List.mem_cons_of_mem _ hz)) i x (by simpa using h) j u hj
/-- Commands, to be read. -/
def CsR (w : World) (v : Value) (cs : List Cmd) : Prop := ∃ A cap, v = .slice A cs.length cap ∧ cs.length ≤ cap ∧ (0 < cs.length → ∃ b off, A = some ⟨b, off, none⟩ ∧ ∀ j u, (csC cs)[j]? = some u → w.cell? ⟨b, off + j, none⟩ = some u)
theorem CsR.below {w w' : World} {v : Value} {cs : List Cmd} (h : CsR w v cs) (hb : Below w.heap.size w w') : CsR w' v cs := by
  obtain ⟨A, cap, rfl, hc, hx⟩ := h
  refine ⟨A, cap, rfl, hc, fun h0 => ?_⟩
  obtain ⟨b, off, rfl, h1⟩ := hx h0
  exact ⟨b, off, rfl, fun j u hj => (World.cell?_of_block (w := w) (hb.block b (block_lt_of_cell (h1 j u hj)))).trans (h1 j u hj)⟩
theorem CsR.of_reads {w : World} {v : Value} {cs : List Cmd} (h : Reads w 38 v cs.length (csC cs)) : CsR w v cs := by
  rcases h with ⟨hl, ⟨rfl, hn⟩ | ⟨b, off, c, rfl, hc, hx⟩⟩
  · rw [CsR, hn]
    exact ⟨none, 0, rfl, Nat.le_refl _, fun h => absurd h (Nat.lt_irrefl 0)⟩
  · exact ⟨_, c, rfl, hc, fun _ => ⟨b, off, rfl, hx⟩⟩
/-- What a walk over commands keeps. -/
structure MadL (KS : List Int) (cs : List Cmd) (w wr : World) (s4 : Value) (i : Nat) : Prop where
  ix : s4 = .int .i64 (i : Int)
  le : i ≤ cs.length
  st : ∃ d A1 m1 c1 A2 m2 c2 A3 m3 c3 n1, w.heap.size + 1 < n1 ∧ Made KS dir0 (cs.take i) d ∧ wr.heap[w.heap.size + 1]? = some (.cells #[.int .i64 d.e, .slice A1 m1 c1, .slice A2 m2 c2, .slice A3 m3 c3] 28 (0, 0)) ∧ DirC wr n1 d (.slice A1 m1 c1) (.slice A2 m2 c2) (.slice A3 m3 c3)
  zb : wr.heap[w.heap.size]? = some (.cells z28.toArray 28 (0, 0))
  below : Below w.heap.size w wr
def MadePost (KS : List Int) (cs : List Cmd) (w : World) (e : Ending) (w' : World) : Prop :=
  ∃ d A1 m1 c1 A2 m2 c2 A3 m3 c3, e = .returned (.agg #[.int .i64 d.e, .slice A1 m1 c1, .slice A2 m2 c2, .slice A3 m3 c3]) ∧ Made KS dir0 cs d ∧ DirR w' d (.slice A1 m1 c1) (.slice A2 m2 c2) (.slice A3 m3 c3) ∧ Below w.heap.size w w'
theorem dir0_c (w : World) (n : Nat) : DirC w n dir0 (.slice none 0 0) (.slice none 0 0) (.slice none 0 0) := ⟨⟨[], World.ownsRow_nil _ _ _ _, rfl⟩, World.ownsRow_nil _ _ _ _, World.ownsRow_nil _ _ _ _⟩
theorem zero28 : (Tryz.prog.info? 28).map (·.zero) = some (some (.agg z28.toArray)) := by kernel_rfl
/-- What a step leaves: a new box of what it answers. -/
structure StepB (KS : List Int) (d : Dir) (c : Cmd) (wr W : World) (tb : Nat) (code : Int) (cs : Array Value) : Prop where
  out : ∃ d' A1 m1 c1 A2 m2 c2 A3 m3 c3, cs = #[.int .i64 d'.e, .slice A1 m1 c1, .slice A2 m2 c2, .slice A3 m3 c3] ∧ AppR KS d c code d' ∧ (code = 0 → ∃ n0, wr.heap.size ≤ n0 ∧ DirC W n0 d' (.slice A1 m1 c1) (.slice A2 m2 c2) (.slice A3 m3 c3))
  box : W.heap[tb]? = some (.cells cs 28 (0, 0))
  le : wr.heap.size ≤ tb
  below : Below wr.heap.size wr W
set_option maxHeartbeats 16000000 in
set_option maxRecDepth 100000 in
theorem made_c (KS : List Int) (cs : List Cmd) (v : Value) (w : World) (hk : HKey KS w) (hr : CsR w v cs) (hp : ∀ c ∈ cs, PathOk c.root) (hn : cs.length ≤ 200) :
    Calls Tryz.prog 5 #[v] w fun e w' => MadePost KS cs w e w' := by
  have hk0 := hk.pos
  have AC : Aside0 (∀ (W : World) d c x1 x2 x3, Below w.heap.size w W → DirR W d x1 x2 x3 → DirIn KS d → PathOk c.root → Calls Tryz.prog 9 #[.agg #[.int .i64 d.e, x1, x2, x3], .agg (ccells c).toArray] W fun e w' => AppPost KS d c W e w') := ⟨fun W d c x1 x2 x3 hW h1 h2 h3 => apply_c KS d c x1 x2 x3 _ W (hk.below hW hk0) h1 h2 h3 rfl⟩
  obtain ⟨A, cap, rfl, hcap, hra⟩ := hr
  have HR := Aside0.mk hra
  have HP := Aside0.mk hp
  obtain ⟨n, hcn⟩ : ∃ n, cs.length = n := ⟨_, rfl⟩
  have HCN := Aside0.mk hcn
  rw [hcn] at hn hcap ⊢
  clear hk hra hp hcn
  go_enter Tryz.func5, Tryz.ntmps5
  go_upto_region 1 with (refine wpList_allocW rfl 28 rfl z28.toArray zero28 ?_; intro W1 b1 s1 k1; refine Aside0.out ?_)
  refine ⟨?_⟩
  have S1 := Aside0.mk s1
  clear s1
  go_upto_region 2 with (refine wpList_allocW rfl 28 rfl z28.toArray zero28 ?_; intro W2 b2 s2 k2; refine Aside0.out ?_)
  refine ⟨?_⟩
  have s1 := S1.out
  rw [s1] at s2 k2 b2
  have k2z := (b2.block w.heap.size (by omega)).trans k1
  have q2 : Below w.heap.size w W2 := b1.trans (b2.mono (by omega))
  rw [s1]
  have hz28 : z28.toArray.size = z28.toArray.size := rfl
  clear b1 b2 s1 s2 k1
  go_upto_region 2 with (refine wpList_store_row rfl 28 (.tmp 3) (.tmp 7) rfl (w.heap.size + 1) z28.toArray rfl rfl 28 _ k2 hi28z rfl z28_one ?_)
  have k3 := setRow_heap W2 (w.heap.size + 1) _ z28.toArray 28 (0, 0) k2
  have k3z := (setRow_other W2 (w.heap.size + 1) w.heap.size z28.toArray (by omega)).trans k2z
  have q3 : Below w.heap.size w (W2.setRow (w.heap.size + 1) z28.toArray) := below_setRow q2 _ (by omega) _
  generalize W2.setRow (w.heap.size + 1) z28.toArray = W3 at k3 k3z q3 ⊢
  clear k2 k2z q2 hz28
  go_upto_region 3 with fail
  go_loopg [4] n (fun gg s4 wr => ∃ i : Nat, n - i ≤ gg ∧ Aside (MadL KS cs w wr s4 i))
  case atStart => exact ⟨0, by omega, ⟨rfl, by omega, ⟨dir0, none, 0, 0, none, 0, 0, none, 0, 0, w.heap.size + 2, by omega, Made.nil, k3, dir0_c _ _⟩, k3z, q3⟩⟩
  case round =>
    obtain ⟨i, hgg, L⟩ := hrel
    have LL := Aside0.mk L.out
    obtain rfl := LL.out.ix
    have hle := LL.out.le
    rw [HCN.out] at hle
    have BL := Aside0.mk LL.out.below
    have zb := LL.out.zb
    obtain ⟨d, D1, m1, c1, D2, m2, c2, D3, m3, c3, n1, hn1, hmade, hbox, hdc⟩ := LL.out.st
    have HM := Aside0.mk hmade
    have DC := Aside0.mk hdc
    clear L LL hmade hdc k3 k3z q3 W3 W2 W1 S1
    by_cases hin : i < n
    · have hi0 : (i : Int) < (n : Int) := by omega
      have hge : (0 : Int) ≤ (i : Int) := by omega
      have hlc : i < cs.length := by rw [HCN.out]; exact hin
      have hx : cs[i]? = some cs[i] := List.getElem?_eq_getElem hlc
      have hpx := HP.out cs[i] (List.getElem_mem hlc)
      obtain ⟨b, off, rfl, hcs⟩ := HR.out (by omega)
      have rl : wr.rangeAt b (off + i * 38) (ccells cs[i]) := fun j u hj => by
        have h1 := hcs _ _ (csC_at cs (fun c hc => (HP.out c hc).len) i _ hx j u hj)
        rw [Nat.add_assoc]
        exact (World.cell?_of_block (w := w) (BL.out.block b (block_lt_of_cell h1))).trans h1
      have TK : Aside0 (cs.take (i + 1) = cs.take i ++ [cs[i]]) := ⟨by rw [List.take_add_one, hx]; rfl⟩
      have HDI := Aside0.mk (made_in HM.out (fun c hc => HP.out c (List.mem_of_mem_take hc)))
      generalize cs[i] = c at *
      have hi41 : (Tryz.prog.info? 41).map (·.size) = some (ccells c).length := by rw [ccells_len c hpx.len]; exact size41
      have hi28l : (Tryz.prog.info? 28).map (·.size) = some [Value.int .i64 d.e, .slice D1 m1 c1, .slice D2 m2 c2, .slice D3 m3 c3].length := hi28
      have rb : wr.rangeAt (w.heap.size + 1) 0 [Value.int .i64 d.e, .slice D1 m1 c1, .slice D2 m2 c2, .slice D3 m3 c3] := fun j u hj => by
        rw [Nat.zero_add]
        exact cell_in (l := [Value.int .i64 d.e, .slice D1 m1 c1, .slice D2 m2 c2, .slice D3 m3 c3]) hbox hj
      have SK : Aside0 (∀ W, Below wr.heap.size wr W → W.rangeAt (w.heap.size + 1) 0 [Value.int .i64 d.e, .slice D1 m1 c1, .slice D2 m2 c2, .slice D3 m3 c3] ∧ W.rangeAt b (off + i * 38) (ccells c)) := ⟨fun W hW => ⟨fun j u hj => (World.cell?_of_block (w := wr) (hW.block _ (block_lt_of_cell (rb j u hj)))).trans (rb j u hj), fun j u hj => (World.cell?_of_block (w := wr) (hW.block _ (block_lt_of_cell (rl j u hj)))).trans (rl j u hj)⟩⟩
      have hmb : w.heap.size + 1 < wr.heap.size := (Array.getElem?_eq_some_iff.1 hbox).1
      have BX := Aside0.mk hbox
      have ZB := Aside0.mk zb
      have C0 : Aside0 (∀ W, Below wr.heap.size wr W → Calls Tryz.prog 9 #[.agg #[.int .i64 d.e, .slice D1 m1 c1, .slice D2 m2 c2, .slice D3 m3 c3], .agg (ccells c).toArray] W fun e w' => AppPost KS d c W e w') := ⟨fun W hW => AC.out W d c _ _ _ (BL.out.trans (hW.mono (by omega))) (DirR.below (DirR.of DC.out) hW) HDI.out.1 hpx⟩
      clear hbox zb rl rb hx hcs
      go_upto_region 5 with fail
      refine wp_region_held_drew (S := (fun W => W.rangeAt (w.heap.size + 1) 0 [Value.int .i64 d.e, .slice D1 m1 c1, .slice D2 m2 c2, .slice D3 m3 c3] ∧ W.rangeAt b (off + i * 38) (ccells c))) (by kernel_rfl) (by exact SK.out wr.drew (Below.refl _ _).drew) (fun hHeld => ?_)
      refine wpAnyH_take (i := 0) (oi := _) (v := _) rfl (by kernel_rfl) (by kernel_rfl) (by kernel_rfl) (fun _ _ _ h => h) (yieldsIf_load_mid (by rfl) 28 (.tmp 3) rfl (w.heap.size + 1) 0 rfl _ _ (fun W hW => hW.1) Tryz.underlying28 rfl hi28l) (by assumption) ?_
      (try simp only [uA, uB, uC, uD, uE, uF, uG, uH])
      refine wpAnyH_take (i := 1) (oi := _) (v := ?_) rfl (by kernel_rfl) (by kernel_rfl) (by kernel_rfl) (fun _ _ _ h => h) (Or.inl ⟨by rfl, ?_⟩) (by assumption) ?_
      rotate_left
      · (intro w hSw; (try dsimp only at hSw); go_simp; (try with_reducible rfl))
      (try simp only [uA, uB, uC, uD, uE, uF, uG, uH])
      refine wpAnyH_take (i := 2) (oi := _) (v := ?_) rfl (by kernel_rfl) (by kernel_rfl) (by kernel_rfl) (fun _ _ _ h => h) (Or.inl ⟨by rfl, ?_⟩) (by assumption) ?_
      rotate_left
      · (intro w hSw; (try dsimp only at hSw); go_simp; (try with_reducible rfl))
      (try simp only [uA, uB, uC, uD, uE, uF, uG, uH])
      refine wpAnyH_take (i := 3) (oi := _) (v := ?_) rfl (by kernel_rfl) (by kernel_rfl) (by kernel_rfl) (fun _ _ _ h => h) (Or.inl ⟨by rfl, ?_⟩) (by assumption) ?_
      rotate_left
      · (intro w hSw; (try dsimp only at hSw); go_simp; (try with_reducible rfl))
      (try simp only [uA, uB, uC, uD, uE, uF, uG, uH])
      refine wpAnyH_take (i := 4) (oi := _) (v := _) rfl (by kernel_rfl) (by kernel_rfl) (by kernel_rfl) (fun _ _ _ h => h) (yieldsIf_load_mid (by rfl) 41 (.tmp 18) rfl b (off + i * 38) rfl _ _ (fun W hW => hW.2) Tryz.underlying41 rfl hi41) (by assumption) ?_
      (try simp only [uA, uB, uC, uD, uE, uF, uG, uH])
      refine wpAnyH_ready (rs := [5, 9]) (by kernel_rfl) (by decide) (AllReadyH.cons rfl (fun K' hK => ?_) (AllReadyH.cons rfl (fun K' hK => ?_) AllReadyH.nil))
      · rw [if_pos (by rfl)]
        go_simp
        refine (C0.out _ ((Below.refl _ _).drew)).mono ?_
        rintro e W7 ⟨code, d', E1, p1, f1, E2, p2, f2, E3, p3, f3, rfl, har, hdc, hbc⟩
        (try dsimp only)
        have Q7 : Below wr.heap.size wr W7 := (Below.refl _ wr).drew.trans hbc
        refine hK.out _ _ (by exact SK.out W7 Q7) (fun hHeld => ?_)
        clear hK
        (try simp only [uA, uB, uC, uD, uE, uF, uG, uH])
        refine wpAnyH_take (i := 6) (oi := _) (v := ?_) rfl (by kernel_rfl) (by kernel_rfl) (by kernel_rfl) (fun _ _ _ h => h) (Or.inl ⟨by rfl, ?_⟩) (by assumption) ?_
        rotate_left
        · (intro w hSw; (try dsimp only at hSw); go_simp; (try with_reducible rfl))
        (try simp only [uA, uB, uC, uD, uE, uF, uG, uH])
        refine wpAnyH_take (i := 7) (oi := _) (v := ?_) rfl (by kernel_rfl) (by kernel_rfl) (by kernel_rfl) (fun _ _ _ h => h) (Or.inl ⟨by rfl, ?_⟩) (by assumption) ?_
        rotate_left
        · (intro w hSw; (try dsimp only at hSw); go_simp; (try with_reducible rfl))
        (try simp only [uA, uB, uC, uD, uE, uF, uG, uH])
        refine wpAnyH_take (i := 8) (oi := _) (v := ?_) rfl (by kernel_rfl) (by kernel_rfl) (by kernel_rfl) (fun _ _ _ h => h) (Or.inl ⟨by rfl, ?_⟩) (by assumption) ?_
        rotate_left
        · (intro w hSw; (try dsimp only at hSw); go_simp; (try with_reducible rfl))
        (try simp only [uA, uB, uC, uD, uE, uF, uG, uH])
        refine wpAnyH_ready (rs := [9]) (by kernel_rfl) (by decide) (AllReadyH.cons rfl (fun K' hK => ?_) AllReadyH.nil)
        rw [if_pos (by rfl)]
        refine wp_allocW 28 rfl z28.toArray zero28 ?_
        intro W8 b8 s8 k8
        (try dsimp only)
        have QW : Below wr.heap.size wr W8 := Q7.trans (b8.mono Q7.size)
        have kz := k8
        refine hK.out _ _ (by exact SK.out W8 QW) (fun hHeld => ?_)
        clear hK
        (try simp only [uA, uB, uC, uD, uE, uF, uG, uH])
        refine wpAnyH_ready (rs := [10]) (by kernel_rfl) (by decide) (AllReadyH.cons rfl (fun K' hK => ?_) AllReadyH.nil)
        rw [if_pos (by rfl)]
        have hi28c : (Tryz.prog.info? 28).map (·.size) = some #[Value.int .i64 d'.e, .slice E1 p1 f1, .slice E2 p2 f2, .slice E3 p3 f3].size := hi28
        refine wp_store_row 28 (.tmp 5) (.tmp 21) rfl W7.heap.size #[.int .i64 d'.e, .slice E1 p1 f1, .slice E2 p2 f2, .slice E3 p3 f3] rfl rfl 28 _ kz hi28c rfl (by simp [Value.oneCell']) ?_
        have kx := setRow_heap W8 W7.heap.size _ #[.int .i64 d'.e, .slice E1 p1 f1, .slice E2 p2 f2, .slice E3 p3 f3] 28 (0, 0) kz
        have SB : Aside0 (StepB KS d c wr (W8.setRow W7.heap.size #[.int .i64 d'.e, .slice E1 p1 f1, .slice E2 p2 f2, .slice E3 p3 f3]) W7.heap.size code #[.int .i64 d'.e, .slice E1 p1 f1, .slice E2 p2 f2, .slice E3 p3 f3]) := ⟨⟨d', E1, p1, f1, E2, p2, f2, E3, p3, f3, rfl, har, fun h0 => by
          obtain ⟨n0, hn0, hd0⟩ := hdc h0
          exact ⟨n0, hn0, DirC.frame hd0 fun k h1 h2 => (setRow_other _ _ k _ (by omega)).trans (b8.block k h2)⟩⟩, kx, Q7.size, below_setRow QW _ Q7.size _⟩
        generalize hcx : (#[.int .i64 d'.e, .slice E1 p1 f1, .slice E2 p2 f2, .slice E3 p3 f3] : Array Value) = cx at *
        have QX := SB.out.below
        generalize W8.setRow W7.heap.size cx = W9 at *
        refine hK.out _ _ (by exact SK.out W9 QX) (fun hHeld => ?_)
        clear hK
        (try simp only [uA, uB, uC, uD, uE, uF, uG, uH])
        refine wpAnyH_take (i := 11) (oi := _) (v := ?_) rfl (by kernel_rfl) (by kernel_rfl) (by kernel_rfl) (fun _ _ _ h => h) (Or.inl ⟨by rfl, ?_⟩) (by assumption) ?_
        rotate_left
        · (intro w hSw; (try dsimp only at hSw); go_simp; (try with_reducible rfl))
        (try simp only [uA, uB, uC, uD, uE, uF, uG, uH])
        refine wpAnyH_done (by kernel_rfl) ?_ _
        clear hHeld hcx kx kz k8 b8 s8 QW Q7 hbc hdc har QX
        obtain ⟨tb, htb⟩ : ∃ tb, W7.heap.size = tb := ⟨_, rfl⟩
        rw [htb] at SB ⊢
        clear htb
        obtain ⟨⟨d2, E1, p1, f1, E2, p2, f2, E3, p3, f3, hcx, har, hdc⟩, kx, tble, qx⟩ := SB.out
        subst hcx
        have h91 : W9.heap[w.heap.size + 1]? = some (.cells #[.int .i64 d.e, .slice D1 m1 c1, .slice D2 m2 c2, .slice D3 m3 c3] 28 (0, 0)) := (qx.block _ hmb).trans BX.out
        have h90 := (qx.block w.heap.size (by omega)).trans ZB.out
        have hw9 := qx.size
        have hwi : IntKind.i64.wrap ((i : Int) + 1) = (i : Int) + 1 := by simp [IntKind.wrap, IntKind.bits, IntKind.signed]; omega
        have QX := Aside0.mk qx
        have AR := Aside0.mk har
        have HDC := Aside0.mk hdc
        have H90 := Aside0.mk h90
        have H91 := Aside0.mk h91
        have hi28c : (Tryz.prog.info? 28).map (·.size) = some #[Value.int .i64 d2.e, .slice E1 p1 f1, .slice E2 p2 f2, .slice E3 p3 f3].size := hi28
        have h1c : #[Value.int .i64 d2.e, .slice E1 p1 f1, .slice E2 p2 f2, .slice E3 p3 f3].all (·.oneCell') = true := by simp [Value.oneCell']
        have hzz : #[Value.int .i64 d.e, .slice D1 m1 c1, .slice D2 m2 c2, .slice D3 m3 c3].size = #[Value.int .i64 d2.e, .slice E1 p1 f1, .slice E2 p2 f2, .slice E3 p3 f3].size := rfl
        clear SB qx har hdc h90
        by_cases hz : code = 0
        · subst hz
          obtain ⟨n0, hn0, hd0⟩ := HDC.out rfl
          go_wp2_with (first | (refine wpList_load_row rfl 28 (.tmp 5) rfl tb rfl 28 _ (0, 0) _ kx Tryz.underlying28 rfl hi28c ?_) | (refine wpList_store_row rfl 28 (.tmp 3) (.tmp 25) rfl (w.heap.size + 1) _ rfl rfl 28 _ h91 hi28c hzz h1c ?_))
          go_roundg (n - (i + 1))
          case measure => omega
          case rel => exact ⟨i + 1, Nat.le_refl _, ⟨rfl, by rw [HCN.out]; omega, ⟨d2, E1, p1, f1, E2, p2, f2, E3, p3, f3, n0, by omega, by rw [TK.out]; exact Made.did c HM.out AR.out, setRow_heap _ _ _ _ _ _ H91.out, DirC.frame hd0 fun k h1 h2 => setRow_other _ _ k _ (by omega)⟩, (setRow_other _ _ w.heap.size _ (by omega)).trans H90.out, below_setRow (BL.out.trans (QX.out.mono (by omega))) _ (by omega) _⟩⟩
        · have hz' : (code == 0) = false := beq_eq_false_iff_ne.2 hz
          go_wp2_with fail
          go_roundg (n - (i + 1))
          case measure => omega
          case rel => exact ⟨i + 1, Nat.le_refl _, ⟨rfl, by rw [HCN.out]; omega, ⟨d, D1, m1, c1, D2, m2, c2, D3, m3, c3, n1, hn1, by rw [TK.out]; exact Made.not c code HM.out hz AR.out, H91.out, DirC.below DC.out QX.out⟩, H90.out, BL.out.trans (QX.out.mono (by omega))⟩⟩
      · rw [if_pos (by rfl)]
        refine wp_allocW 28 rfl z28.toArray zero28 ?_
        intro W8 b8 s8 k8
        (try dsimp only)
        have Q8 : Below wr.heap.size wr W8 := (Below.refl _ wr).drew.trans b8
        refine hK.out _ _ (by exact SK.out W8 Q8) (fun hHeld => ?_)
        clear hK
        (try simp only [uA, uB, uC, uD, uE, uF, uG, uH])
        refine wpAnyH_ready (rs := [5]) (by kernel_rfl) (by decide) (AllReadyH.cons rfl (fun K' hK => ?_) AllReadyH.nil)
        rw [if_pos (by rfl)]
        go_simp
        refine (C0.out _ (Q8)).mono ?_
        rintro e W7 ⟨code, d', E1, p1, f1, E2, p2, f2, E3, p3, f3, rfl, har, hdc, hbc⟩
        (try dsimp only)
        have QW : Below wr.heap.size wr W7 := Q8.trans (hbc.mono Q8.size)
        have s8' : W8.heap.size = wr.heap.size + 1 := s8
        have k8' : W8.heap[wr.heap.size]? = some (.cells z28.toArray 28 (0, 0)) := k8
        have kz := (hbc.block wr.heap.size (by omega)).trans k8'
        refine hK.out _ _ (by exact SK.out W7 QW) (fun hHeld => ?_)
        clear hK
        (try simp only [uA, uB, uC, uD, uE, uF, uG, uH])
        refine wpAnyH_take (i := 6) (oi := _) (v := ?_) rfl (by kernel_rfl) (by kernel_rfl) (by kernel_rfl) (fun _ _ _ h => h) (Or.inl ⟨by rfl, ?_⟩) (by assumption) ?_
        rotate_left
        · (intro w hSw; (try dsimp only at hSw); go_simp; (try with_reducible rfl))
        (try simp only [uA, uB, uC, uD, uE, uF, uG, uH])
        refine wpAnyH_take (i := 7) (oi := _) (v := ?_) rfl (by kernel_rfl) (by kernel_rfl) (by kernel_rfl) (fun _ _ _ h => h) (Or.inl ⟨by rfl, ?_⟩) (by assumption) ?_
        rotate_left
        · (intro w hSw; (try dsimp only at hSw); go_simp; (try with_reducible rfl))
        (try simp only [uA, uB, uC, uD, uE, uF, uG, uH])
        refine wpAnyH_take (i := 8) (oi := _) (v := ?_) rfl (by kernel_rfl) (by kernel_rfl) (by kernel_rfl) (fun _ _ _ h => h) (Or.inl ⟨by rfl, ?_⟩) (by assumption) ?_
        rotate_left
        · (intro w hSw; (try dsimp only at hSw); go_simp; (try with_reducible rfl))
        (try simp only [uA, uB, uC, uD, uE, uF, uG, uH])
        refine wpAnyH_ready (rs := [10]) (by kernel_rfl) (by decide) (AllReadyH.cons rfl (fun K' hK => ?_) AllReadyH.nil)
        rw [if_pos (by rfl)]
        have hi28c : (Tryz.prog.info? 28).map (·.size) = some #[Value.int .i64 d'.e, .slice E1 p1 f1, .slice E2 p2 f2, .slice E3 p3 f3].size := hi28
        refine wp_store_row 28 (.tmp 5) (.tmp 21) rfl wr.heap.size #[.int .i64 d'.e, .slice E1 p1 f1, .slice E2 p2 f2, .slice E3 p3 f3] rfl rfl 28 _ kz hi28c rfl (by simp [Value.oneCell']) ?_
        have kx := setRow_heap W7 wr.heap.size _ #[.int .i64 d'.e, .slice E1 p1 f1, .slice E2 p2 f2, .slice E3 p3 f3] 28 (0, 0) kz
        have SB : Aside0 (StepB KS d c wr (W7.setRow wr.heap.size #[.int .i64 d'.e, .slice E1 p1 f1, .slice E2 p2 f2, .slice E3 p3 f3]) wr.heap.size code #[.int .i64 d'.e, .slice E1 p1 f1, .slice E2 p2 f2, .slice E3 p3 f3]) := ⟨⟨d', E1, p1, f1, E2, p2, f2, E3, p3, f3, rfl, har, fun h0 => by
          obtain ⟨n0, hn0, hd0⟩ := hdc h0
          exact ⟨n0, (by omega), DirC.frame hd0 fun k h1 h2 => setRow_other _ _ k _ (by omega)⟩⟩, kx, (Nat.le_refl _), below_setRow QW _ (Nat.le_refl _) _⟩
        generalize hcx : (#[.int .i64 d'.e, .slice E1 p1 f1, .slice E2 p2 f2, .slice E3 p3 f3] : Array Value) = cx at *
        have QX := SB.out.below
        generalize W7.setRow wr.heap.size cx = W9 at *
        refine hK.out _ _ (by exact SK.out W9 QX) (fun hHeld => ?_)
        clear hK
        (try simp only [uA, uB, uC, uD, uE, uF, uG, uH])
        refine wpAnyH_take (i := 11) (oi := _) (v := ?_) rfl (by kernel_rfl) (by kernel_rfl) (by kernel_rfl) (fun _ _ _ h => h) (Or.inl ⟨by rfl, ?_⟩) (by assumption) ?_
        rotate_left
        · (intro w hSw; (try dsimp only at hSw); go_simp; (try with_reducible rfl))
        (try simp only [uA, uB, uC, uD, uE, uF, uG, uH])
        refine wpAnyH_done (by kernel_rfl) ?_ _
        clear hHeld hcx kx kz k8 b8 s8 QW Q8 hbc hdc har QX s8' k8'
        obtain ⟨tb, htb⟩ : ∃ tb, wr.heap.size = tb := ⟨_, rfl⟩
        have htl : wr.heap.size ≤ tb := by omega
        rw [htb] at ⊢
        replace SB : Aside0 (StepB KS d c wr W9 tb code cx) := ⟨by rw [← htb]; exact SB.out⟩
        clear htb
        obtain ⟨⟨d2, E1, p1, f1, E2, p2, f2, E3, p3, f3, hcx, har, hdc⟩, kx, tble, qx⟩ := SB.out
        subst hcx
        have h91 : W9.heap[w.heap.size + 1]? = some (.cells #[.int .i64 d.e, .slice D1 m1 c1, .slice D2 m2 c2, .slice D3 m3 c3] 28 (0, 0)) := (qx.block _ hmb).trans BX.out
        have h90 := (qx.block w.heap.size (by omega)).trans ZB.out
        have hw9 := qx.size
        have hwi : IntKind.i64.wrap ((i : Int) + 1) = (i : Int) + 1 := by simp [IntKind.wrap, IntKind.bits, IntKind.signed]; omega
        have QX := Aside0.mk qx
        have AR := Aside0.mk har
        have HDC := Aside0.mk hdc
        have H90 := Aside0.mk h90
        have H91 := Aside0.mk h91
        have hi28c : (Tryz.prog.info? 28).map (·.size) = some #[Value.int .i64 d2.e, .slice E1 p1 f1, .slice E2 p2 f2, .slice E3 p3 f3].size := hi28
        have h1c : #[Value.int .i64 d2.e, .slice E1 p1 f1, .slice E2 p2 f2, .slice E3 p3 f3].all (·.oneCell') = true := by simp [Value.oneCell']
        have hzz : #[Value.int .i64 d.e, .slice D1 m1 c1, .slice D2 m2 c2, .slice D3 m3 c3].size = #[Value.int .i64 d2.e, .slice E1 p1 f1, .slice E2 p2 f2, .slice E3 p3 f3].size := rfl
        clear SB qx har hdc h90
        by_cases hz : code = 0
        · subst hz
          obtain ⟨n0, hn0, hd0⟩ := HDC.out rfl
          go_wp2_with (first | (refine wpList_load_row rfl 28 (.tmp 5) rfl tb rfl 28 _ (0, 0) _ kx Tryz.underlying28 rfl hi28c ?_) | (refine wpList_store_row rfl 28 (.tmp 3) (.tmp 25) rfl (w.heap.size + 1) _ rfl rfl 28 _ h91 hi28c hzz h1c ?_))
          go_roundg (n - (i + 1))
          case measure => omega
          case rel => exact ⟨i + 1, Nat.le_refl _, ⟨rfl, by rw [HCN.out]; omega, ⟨d2, E1, p1, f1, E2, p2, f2, E3, p3, f3, n0, by omega, by rw [TK.out]; exact Made.did c HM.out AR.out, setRow_heap _ _ _ _ _ _ H91.out, DirC.frame hd0 fun k h1 h2 => setRow_other _ _ k _ (by omega)⟩, (setRow_other _ _ w.heap.size _ (by omega)).trans H90.out, below_setRow (BL.out.trans (QX.out.mono (by omega))) _ (by omega) _⟩⟩
        · have hz' : (code == 0) = false := beq_eq_false_iff_ne.2 hz
          go_wp2_with fail
          go_roundg (n - (i + 1))
          case measure => omega
          case rel => exact ⟨i + 1, Nat.le_refl _, ⟨rfl, by rw [HCN.out]; omega, ⟨d, D1, m1, c1, D2, m2, c2, D3, m3, c3, n1, hn1, by rw [TK.out]; exact Made.not c code HM.out hz AR.out, H91.out, DirC.below DC.out QX.out⟩, H90.out, BL.out.trans (QX.out.mono (by omega))⟩⟩
    · obtain rfl : i = n := by omega
      have hnl : ¬ (i : Int) < (i : Int) := by omega
      have hi28c : (Tryz.prog.info? 28).map (·.size) = some #[Value.int .i64 d.e, .slice D1 m1 c1, .slice D2 m2 c2, .slice D3 m3 c3].size := hi28
      have h1c : #[Value.int .i64 d.e, .slice D1 m1 c1, .slice D2 m2 c2, .slice D3 m3 c3].all (·.oneCell') = true := by simp [Value.oneCell']
      have hzz : z28.toArray.size = #[Value.int .i64 d.e, .slice D1 m1 c1, .slice D2 m2 c2, .slice D3 m3 c3].size := rfl
      have HM2 : Aside0 (Made KS dir0 cs d) := ⟨by
        have := HM.out
        rw [← HCN.out, List.take_length] at this
        exact this⟩
      clear HCN HM
      go_wp2_with (first | (refine wpList_load_row rfl 28 (.tmp 3) rfl (w.heap.size + 1) rfl 28 _ (0, 0) _ hbox Tryz.underlying28 rfl hi28c ?_) | (refine wpList_store_row rfl 28 (.tmp 2) (.tmp 26) rfl w.heap.size _ rfl rfl 28 _ zb hi28c hzz h1c ?_))
      have hgf := setRow_heap wr w.heap.size _ #[Value.int .i64 d.e, .slice D1 m1 c1, .slice D2 m2 c2, .slice D3 m3 c3] 28 (0, 0) zb
      refine bodyPost_ret (results_cell_row rfl _ _ w.heap.size 28 _ (0, 0) _ rfl hgf Tryz.underlying28 rfl hi28c) rfl ?_
      exact ⟨d, D1, m1, c1, D2, m2, c2, D3, m3, c3, rfl, HM2.out, DirR.of (DirC.frame DC.out fun k h1 h2 => setRow_other _ _ k _ (by omega)), below_setRow BL.out _ (Nat.le_refl _) _⟩
end Go.Proofs.YtadkeohohehmcaaGreatDoor.Top
end
section
/- The law's long: whatever it answers, what it lets in is short. -/
namespace Go.Proofs.YtadkeohohehmcaaGreatDoor.Top
open Go.RowKit Go.Proofs.YtadkeohohehmcaaGreatDoorW.PrintWords Go.Proofs.YtadkeohohehmcaaGreatDoorW.PrintLast Go.Proofs.YtadkeohohehmcaaGreatDoorW.PrintMore Go.Proofs.YtadkeohohehmcaaGreatDoor.PTop
set_option linter.unusedVariables false
set_option linter.unusedSimpArgs false
attribute [local go_sem] Oper.semAt_some
def LonPost (n : Nat) (w : World) (e : Ending) (w' : World) : Prop := ∃ b : Bool, e = .returned (.bool b) ∧ (b = false → n ≤ 200) ∧ Below w.heap.size w w'
structure LonL (n : Nat) (w wr : World) (s3 : Value) (i : Nat) : Prop where
  ix : s3 = .int .i64 (i : Int)
  le : i ≤ n
  below : Below w.heap.size w wr
set_option maxHeartbeats 8000000 in
set_option maxRecDepth 100000 in
theorem long_c (cs : List Cmd) (v : Value) (w : World) (hr : CsR w v cs) (hp : ∀ c ∈ cs, c.root.length = 32) :
    Calls Tryz.prog 4 #[v] w fun e w' => LonPost cs.length w e w' := by
  obtain ⟨A, cap, rfl, hcap, hra⟩ := hr
  have HR := Aside0.mk hra
  have HP := Aside0.mk hp
  obtain ⟨n, hcn⟩ : ∃ n, cs.length = n := ⟨_, rfl⟩
  have HCN := Aside0.mk hcn
  rw [hcn] at hcap ⊢
  clear hra hp hcn
  have PT : Aside0 (∀ W, Below w.heap.size w W → LonPost n w (.returned (.bool true)) W) := ⟨fun W hW => ⟨true, rfl, fun h => absurd h (by decide), hW⟩⟩
  go_enter Tryz.func4, Tryz.ntmps4
  by_cases h200 : 200 < n
  · have hi : (n : Int) > 200 := by omega
    have hi' : (200 : Int) < (n : Int) := by omega
    go_wp2_with fail
    go_ret
    exact PT.out _ (Below.refl _ _)
  · have hi : ¬ (n : Int) > 200 := by omega
    have hi' : ¬ (200 : Int) < (n : Int) := by omega
    have PF : Aside0 (∀ W, Below w.heap.size w W → LonPost n w (.returned (.bool false)) W) := ⟨fun W hW => ⟨false, rfl, fun _ => by omega, hW⟩⟩
    go_upto_region 4 with fail
    clear hi hi'
    go_loopg [3] n (fun gg s3 wr => ∃ i : Nat, n - i ≤ gg ∧ Aside (LonL n w wr s3 i))
    case atStart => exact ⟨0, by omega, ⟨rfl, by omega, Below.refl _ _⟩⟩
    case round =>
      obtain ⟨i, hgg, L⟩ := hrel
      have LL := Aside0.mk L.out
      obtain rfl := LL.out.ix
      have hle := LL.out.le
      have BL := Aside0.mk LL.out.below
      clear L LL
      by_cases hin : i < n
      · have hi0 : (i : Int) < (n : Int) := by omega
        have hge : (0 : Int) ≤ (i : Int) := by omega
        have hlc : i < cs.length := by rw [HCN.out]; exact hin
        have hx : cs[i]? = some cs[i] := List.getElem?_eq_getElem hlc
        obtain ⟨b, off, rfl, hcs⟩ := HR.out (by omega)
        have rl : ∀ j u, (ccells cs[i])[j]? = some u → wr.cell? ⟨b, off + i * 38 + j, none⟩ = some u := fun j u hj => by
          have h1 := hcs _ _ (csC_at cs HP.out i _ hx j u hj)
          rw [Nat.add_assoc]
          exact (World.cell?_of_block (w := w) (BL.out.block b (block_lt_of_cell h1))).trans h1
        have r3 : wr.cell? ⟨b, off + i * 38 + 3, none⟩ = some (.string cs[i].u) := rl 3 _ rfl
        have r4 : wr.cell? ⟨b, off + i * 38 + 4, none⟩ = some (.string cs[i].key) := rl 4 _ rfl
        generalize cs[i].u = cu at *
        generalize cs[i].key = ck at *
        have hwi : IntKind.i64.wrap ((i : Int) + 1) = (i : Int) + 1 := by simp [IntKind.wrap, IntKind.bits, IntKind.signed]; omega
        clear rl hcs hx
        by_cases h1 : 1000 < cu.size
        · have h1i : (1000 : Int) < (cu.size : Int) := by omega
          go_wp2_with fail
          go_ret
          exact PT.out _ BL.out
        · have h1i : ¬ (1000 : Int) < (cu.size : Int) := by omega
          by_cases h2 : 1000 < ck.size
          · have h2i : (1000 : Int) < (ck.size : Int) := by omega
            go_wp2_with fail
            go_ret
            exact PT.out _ BL.out
          · have h2i : ¬ (1000 : Int) < (ck.size : Int) := by omega
            go_wp2_with fail
            go_roundg (n - (i + 1))
            case measure => omega
            case rel => exact ⟨i + 1, Nat.le_refl _, ⟨rfl, by omega, BL.out⟩⟩
      · obtain rfl : i = n := by omega
        have hnl : ¬ (i : Int) < (i : Int) := by omega
        go_wp2_with fail
        go_ret
        exact PF.out _ BL.out
end Go.Proofs.YtadkeohohehmcaaGreatDoor.Top
end
section
/- The law's works: a user is put, an epoch sealed. -/
namespace Go.Proofs.YtadkeohohehmcaaGreatDoor.Top
open Go.RowKit Go.Proofs.YtadkeohohehmcaaGreatDoorW.PrintWords Go.Proofs.YtadkeohohehmcaaGreatDoorW.PrintLast Go.Proofs.YtadkeohohehmcaaGreatDoorW.PrintMore Go.Proofs.YtadkeohohehmcaaGreatDoor.PTop
set_option linter.unusedVariables false
set_option linter.unusedSimpArgs false
attribute [local go_sem] Oper.semAt_some
def cW1 : Cmd := ⟨1, 1, 1, ⟨#[117]⟩, ⟨#[107]⟩, 0, List.replicate 32 0⟩
def cW2 : Cmd := ⟨4, 0, 0, ⟨#[]⟩, ⟨#[]⟩, 1, List.replicate 32 0⟩
theorem mayW1 : mayC cW1 = true := by simp [mayC, cmdEq, restK, zC, keyOk, winB, Lib.toList_data, cW1] <;> decide
theorem mayW2 : mayC cW2 = true := by simp [mayC, cmdEq, restE, zC, keyOk, winB, Lib.toList_data, cW2]
theorem made_one {KS : List Int} {c1 c2 : Cmd} {d : Dir} (h : Made KS dir0 [c1, c2] d) : ∃ d1, Made KS dir0 [c1] d1 ∧ ((∃ d', d' = d ∧ AppR KS d1 c2 0 d') ∨ (d = d1 ∧ ∃ code d', code ≠ 0 ∧ AppR KS d1 c2 code d')) := by
  generalize hl : [c1, c2] = l at h
  cases h with
  | nil => cases hl
  | did c h1 h2 =>
    rename_i l1 d1
    have : [c1] ++ [c2] = l1 ++ [c] := hl
    obtain ⟨e1, e2⟩ := List.append_inj' this rfl
    injection e2 with e2
    subst e1 e2
    exact ⟨d1, h1, Or.inl ⟨d, rfl, h2⟩⟩
  | not c code h1 h2 h3 =>
    rename_i l1 d'
    have : [c1] ++ [c2] = l1 ++ [c] := hl
    obtain ⟨e1, e2⟩ := List.append_inj' this rfl
    injection e2 with e2
    subst e1 e2
    exact ⟨d, h1, Or.inr ⟨rfl, code, d', h2, h3⟩⟩
theorem made_first {KS : List Int} {c1 : Cmd} {d : Dir} (h : Made KS dir0 [c1] d) : AppR KS dir0 c1 0 d ∨ (d = dir0 ∧ ∃ code d', code ≠ 0 ∧ AppR KS dir0 c1 code d') := by
  generalize hl : [c1] = l at h
  cases h with
  | nil => cases hl
  | did c h1 h2 =>
    rename_i l1 d1
    have : [] ++ [c1] = l1 ++ [c] := hl
    obtain ⟨e1, e2⟩ := List.append_inj' this rfl
    injection e2 with e2
    subst e1 e2
    generalize hn : ([] : List Cmd) = l0 at h1
    cases h1 with
    | nil => exact Or.inl h2
    | did _ _ _ => exact absurd hn (by simp)
    | not _ _ _ _ _ => exact absurd hn (by simp)
  | not c code h1 h2 h3 =>
    rename_i l1 d'
    have : [] ++ [c1] = l1 ++ [c] := hl
    obtain ⟨e1, e2⟩ := List.append_inj' this rfl
    injection e2 with e2
    subst e1 e2
    generalize hn : ([] : List Cmd) = l0 at h1
    cases h1 with
    | nil => exact Or.inr ⟨rfl, code, d', h2, h3⟩
    | did _ _ _ => exact absurd hn (by simp)
    | not _ _ _ _ _ => exact absurd hn (by simp)
theorem appW1 {KS : List Int} {code : Int} {d : Dir} (h : AppR KS dir0 cW1 code d) : code = 0 ∧ d.e = 0 ∧ d.us.length = 1 ∧ d.ss.length = 1 := by
  cases h with
  | form _ hm => rw [mayW1] at hm; cases hm
  | seal_ _ hm hk _ => exact absurd hk (by decide)
  | intent _ hm hk _ => exact absurd hk (by decide)
  | request _ i j hm hk hi hj hd =>
    have h1 : i = 0 := by have := hi.le; simpa [dir0] using this
    have h2 : j = 0 := by have := hj.le; simpa [dir0] using this
    subst h1 h2
    have hc : reqCode dir0 cW1 0 = 0 := by decide
    obtain rfl := hd hc
    refine ⟨hc, ?_, ?_, ?_⟩
    · have : thereS dir0.ss 0 cW1.c ↔ False := by decide
      unfold reqD
      rw [if_neg (fun h => this.1 h.1)]
      exact (addD_e dir0 cW1 0).1
    · have : thereS dir0.ss 0 cW1.c ↔ False := by decide
      have ha : addCode dir0 cW1 0 = 0 := by decide
      unfold reqD
      rw [if_neg (fun h => this.1 h.1)]
      unfold doneD
      dsimp only
      unfold addD
      rw [if_pos ha]
      unfold addUs
      rw [if_neg (by decide)]
      rfl
    · have : thereS dir0.ss 0 cW1.c ↔ False := by decide
      unfold reqD
      rw [if_neg (fun h => this.1 h.1)]
      unfold doneD ss1
      dsimp only
      rw [if_neg (fun h => this.1 h)]
      rfl
theorem appW2 {KS : List Int} {code : Int} {d d' : Dir} (h0 : d.e = 0) (h : AppR KS d cW2 code d') : code = 0 ∧ d'.e = 1 ∧ d'.us = d.us ∧ d'.ss = d.ss := by
  cases h with
  | form _ hm => rw [mayW2] at hm; cases hm
  | seal_ _ hm hk hd =>
    have he : cW2.e = d.e + 1 := by rw [h0]; rfl
    obtain rfl := hd he
    exact ⟨if_pos he, rfl, rfl, rfl⟩
  | intent _ hm hk _ => exact absurd hk (by decide)
  | request _ i j hm hk hi hj hd => exact absurd hk (by decide)
theorem works_made {KS : List Int} {d : Dir} (h : Made KS dir0 [cW1, cW2] d) : d.e = 1 ∧ d.us.length = 1 ∧ d.ss.length = 1 := by
  obtain ⟨d1, h1, h2⟩ := made_one h
  have f : d1.e = 0 ∧ d1.us.length = 1 ∧ d1.ss.length = 1 := by
    rcases made_first h1 with h1 | ⟨_, code, d', h3, h4⟩
    · exact (appW1 h1).2
    · exact absurd (appW1 h4).1 h3
  rcases h2 with ⟨d', rfl, h2⟩ | ⟨_, code, d', h3, h4⟩
  · obtain ⟨_, a, b, c⟩ := appW2 f.1 h2
    rw [b, c]
    exact ⟨a, f.2.1, f.2.2⟩
  · exact absurd (appW2 f.1 h4).1 h3
theorem rootW : ∀ c ∈ [cW1, cW2], PathOk c.root := fun c hc => by
  have : c.root = List.replicate 32 0 := by
    rcases List.mem_cons.1 hc with rfl | hc
    · rfl
    · rcases List.mem_cons.1 hc with rfl | hc
      · rfl
      · cases hc
  rw [this]
  exact zC_ok
set_option maxRecDepth 100000 in
theorem builtW1 : Tryz.prog.built 41 [(0, .int .i64 1), (1, .int .i64 1), (2, .int .i64 1), (3, .string ⟨#[117]⟩), (4, .string ⟨#[107]⟩)] = some (ccells cW1).toArray := by kernel_rfl
set_option maxRecDepth 100000 in
theorem builtW2 : Tryz.prog.built 41 [(0, .int .i64 4), (5, .int .i64 1)] = some (ccells cW2).toArray := by kernel_rfl
theorem csCW : csC [cW1, cW2] = ccells cW1 ++ ccells cW2 := by rw [csC, csC, csC, List.append_nil]
theorem fillW : Instr.fill (fun i => some (i * 38, 38)) ((Array.range (2 * 38)).map (fun t => (Value.agg (ccells zC).toArray).cells[t % (Value.agg (ccells zC).toArray).cells.size]!)) [(0, .agg (ccells cW1).toArray), (1, .agg (ccells cW2).toArray)] = some (csC [cW1, cW2]).toArray := by
  have h1 : (Value.agg (ccells cW1).toArray).cells.size = 38 := rfl
  have h2 : (Value.agg (ccells cW2).toArray).cells.size = 38 := rfl
  rw [csCW, fill_one _ _ 0 0 38 _ _ rfl h1 (by simp), fill_one _ _ 1 38 38 _ [] rfl h2 (by simp [Value.cells, ccells, cW1]), Instr.fill]
  congr 1
  simp [Value.cells, ccells, cW1, cW2, List.take_append, List.drop_append]
theorem z41 : ∃ i : TypeInfo, Tryz.prog.info? 41 = some i ∧ i.zero = some (.agg (ccells zC).toArray) ∧ i.size = 38 := by
  obtain ⟨i, hi, hz⟩ := Option.map_eq_some_iff.1 zero41
  refine ⟨i, hi, hz, ?_⟩
  have := size41
  rw [hi] at this
  injection this
set_option maxHeartbeats 8000000 in
set_option maxRecDepth 100000 in
theorem works_c (KS : List Int) (w : World) (hk : HKey KS w) : Calls Tryz.prog 8 #[] w fun e w' => e = .returned (.bool true) ∧ Below w.heap.size w w' := by
  have hk0 := hk.pos
  have MC : Aside0 (∀ (W : World) v, Below w.heap.size w W → Reads W 38 v 2 (csC [cW1, cW2]) → Calls Tryz.prog 5 #[v] W fun e w' => MadePost KS [cW1, cW2] W e w') := ⟨fun W v hW hr => made_c KS [cW1, cW2] v W (hk.below hW hk0) (CsR.of_reads hr) rootW (by decide)⟩
  obtain ⟨i41, j1, j2, j3⟩ := z41
  obtain ⟨W0, hW0⟩ : ∃ W0, w.alloc (.cells (csC [cW1, cW2]).toArray 41) = W0 := ⟨_, rfl⟩
  have b0 : Below w.heap.size w W0 := by rw [← hW0]; exact (Below.refl _ w).alloc (Nat.le_refl _) _
  have k0 : W0.heap[w.heap.size]? = some (.cells (csC [cW1, cW2]).toArray 41 (0, 0)) := by rw [← hW0]; exact blk_new w _
  have hR : Reads W0 38 (.slice (some ⟨w.heap.size, 0, none⟩) 2 2) 2 (csC [cW1, cW2]) := ⟨csC_len _ (fun c hc => (rootW c hc).len), Or.inr ⟨w.heap.size, 0, 2, rfl, Nat.le_refl _, fun j u hj => by
    rw [Nat.zero_add]
    exact cell_in (l := csC [cW1, cW2]) k0 hj⟩⟩
  have M0 := MC.out W0 _ b0 hR
  rw [← hW0] at M0
  replace M0 := Aside0.mk M0
  have HW0 := Aside0.mk hW0
  have B0 := Aside0.mk b0
  clear hk MC hR hW0 b0 k0
  go_enter Tryz.func8, Tryz.ntmps8
  go_upto_region 2 with (first | (refine wpList_build41 rfl 41 _ rfl _ rfl (ccells cW1).toArray builtW1 ?_) | (refine wpList_build41 rfl 41 _ rfl _ rfl (ccells cW2).toArray builtW2 ?_) | (refine wpList_buildSlice rfl 22 41 2 _ rfl (csC [cW1, cW2]).toArray i41 _ Tryz.underlying22 j1 j2 (by rw [j3]; decide) (by rw [j3]; decide) (by rw [j3]; exact fillW) ?_) | (go_at_call 5; refine M0.out.mono ?_; rintro e W1 ⟨d, D1, m1, c1, D2, m2, c2, D3, m3, c3, rfl, hmd, hdr, hb1⟩; refine Aside0.out ?_))
  refine ⟨?_⟩
  have b1 : Below w.heap.size w W1 := B0.out.trans ((HW0.out ▸ hb1).mono B0.out.size)
  obtain ⟨we, wu, ws⟩ := works_made hmd
  obtain ⟨E1, f1, g1, _⟩ := Reads.form hdr.us.choose_spec.1
  obtain ⟨E3, f3, g3, _⟩ := Reads.form hdr.ss
  have hm1 : m1 = 1 := by injection g1 with _ g _; rw [g, wu]
  have hm3 : m3 = 1 := by injection g3 with _ g _; rw [g, ws]
  subst hm1 hm3
  have WE := Aside0.mk we
  clear we
  clear hmd hdr hb1 g1 g3 wu ws M0 j1 j2 j3 i41
  go_upto_region 2 with (refine wpList_allocW rfl 28 rfl z28.toArray zero28 ?_; intro W2 b2 s2 k2; refine Aside0.out ?_)
  refine ⟨?_⟩
  have q2 : Below w.heap.size w W2 := b1.trans (b2.mono b1.size)
  have hi28c : (Tryz.prog.info? 28).map (·.size) = some #[Value.int .i64 d.e, .slice D1 1 c1, .slice D2 m2 c2, .slice D3 1 c3].size := hi28
  have h1c : #[Value.int .i64 d.e, .slice D1 1 c1, .slice D2 m2 c2, .slice D3 1 c3].all (·.oneCell') = true := by simp [Value.oneCell']
  have hzz : z28.toArray.size = #[Value.int .i64 d.e, .slice D1 1 c1, .slice D2 m2 c2, .slice D3 1 c3].size := rfl
  go_upto_region 2 with (refine wpList_store_row rfl 28 (.tmp 1) (.tmp 5) rfl W1.heap.size _ rfl rfl 28 _ k2 hi28c hzz h1c ?_)
  have kx := setRow_heap W2 W1.heap.size _ #[Value.int .i64 d.e, .slice D1 1 c1, .slice D2 m2 c2, .slice D3 1 c3] 28 (0, 0) k2
  have qx : Below w.heap.size w (W2.setRow W1.heap.size #[Value.int .i64 d.e, .slice D1 1 c1, .slice D2 m2 c2, .slice D3 1 c3]) := below_setRow q2 _ b1.size _
  obtain ⟨tb, htb⟩ : ∃ tb, W1.heap.size = tb := ⟨_, rfl⟩
  rw [htb] at kx qx ⊢
  generalize W2.setRow tb #[Value.int .i64 d.e, .slice D1 1 c1, .slice D2 m2 c2, .slice D3 1 c3] = W3 at *
  rw [WE.out] at kx
  have f0 : W3.cell? ⟨tb, 0, none⟩ = some (.int .i64 1) := by simp [World.cell?, kx]
  have f1 : W3.cell? ⟨tb, 1, none⟩ = some (.slice D1 1 c1) := by simp [World.cell?, kx]
  have f3 : W3.cell? ⟨tb, 3, none⟩ = some (.slice D3 1 c3) := by simp [World.cell?, kx]
  clear kx k2 hi28c h1c hzz q2 b2 s2 b1 htb B0 HW0
  have QX := Aside0.mk qx
  clear qx
  go_wp2_with fail
  go_ret
  exact ⟨rfl, QX.out⟩
end Go.Proofs.YtadkeohohehmcaaGreatDoor.Top
end
