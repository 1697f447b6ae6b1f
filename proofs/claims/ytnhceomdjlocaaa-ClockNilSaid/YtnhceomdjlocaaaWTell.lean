/- What Tell leaves of a watch. -/
import Derived.Test.YtnhceomdjlocaaaWatch
namespace Go.Proofs.Ytnhceomdjlocaaa.Clock
open Go.RowKit Go.Lib Go.MuLone Go.Proofs.YtnhceomdjlocaaaW.PrintWords Go.Proofs.YtnhceomdjlocaaaW.PrintLast Go.Proofs.YtnhceomdjlocaaaW.PrintMore
set_option linter.unusedVariables false
set_option linter.unusedSimpArgs false

/-- The first kk pairs have been told; nothing else has turned. -/
structure Lp (W wr : World) (a : Wa) (ps : List PairS) (x : Int) (kk : Nat) : Prop where
  os : wr.os = W.os
  tape : wr.tape = W.tape
  output : wr.output = W.output
  size : wr.heap.size = W.heap.size
  other : ∀ k, (ps.length = 0 ∨ k ≠ a.bp) → wr.heap[k]? = W.heap[k]?
  hp : 0 < ps.length → ∃ c, wr.heap[a.bp]? = some (.cells c 49 (0, 0)) ∧ ∀ j, j < ps.length → Nine c (j * 9) (if j < kk then tellP ps[j]! x else ps[j]!)
theorem Lp.drewN {W wr : World} {a : Wa} {ps : List PairS} {x : Int} {kk : Nat} (h : Lp W wr a ps x kk) (q : Nat) : Lp W (wr.drewN q) a ps x kk := ⟨h.os, h.tape, h.output, h.size, h.other, h.hp⟩
theorem Nine.same {c c' : Array Value} {off : Nat} {p : PairS} (h : Nine c off p) (k : ∀ i, off ≤ i → i < off + 9 → c'[i]? = c[i]?) : Nine c' off p := by
  obtain ⟨d0, d1, d2, d3, d4, d5, d6, d7, d8⟩ := h
  exact ⟨(k _ (by omega) (by omega)).trans d0, (k _ (by omega) (by omega)).trans d1, (k _ (by omega) (by omega)).trans d2, (k _ (by omega) (by omega)).trans d3, (k _ (by omega) (by omega)).trans d4, (k _ (by omega) (by omega)).trans d5, (k _ (by omega) (by omega)).trans d6, (k _ (by omega) (by omega)).trans d7, (k _ (by omega) (by omega)).trans d8⟩
theorem tell_step {W wr : World} {a : Wa} {ps : List PairS} {x : Int} {kk : Nat} (h : Lp W wr a ps x kk) (hk : kk < ps.length) (hs : Small ps[kk]!) :
    Calls Try.prog 27 #[.pointer (some ⟨a.bp, kk * 9, none⟩), .int .i64 x] wr fun e w' => e = .returned (.tuple #[]) ∧ Lp W w' a ps x (kk + 1) := by
  obtain ⟨c, hc, hn⟩ := h.hp (by omega)
  have hk9 := hn kk hk
  rw [if_neg (by omega)] at hk9
  refine (tell_any a.bp (kk * 9) ps[kk]! x wr c hs hc hk9).mono ?_
  rintro e w' ⟨rfl, c', hch, hsz, hnine, hout⟩
  refine ⟨rfl, ⟨hch.os.trans h.os, hch.tape.trans h.tape, hch.output.trans h.output, hch.size.trans h.size, fun k g => ?_, fun _ => ⟨c', hch.cells, fun j hj => ?_⟩⟩⟩
  · rcases g with g | g
    · omega
    · exact (hch.other k g).trans (h.other k (.inr g))
  · by_cases e : j = kk
    · subst e; rw [if_pos (by omega)]; exact hnine
    · have := hn j hj
      by_cases e2 : j < kk
      · rw [if_pos e2] at this
        rw [if_pos (by omega)]
        exact this.same (fun i h1 h2 => hout i (by omega))
      · rw [if_neg e2] at this
        rw [if_neg (by omega)]
        exact this.same (fun i h1 h2 => hout i (by omega))

theorem tell_nil (x : Int) (w : World) : Calls Try.prog 13 #[.pointer none, .int .i64 x] w fun e w' => e = .returned (.int .i64 3) ∧ Below w.heap.size w w' := by
  go_enter_defers Try.func13, Try.ntmps13
  go_wp2
  exact ⟨_, results_tmp rfl _ _ _, rfl, (Below.refl _ w).alloc (Nat.le_refl _) _⟩

theorem tell_no (a : Wa) (ns ts : List Int) (ps : List PairS) (w : World) (x : Int) (h : IsW w a ns ts ps) (hl : ns.length ≤ 1000) (hN : ∀ j, j < ns.length → 1 ≤ ns[j]! ∧ ns[j]! ≤ 7) (hno : ∀ i, i < ns.length → isN x ns[i]! = false) :
    Calls Try.prog 13 #[.pointer (some ⟨a.bw, 0, none⟩), .int .i64 x] w fun e w' => e = .returned (.int .i64 1) ∧ Below w.heap.size w w' := by
  have e21 : ∀ args w, (callFunc 21 args).run Try.prog w = .ok (.enter 21 args) w := enters_of Try.func21 (by kernel_rfl) rfl
  have hmf : ∀ (fn : Fn) (first cap : Array Value) (w : World), (Instr.makeFunc fn first cap).run Try.prog w = .ok (.func fn first cap) w := fun _ _ _ _ => rfl
  generalize hw1 : w.alloc (.cells #[.int .i64 x] 3) = w1
  have hb1 : Below w.heap.size w w1 := by subst hw1; exact (Below.refl _ w).alloc (Nat.le_refl _) _
  have h1 := h.below hb1
  have hx : w1.cell? ⟨w.heap.size, 0, none⟩ = some (.int .i64 x) := by subst hw1; simp
  have e0 := h1.c0
  have hcall := idxF ns x w.heap.size a.bn a.cn w1 (-1) hx h1.nc hN (by omega) (fun i g1 g2 g3 => by rw [hno i g1] at g2; cases g2) (fun g => rfl)
  clear hno h hN h1
  generalize ns.length = n at *
  go_enter_defers Try.func13, Try.ntmps13
  go_wp2_with (first | (go_at_fn 21; refine hcall.mono ?_; rintro e w' ⟨rfl, q, rfl⟩))
  exact ⟨_, results_tmp rfl _ _ _, rfl, pw_below_drewN hb1 _⟩

/-- Behind the lock: the node's ticks have turned, and the lock is held. -/
structure Lk (w1 W : World) (a : Wa) (n m j : Nat) (v : Int) : Prop where
  os : W.os = w1.os
  tape : W.tape = w1.tape
  output : W.output = w1.output
  size : W.heap.size = w1.heap.size
  bw : W.heap[a.bw]? = some (.cells ((a.cells n m).setIfInBounds 2 (.int .i32 1)) 47 (0, 0))
  bt : ∀ c, w1.heap[a.bt]? = some (.cells c 54 (0, 0)) → W.heap[a.bt]? = some (.cells (c.setIfInBounds j (.int .i64 v)) 54 (0, 0))
  other : ∀ k, k ≠ a.bw → k ≠ a.bt → W.heap[k]? = w1.heap[k]?
theorem IsW.ne_wt {w : World} {a : Wa} {ns ts : List Int} {ps : List PairS} (h : IsW w a ns ts ps) : a.bw ≠ a.bt := fun e => by
  obtain ⟨c, k, _⟩ := h.ht
  rw [← e, h.hw] at k
  simp at k
theorem Lk.make {w1 : World} {a : Wa} {ns ts : List Int} {ps : List PairS} (h : IsW w1 a ns ts ps) (j q : Nat) (v : Int) :
    Lk w1 (((w1.drewN q).setCell ⟨a.bt, j, none⟩ (.int .i64 v)).setCell ⟨a.bw, 2, none⟩ (.int .i32 1)) a ns.length ps.length j v := by
  have hne := h.ne_wt
  have hw := h.hw
  refine ⟨rfl, rfl, rfl, by simp [World.setCell, World.drewN], ?_, fun c hc => ?_, fun k h1 h2 => ?_⟩
  · have h2 : ((w1.drewN q).setCell ⟨a.bt, j, none⟩ (.int .i64 v)).heap[a.bw]? = some (.cells (a.cells ns.length ps.length) 47 (0, 0)) := (Below.heap_setCell _ _ _ _ hne).trans hw
    simp [World.setCell, Array.getElem?_modify] at h2 ⊢
    simp [h2]
  · rw [Below.heap_setCell _ _ _ _ (Ne.symm hne)]
    have hc2 : (w1.drewN q).heap[a.bt]? = some (.cells c 54 (0, 0)) := hc
    simp [World.setCell, Array.getElem?_modify]
    exact ⟨_, hc, rfl⟩
  · rw [Below.heap_setCell _ _ _ _ h1, Below.heap_setCell _ _ _ _ h2]
    rfl
theorem Lk.c4 {w1 W : World} {a : Wa} {n m j : Nat} {v : Int} (h : Lk w1 W a n m j v) : W.cell? ⟨a.bw, 4, none⟩ = some (.slice a.pa m a.cp) := by simp [World.cell?, h.bw, Wa.cells]

theorem IsW.ne_p {w : World} {a : Wa} {ns ts : List Int} {ps : List PairS} (h : IsW w a ns ts ps) (g : 0 < ps.length) : a.bw ≠ a.bp ∧ a.bt ≠ a.bp := by
  obtain ⟨_, c, k, _⟩ := h.hp g
  obtain ⟨ct, kt, _⟩ := h.ht
  refine ⟨fun e => ?_, fun e => ?_⟩
  · rw [← e, h.hw] at k; simp at k
  · rw [← e, kt] at k; simp at k
theorem IsW.ne_n {w : World} {a : Wa} {ns ts : List Int} {ps : List PairS} (h : IsW w a ns ts ps) : a.bn ≠ a.bw ∧ a.bn ≠ a.bt := by
  obtain ⟨c, k, _⟩ := h.hn
  obtain ⟨ct, kt, _⟩ := h.ht
  refine ⟨fun e => ?_, fun e => ?_⟩
  · rw [e, h.hw] at k; simp at k
  · rw [e, kt] at k; simp at k
section
variable {w w1 W wr : World} {a : Wa} {ns ts : List Int} {ps : List PairS} {x : Int} {j kk : Nat} {v : Int}
theorem Lp.start (h : IsW w a ns ts ps) (hb : Below w.heap.size w w1) (L : Lk w1 W a ns.length ps.length j v) : Lp W W a ps x 0 := by
  refine ⟨rfl, rfl, rfl, rfl, fun _ _ => rfl, fun g => ?_⟩
  obtain ⟨_, c, k, k2⟩ := h.hp g
  have hne := h.ne_p g
  refine ⟨c, (L.other _ (Ne.symm hne.1) (Ne.symm hne.2)).trans ((hb.block _ (heap_lt k)).trans k), fun i hi => ?_⟩
  rw [if_neg (by omega)]; exact k2 i hi
theorem Lp.bw (h : IsW w a ns ts ps) (L : Lk w1 W a ns.length ps.length j v) (A : Lp W wr a ps x kk) : wr.heap[a.bw]? = some (.cells ((a.cells ns.length ps.length).setIfInBounds 2 (.int .i32 1)) 47 (0, 0)) := by
  rw [A.other a.bw]
  · exact L.bw
  · rcases Nat.eq_zero_or_pos ps.length with g | g
    · exact .inl g
    · exact .inr (h.ne_p g).1
theorem Lp.c4 (h : IsW w a ns ts ps) (L : Lk w1 W a ns.length ps.length j v) (A : Lp W wr a ps x kk) : wr.cell? ⟨a.bw, 4, none⟩ = some (.slice a.pa ps.length a.cp) := by
  have := A.bw h L
  simp [World.cell?, this, Wa.cells]
theorem Lp.cx (h : IsW w a ns ts ps) (L : Lk w1 W a ns.length ps.length j v) (A : Lp W wr a ps x kk) (hx : w1.heap[w.heap.size]? = some (.cells #[.int .i64 x] 3 (0, 0))) : wr.cell? ⟨w.heap.size, 0, none⟩ = some (.int .i64 x) := by
  have h1 : w.heap.size ≠ a.bw := by have := heap_lt h.hw; omega
  have h2 : w.heap.size ≠ a.bt := by obtain ⟨c, k, _⟩ := h.ht; have := heap_lt k; omega
  have h3 : wr.heap[w.heap.size]? = some (.cells #[.int .i64 x] 3 (0, 0)) := by
    rw [A.other, L.other _ h1 h2, hx]
    rcases Nat.eq_zero_or_pos ps.length with g | g
    · exact .inl g
    · refine .inr ?_
      obtain ⟨_, c, k, _⟩ := h.hp g
      have := heap_lt k; omega
  simp [World.cell?, h3]
theorem Lp.fin (h : IsW w a ns ts ps) (hb : Below w.heap.size w w1) (L : Lk w1 W a ns.length ps.length j v) (A : Lp W wr a ps x ps.length) (hj : j < ns.length) :
    IsW (wr.setCell ⟨a.bw, 2, none⟩ (.int .i32 0)) a ns (ts.set j v) (ps.map (tellP · x)) ∧ (∀ n0, n0 ≤ w.heap.size → n0 ≤ a.bw → n0 ≤ a.bt → n0 ≤ a.bp → Below n0 w (wr.setCell ⟨a.bw, 2, none⟩ (.int .i32 0))) ∧ ∀ (k : Nat) (c : Array Value) (t : TypeId), w.heap[k]? = some (Obj.cells c t (0, 0)) → t ≠ 54 → t ≠ 49 → (wr.setCell ⟨a.bw, 2, none⟩ (.int .i32 0)).heap[k]? = w.heap[k]? := by
  have hbw := A.bw h L
  have oth : ∀ k, k ≠ a.bw → (wr.setCell ⟨a.bw, 2, none⟩ (.int .i32 0)).heap[k]? = wr.heap[k]? := fun k hk => Below.heap_setCell _ _ _ _ hk
  refine ⟨⟨?_, ?_, ?_, by rw [List.length_set]; exact h.tl, fun g => ?_⟩, fun n0 g0 g1 g2 g3 => ⟨?_, ?_, ?_, ?_, fun k hk => ?_⟩, fun k c t hk ht1 ht2 => ?_⟩
  · simp [World.setCell, Array.getElem?_modify, hbw, Wa.cells]
  · obtain ⟨c, k, k2⟩ := h.hn
    have hne := h.ne_n
    refine ⟨c, ?_, k2⟩
    rw [oth _ hne.1, A.other, L.other _ hne.1 hne.2, hb.block _ (heap_lt k), k]
    rcases Nat.eq_zero_or_pos ps.length with g | g
    · exact .inl g
    · refine .inr (fun e => ?_)
      obtain ⟨_, c3, k3, _⟩ := h.hp g
      rw [e, k3] at k; simp at k
  · obtain ⟨c, k, k2⟩ := h.ht
    have k1 := L.bt c ((hb.block _ (heap_lt k)).trans k)
    refine ⟨c.setIfInBounds j (.int .i64 v), ?_, fun i hi => ?_⟩
    · rw [oth _ (Ne.symm h.ne_wt), A.other, k1]
      rcases Nat.eq_zero_or_pos ps.length with g | g
      · exact .inl g
      · exact .inr (h.ne_p g).2
    · have hti : i < ts.length := by rw [h.tl]; exact hi
      have htj : j < ts.length := by rw [h.tl]; exact hj
      have hcj : j < c.size := (Array.getElem?_eq_some_iff.1 (k2 j hj)).1
      rw [Array.getElem?_setIfInBounds, getElem!_pos (ts.set j v) i (by rw [List.length_set]; exact hti), List.getElem_set]
      by_cases e : j = i
      · subst e
        simp [hcj]
      · rw [if_neg e, if_neg e, k2 i hi, getElem!_pos ts i hti]
  · have g' : 0 < ps.length := by simpa using g
    obtain ⟨k0, _⟩ := h.hp g'
    obtain ⟨c, k1, k2⟩ := A.hp g'
    refine ⟨k0, c, (oth _ (Ne.symm (h.ne_p g').1)).trans k1, fun i hi => ?_⟩
    have hi' : i < ps.length := by simpa using hi
    have := k2 i hi'
    rw [if_pos hi'] at this
    rw [getElem!_pos (ps.map (tellP · x)) i hi, List.getElem_map, ← getElem!_pos ps i hi']
    exact this
  · exact A.os.trans (L.os.trans hb.os)
  · exact A.tape.trans (L.tape.trans hb.tape)
  · exact A.output.trans (L.output.trans hb.output)
  · have := A.size; have := L.size; have := hb.size
    simp [World.setCell]; omega
  · rw [oth k (by omega), A.other k (.inr (by omega)), L.other k (by omega) (by omega), hb.block k (by omega)]
  · by_cases e : k = a.bw
    · subst e
      have h1 := h.hw
      rw [h1]
      simp [World.setCell, Array.getElem?_modify, hbw, Wa.cells]
    · have e2 : k ≠ a.bt := fun e2 => by
        obtain ⟨c2, k2, _⟩ := h.ht
        rw [e2, k2] at hk
        simp at hk
        exact ht1 hk.2.symm
      rw [oth k e, A.other k, L.other k e e2, hb.block k (heap_lt hk)]
      rcases Nat.eq_zero_or_pos ps.length with g | g
      · exact .inl g
      · refine .inr (fun e3 => ?_)
        obtain ⟨_, c3, k3, _⟩ := h.hp g
        rw [e3, k3] at hk
        simp at hk
        exact ht2 hk.2.symm
end

set_option maxHeartbeats 8000000 in
set_option maxRecDepth 100000 in
theorem tell_yes (a : Wa) (ns ts : List Int) (ps : List PairS) (w : World) (x : Int) (j : Nat) (h : IsW w a ns ts ps) (hl : ns.length ≤ 1000) (hm : ps.length ≤ 1000) (hN : ∀ j, j < ns.length → 1 ≤ ns[j]! ∧ ns[j]! ≤ 7)
    (hT : 0 ≤ ts[j]! ∧ ts[j]! ≤ 1000000) (hP : ∀ i, i < ps.length → Small ps[i]!)
    (hj : j < ns.length) (hx : isN x ns[j]! = true) (hno : ∀ i, i < j → isN x ns[i]! = false) :
    Calls Try.prog 13 #[.pointer (some ⟨a.bw, 0, none⟩), .int .i64 x] w fun e w' => e = .returned (.int .i64 0) ∧
      IsW w' a ns (ts.set j (if x > 0 then ts[j]! + 1 else 0)) (ps.map (tellP · x)) ∧ (∀ n0, n0 ≤ w.heap.size → n0 ≤ a.bw → n0 ≤ a.bt → n0 ≤ a.bp → Below n0 w w') ∧ ∀ (k : Nat) (c : Array Value) (t : TypeId), w.heap[k]? = some (Obj.cells c t (0, 0)) → t ≠ 54 → t ≠ 49 → w'.heap[k]? = w.heap[k]? := by
  have e21 : ∀ args w, (callFunc 21 args).run Try.prog w = .ok (.enter 21 args) w := enters_of Try.func21 (by kernel_rfl) rfl
  have e27 : ∀ args w, (callFunc 27 args).run Try.prog w = .ok (.enter 27 args) w := enters_of Try.func27 (by kernel_rfl) rfl
  have hmf : ∀ (fn : Fn) (first cap : Array Value) (w : World), (Instr.makeFunc fn first cap).run Try.prog w = .ok (.func fn first cap) w := fun _ _ _ _ => rfl
  generalize hw1 : w.alloc (.cells #[.int .i64 x] 3) = w1
  have hb1 : Below w.heap.size w w1 := by subst hw1; exact (Below.refl _ w).alloc (Nat.le_refl _) _
  have h1 := h.below hb1
  have hx1 : w1.cell? ⟨w.heap.size, 0, none⟩ = some (.int .i64 x) := by subst hw1; simp
  have hxb : w1.heap[w.heap.size]? = some (.cells #[.int .i64 x] 3 (0, 0)) := by subst hw1; exact heap_alloc_new w _
  have e0 := h1.c0; have e1 := h1.c1; have e4 := h1.c4; have e2 := h1.c2; have f2 := h1.f2
  have tc := h1.tc j hj
  have hcall := idxF ns x w.heap.size a.bn a.cn w1 j hx1 h1.nc hN (by omega) (fun i g1 g2 g3 => by
      rcases Nat.lt_trichotomy i j with k | k | k
      · rw [hno i k] at g2; cases g2
      · rw [k]
      · rw [g3 j k] at hx; cases hx) (fun g => by rw [g j hj] at hx; cases hx)
  have hj1 : (j : Int) < (ns.length : Int) := by omega
  -- the world behind the lock
  have hne := h1.ne_wt
  have ft : w1.frozen? ⟨a.bt, j, none⟩ = false := by obtain ⟨c, k, _⟩ := h1.ht; simp [World.frozen?, k]
  have LK := Aside0.mk (fun q v => Lk.make h1 j q v)
  have HH := Aside0.mk h
  have HP := Aside0.mk hP
  have HHP := Aside0.mk h.hp
  have HPA : Aside0 (0 < ps.length → a.pa = some ⟨a.bp, 0, none⟩) := Aside0.mk (fun g => (h.hp g).1)
  clear hno hN hP h h1 hx
  generalize hpl : ps.length = m at *
  generalize hnl : ns.length = n at *
  generalize htv : ts[j]! = tv at *
  by_cases hpos : x > 0
  · rw [if_pos hpos]
    go_enter_defers Try.func13, Try.ntmps13
    go_wp2_with fail
    refine hcall.mono ?_
    rintro e w' ⟨rfl, q, rfl⟩
    go_wp2_with fail
    refine (add64 a.bt j tv (w1.drewN q) tc ft hT.1 hT.2).mono ?_
    rintro e w' ⟨rfl, rfl⟩
    go_wp2_with fail
    refine (lock_free Try.muLib ⟨a.bw, 2, none⟩ ((w1.drewN q).setCell ⟨a.bt, j, none⟩ (.int .i64 (tv + 1))) ?_ ?_).mono ?_
    · exact (World.cell?_setCell_other _ ⟨a.bt, j, none⟩ ⟨a.bw, 2, none⟩ _ (by simp [hne])).trans e2
    · simpa using f2
    rintro e w' ⟨rfl, rfl⟩
    have L := LK.out q (tv + 1)
    generalize (((w1.drewN q).setCell ⟨a.bt, j, none⟩ (.int .i64 (tv + 1))).setCell ⟨a.bw, 2, none⟩ (.int .i32 1)) = W at L ⊢
    have s4 := L.c4
    rw [← hnl, ← hpl] at L
    have LL := Aside0.mk L
    clear L
    go_wp2_with fail
    go_loopg [45] m (fun gg s45 wr => ∃ kk : Nat, kk ≤ m ∧ m - kk ≤ gg ∧ s45 = .int .i64 kk ∧ Aside (Lp W wr a ps x kk))
    case atStart => exact ⟨0, by omega, by omega, rfl, Lp.start HH.out hb1 LL.out⟩
    case round =>
      obtain ⟨kk, hkk, hg, rfl, A⟩ := hrel
      by_cases hlt : kk < m
      · have hltz : (kk : Int) < (m : Int) := by omega
        have hpa := HPA.out (by omega)
        have A4 : wr.cell? ⟨a.bw, 4, none⟩ = some (.slice (some ⟨a.bp, 0, none⟩) m a.cp) := by rw [← hpa, ← hpl]; exact Lp.c4 HH.out LL.out A.out
        have Ax : wr.cell? ⟨w.heap.size, 0, none⟩ = some (.int .i64 x) := Lp.cx HH.out LL.out A.out hxb
        have hst := HP.out kk hlt
        have hlp : kk < ps.length := by omega
        clear hpa
        go_wp2_with fail
        go_still_tail 7, (by kernel_rfl)
        have A2 : Lp W wr.drew a ps x kk := A.out.drewN 1
        change wpList _ _ _ _ _ wr.drew
        generalize wr.drew = w2 at A2 ⊢
        have hcall2 := tell_step A2 hlp hst
        clear A2
        go_wp2_with fail
        refine hcall2.mono ?_
        rintro e w3 ⟨rfl, A3⟩
        have A3 := Aside0.mk A3
        go_wp2
        go_roundg (m - (kk + 1))
        case measure => omega
        case rel => exact ⟨kk + 1, by omega, by omega, by go_num, A3.out⟩
      · have hltz : ¬ (kk : Int) < (m : Int) := by omega
        have : kk = ps.length := by omega
        subst this
        go_wp2
        have hbw := Lp.bw HH.out LL.out A.out
        refine leaves_cons (f := 26) (args := #[.pointer (some ⟨a.bw, 2, none⟩)]) (by simp) (by simp [go_sem]) ?_
        refine (unlock_deferred Try.muLib ⟨a.bw, 2, none⟩ .returning _ ?_ ?_).mono ?_
        · simp [World.cell?, hbw, Wa.cells]
        · simp [World.frozen?, hbw]
        rintro e u' w'' ⟨rfl, rfl, rfl⟩
        exact ⟨_, results_tmp rfl _ _ _, rfl, Lp.fin HH.out hb1 LL.out A.out (by omega)⟩
  · rw [if_neg hpos]
    go_enter_defers Try.func13, Try.ntmps13
    go_wp2_with fail
    refine hcall.mono ?_
    rintro e w' ⟨rfl, q, rfl⟩
    go_wp2_with fail
    refine (store64 a.bt j tv (w1.drewN q) tc ft).mono ?_
    rintro e w' ⟨rfl, rfl⟩
    go_wp2_with fail
    refine (lock_free Try.muLib ⟨a.bw, 2, none⟩ ((w1.drewN q).setCell ⟨a.bt, j, none⟩ (.int .i64 0)) ?_ ?_).mono ?_
    · exact (World.cell?_setCell_other _ ⟨a.bt, j, none⟩ ⟨a.bw, 2, none⟩ _ (by simp [hne])).trans e2
    · simpa using f2
    rintro e w' ⟨rfl, rfl⟩
    have L := LK.out q 0
    generalize (((w1.drewN q).setCell ⟨a.bt, j, none⟩ (.int .i64 0)).setCell ⟨a.bw, 2, none⟩ (.int .i32 1)) = W at L ⊢
    have s4 := L.c4
    rw [← hnl, ← hpl] at L
    have LL := Aside0.mk L
    clear L
    go_wp2_with fail
    go_loopg [45] m (fun gg s45 wr => ∃ kk : Nat, kk ≤ m ∧ m - kk ≤ gg ∧ s45 = .int .i64 kk ∧ Aside (Lp W wr a ps x kk))
    case atStart => exact ⟨0, by omega, by omega, rfl, Lp.start HH.out hb1 LL.out⟩
    case round =>
      obtain ⟨kk, hkk, hg, rfl, A⟩ := hrel
      by_cases hlt : kk < m
      · have hltz : (kk : Int) < (m : Int) := by omega
        have hpa := HPA.out (by omega)
        have A4 : wr.cell? ⟨a.bw, 4, none⟩ = some (.slice (some ⟨a.bp, 0, none⟩) m a.cp) := by rw [← hpa, ← hpl]; exact Lp.c4 HH.out LL.out A.out
        have Ax : wr.cell? ⟨w.heap.size, 0, none⟩ = some (.int .i64 x) := Lp.cx HH.out LL.out A.out hxb
        have hst := HP.out kk hlt
        have hlp : kk < ps.length := by omega
        clear hpa
        go_wp2_with fail
        go_still_tail 7, (by kernel_rfl)
        have A2 : Lp W wr.drew a ps x kk := A.out.drewN 1
        change wpList _ _ _ _ _ wr.drew
        generalize wr.drew = w2 at A2 ⊢
        have hcall2 := tell_step A2 hlp hst
        clear A2
        go_wp2_with fail
        refine hcall2.mono ?_
        rintro e w3 ⟨rfl, A3⟩
        have A3 := Aside0.mk A3
        go_wp2
        go_roundg (m - (kk + 1))
        case measure => omega
        case rel => exact ⟨kk + 1, by omega, by omega, by go_num, A3.out⟩
      · have hltz : ¬ (kk : Int) < (m : Int) := by omega
        have : kk = ps.length := by omega
        subst this
        go_wp2
        have hbw := Lp.bw HH.out LL.out A.out
        refine leaves_cons (f := 26) (args := #[.pointer (some ⟨a.bw, 2, none⟩)]) (by simp) (by simp [go_sem]) ?_
        refine (unlock_deferred Try.muLib ⟨a.bw, 2, none⟩ .returning _ ?_ ?_).mono ?_
        · simp [World.cell?, hbw, Wa.cells]
        · simp [World.frozen?, hbw]
        rintro e u' w'' ⟨rfl, rfl, rfl⟩
        exact ⟨_, results_tmp rfl _ _ _, rfl, Lp.fin HH.out hb1 LL.out A.out (by omega)⟩
end Go.Proofs.Ytnhceomdjlocaaa.Clock
