/- ledger.Run. -/
import Derived.Test.YtpjachbmllklgaaLgC
namespace Go.Proofs.Ytpjachbmllklgaa.Rng
open Go.RowKit Go.Shelf Go.Proofs.YtpjachbmllklgaaW.PrintWords
set_option linter.unusedVariables false
set_option linter.unusedSimpArgs false
attribute [local go_sem] Oper.semAt_some

/-- The run of terms, from the last one on: what the loop holds. -/
def runF (index : Int) : List (Int × Int) → Int × Int × Bool → Int
  | [], (f, _, _) => f
  | (n, t) :: r, (f, o, b) => if n > index then runF index r (f, o, b) else if b = true ∧ t ≠ o then f else runF index r (n, t, true)
theorem runF_skip {index n t : Int} {r : List (Int × Int)} {z : Int × Int × Bool} (h : n > index) : runF index ((n, t) :: r) z = runF index r z := by
  obtain ⟨f, o, b⟩ := z
  rw [runF, if_pos h]
theorem runF_stop {index n t f o : Int} {b : Bool} {r : List (Int × Int)} (h : ¬ n > index) (h2 : b = true ∧ t ≠ o) : runF index ((n, t) :: r) (f, o, b) = f := by rw [runF, if_neg h, if_pos h2]
theorem runF_next {index n t f o : Int} {b : Bool} {r : List (Int × Int)} (h : ¬ n > index) (h2 : ¬ (b = true ∧ t ≠ o)) : runF index ((n, t) :: r) (f, o, b) = runF index r (n, t, true) := by rw [runF, if_neg h, if_neg h2]
theorem heap_set_same {Y : World} {p : Nat} {u v : Value} {t : TypeId} (h : Y.heap[p]? = some (.cells #[u] t (0, 0))) : (Y.setCell ⟨p, 0, none⟩ v).heap[p]? = some (.cells #[v] t (0, 0)) := by
  simp [World.setCell, Array.getElem?_modify, h]
theorem heap_set_other {Y : World} {p k : Nat} (hk : k ≠ p) (i : Nat) (v : Value) : (Y.setCell ⟨p, i, none⟩ v).heap[k]? = Y.heap[k]? := Below.heap_setCell _ _ _ _ hk
theorem set_size (Y : World) (p : Addr) (v : Value) : (Y.setCell p v).heap.size = Y.heap.size := by simp [World.setCell]
/-- A box is stored to as a whole, in a fenced walk. -/
theorem wpListIn_store_box {F : Fence} {n : Nat} {P : Program} {ops : Array Oper} {rest : List Oper} {o : Oper} {a : Act} {W : World} {Q : Exit → Act → World → Prop} (hgd : o.guard = none) (ty : TypeId) (x y : Operand) (ho : o.op = .store ty x y)
    (g : Nat) (cells old : Array Value) (t : TypeId) (hx : a.eval x = .pointer (some ⟨g, 0, none⟩)) (hy : a.eval y = .agg cells) (hg : W.heap[g]? = some (.cells old t (0, 0)))
    (hi : (P.info? ty).map (·.size) = some cells.size) (hold : old.size = cells.size) (h1 : cells.all (·.oneCell') = true)
    (h : ∀ W3 : World, W3.heap[g]? = some (.cells cells t (0, 0)) → (∀ k, k ≠ g → W3.heap[k]? = W.heap[k]?) → Below g W W3 → W3.heap.size = W.heap.size → wpListIn F n P ops Q rest (a.put o.dst undef) W3) : wpListIn F n P ops Q (o :: rest) a W := by
  refine wpListIn_plain hgd fun K hK' => ?_
  have hr := run_storeVar_row (P := P) W g t ty old cells hg hi hold h1
  unfold Oper.wpIn
  refine ⟨?_, ?_⟩
  · simp [Oper.about, ho, Sem.run_pure]
  · rw [Oper.semAt_plain F _ _ (by rw [ho]; intro c hc'; cases hc')]
    simp only [execOp, ho, hx, hy, Instr.storeAt, Instr.sureAddr]
    simp only [Sem.run_bind, Sem.run_pure, hr, Result.andThen_ok]
    exact hK' _ _ (h _ (setRow_heap W g old cells t (0, 0) hg) (fun k hk => setRow_other W g k cells hk) (below_setRow (Below.refl g W) g (Nat.le_refl _) cells) (size_setRow W g cells))
theorem results_1c {fn : Func} {p : Tmp} {ty : TypeId} (h : fn.results = #[.cell p ty]) (hty : ty = 3) (tmps : Array Value) (w : World) (g : Nat) (t1 : TypeId) (x : Int)
    (hp : tmps[p]? = some (.pointer (some ⟨g, 0, none⟩))) (hg : w.heap[g]? = some (.cells #[.int .i64 x] t1 (0, 0))) :
    (results fn tmps).run Try.prog w = .ok (.int .i64 x) w := by
  subst hty
  have hp' : tmps[p]?.getD undef = .pointer (some ⟨g, 0, none⟩) := by rw [hp]; rfl
  have c1 : w.cell? ⟨g, 0, none⟩ = some (.int .i64 x) := by simp [World.cell?, hg]
  simp [results, h, hp', asAddr, go_sem, c1]
/-- Run's answer. -/
def runV (s : Sv) (css : List (List Value)) (index : Int) : Int := runF index (dn (soundE s css) ((s.sound css).si, (s.sound css).st) (soundE s css).length) ((s.sound css).si, -1, false)

/-- What the loop holds; what it leaves with. -/
def RunI (index : Int) (z0 : Int × Int × Bool) (B F : Nat) (w : World) (pre : List (Int × Int)) (Y : World) : Prop := ∃ (f o : Int) (bg : Bool), (∀ rest, runF index (pre ++ rest) z0 = runF index rest (f, o, bg)) ∧ Y.heap[B + 1]? = some (.cells #[.int .i64 index] 3 (0, 0)) ∧ Y.heap[B + 2]? = some (.cells #[.int .i64 0] 3 (0, 0)) ∧
  Y.heap[F]? = some (.cells #[.int .i64 f] 3 (0, 0)) ∧ Y.heap[F + 1]? = some (.cells #[.int .i64 o] 3 (0, 0)) ∧ Y.heap[F + 2]? = some (.cells #[.bool bg] 4 (0, 0)) ∧ Below w.heap.size w Y
def RunX (index : Int) (z0 : Int × Int × Bool) (B : Nat) (w : World) (c : Code) (pre : List (Int × Int)) (Y : World) : Prop := c = .ret ∧ ∃ f : Int, (∀ rest, runF index (pre ++ rest) z0 = f) ∧ Y.heap[B + 2]? = some (.cells #[.int .i64 f] 3 (0, 0)) ∧ Below w.heap.size w Y

set_option maxHeartbeats 2000000 in
set_option maxRecDepth 100000 in
theorem run_c (s : Sv) (b off : Nat) (css : List (List Value)) (w : World) (h : Lg w s b off css) (index : Int) :
    Calls Try.prog 22 #[.agg s.cells, .int .i64 index] w fun e w' => e = .returned (.int .i64 (runV s css index)) ∧ Below w.heap.size w w' := by
  generalize hx : runV s css index = x
  have X := Aside0.mk hx
  clear hx
  have hi30 : ∀ cells : Array Value, cells.size = 9 → (Try.prog.info? 30).map (·.size) = some cells.size := fun c hc => by rw [hc]; exact size30
  refine (callsIn_wide (n := 9)).1 ?_
  refine callsIn_of_wp_marks Try.func22 rfl trivial ?_ rfl
  simp only [Try.ntmps22, List.size_toArray, List.length_cons, List.length_nil, Nat.reduceAdd, Nat.reduceSub, Array.replicate_succ, Array.replicate_zero, List.push_toArray, List.append_toArray, List.nil_append, List.cons_append]
  rw [cells_eq]
  gi_wp2
  obtain ⟨W0, hW0⟩ : ∃ W0, (((w.alloc (.cells #[.int .i64 s.t, .int .i64 s.v, .int .i64 s.si, .int .i64 s.st, .slice s.Va s.Vn s.Vc, .slice s.La s.Ln s.Lc, .string s.d, .slice s.A s.n s.cap, .slice s.Ga s.Gn s.Gc] 30)).alloc (.cells #[.int .i64 index] 3)).alloc (.cells #[.int .i64 0] 3)) = W0 := ⟨_, rfl⟩
  have hb0 : Below w.heap.size w W0 := by rw [← hW0]; exact (((Below.refl _ w).alloc (Nat.le_refl _) _).alloc (by simp) _).alloc (by simp; omega) _
  have hs0 : W0.heap.size = w.heap.size + 3 := by rw [← hW0]; simp
  have hb : W0.heap[w.heap.size]? = some (.cells #[.int .i64 s.t, .int .i64 s.v, .int .i64 s.si, .int .i64 s.st, .slice s.Va s.Vn s.Vc, .slice s.La s.Ln s.Lc, .string s.d, .slice s.A s.n s.cap, .slice s.Ga s.Gn s.Gc] 30 (0, 0)) := by
    rw [← hW0]; exact blk_alloc (blk_alloc (blk_new w (.cells #[.int .i64 s.t, .int .i64 s.v, .int .i64 s.si, .int .i64 s.st, .slice s.Va s.Vn s.Vc, .slice s.La s.Ln s.Lc, .string s.d, .slice s.A s.n s.cap, .slice s.Ga s.Gn s.Gc] 30)) (.cells #[.int .i64 index] 3)) (.cells #[.int .i64 0] 3)
  have hbi : W0.heap[w.heap.size + 1]? = some (.cells #[.int .i64 index] 3 (0, 0)) := by
    have := blk_alloc (blk_new (w.alloc (.cells #[.int .i64 s.t, .int .i64 s.v, .int .i64 s.si, .int .i64 s.st, .slice s.Va s.Vn s.Vc, .slice s.La s.Ln s.Lc, .string s.d, .slice s.A s.n s.cap, .slice s.Ga s.Gn s.Gc] 30)) (.cells #[.int .i64 index] 3)) (.cells #[.int .i64 0] 3)
    rw [World.size_alloc] at this
    rw [← hW0]; exact this
  have hbr : W0.heap[w.heap.size + 2]? = some (.cells #[.int .i64 0] 3 (0, 0)) := by
    have := blk_new ((w.alloc (.cells #[.int .i64 s.t, .int .i64 s.v, .int .i64 s.si, .int .i64 s.st, .slice s.Va s.Vn s.Vc, .slice s.La s.Ln s.Lc, .string s.d, .slice s.A s.n s.cap, .slice s.Ga s.Gn s.Gc] 30)).alloc (.cells #[.int .i64 index] 3)) (.cells #[.int .i64 0] 3)
    rw [World.size_alloc, World.size_alloc] at this
    rw [← hW0]; exact this
  rw [hW0]
  clear hW0
  have hL0 := h.below hb0
  refine ⟨trivial, CallsIn.mono (callsIn_wide.2 (sound_c s b off css W0 hL0)) ?_⟩
  rintro e w2 ⟨rfl, hb2⟩
  have hL2 := (hL0.below hb2).sound
  have hemp : soundE s css ≠ [] → b < w.heap.size := fun g => by
    rcases h.b with k | k
    · exact k
    · exfalso; apply g; unfold soundE; rw [k]; split <;> rfl
  unfold runV at X
  clear hL0 h
  generalize s.sound css = s2 at *
  generalize soundE s css = css2 at *
  have hsz2 : w.heap.size + 3 ≤ w2.heap.size := by have := hb2.size; omega
  have hbx2 := (hb2.block w.heap.size (by omega)).trans hb
  have hbi2 := (hb2.block (w.heap.size + 1) (by omega)).trans hbi
  have hbr2 := (hb2.block (w.heap.size + 2) (by omega)).trans hbr
  have hbw2 : Below w.heap.size w w2 := hb0.trans (hb2.mono hb0.size)
  clear hb0 hb2 hbi hbr hs0 hb
  have hcs := cells_eq s2
  rw [hcs]
  gi_wp2_with (refine wpListIn_store_box rfl 30 (.tmp 2) (.tmp 11) rfl w.heap.size _ _ 30 rfl rfl hbx2 (hi30 _ rfl) rfl (by simp [Value.oneCell']) ?_)
  intro W3 hg3 ho3 hb3 hs3
  have c2 : W3.cell? ⟨w.heap.size, 2, none⟩ = some (.int .i64 s2.si) := by simp [World.cell?, hg3]
  have hbi3 := (ho3 (w.heap.size + 1) (by omega)).trans hbi2
  have hbr3 := (ho3 (w.heap.size + 2) (by omega)).trans hbr2
  have hbw3 : Below w.heap.size w W3 := hbw2.trans hb3
  have hL3 : ∀ W, (∀ k, k ≠ w.heap.size → k < w2.heap.size → W.heap[k]? = w2.heap[k]?) → w2.heap.size ≤ W.heap.size → (css2 ≠ [] → Row W b off css2) := fun W hW hS hne => hL2.row.same (hW b (by have := hemp hne; omega) (by have := hemp hne; omega))
  have hA2 := hL2.A
  have hE2 := hL2.e
  have hlen2 := hL2.len
  have hn2 := hL2.n
  have HL3 := Aside0.mk hL3
  have HO3 := Aside0.mk ho3
  have HE2 := Aside0.mk hE2
  have HA2 := Aside0.mk hA2
  have HN2 := Aside0.mk hn2
  clear hL2 hL3 hE2 hA2 hbx2 hbi2 hbr2 ho3 hb3 hbw2 hn2
  have hb4 : Below W3.heap.size W3 (((W3.alloc (.cells #[.int .i64 s2.si] 3)).alloc (.cells #[.int .i64 (-1)] 3)).alloc (.cells #[.bool false] 4)) := (((Below.refl _ W3).alloc (Nat.le_refl _) _).alloc (by simp) _).alloc (by simp; omega) _
  have hs4 : (((W3.alloc (.cells #[.int .i64 s2.si] 3)).alloc (.cells #[.int .i64 (-1)] 3)).alloc (.cells #[.bool false] 4)).heap.size = w2.heap.size + 3 := by simp [hs3]
  have hbx4 : (((W3.alloc (.cells #[.int .i64 s2.si] 3)).alloc (.cells #[.int .i64 (-1)] 3)).alloc (.cells #[.bool false] 4)).heap[w.heap.size]? = _ := blk_alloc (blk_alloc (blk_alloc hg3 (.cells #[.int .i64 s2.si] 3)) (.cells #[.int .i64 (-1)] 3)) (.cells #[.bool false] 4)
  have hf4 : (((W3.alloc (.cells #[.int .i64 s2.si] 3)).alloc (.cells #[.int .i64 (-1)] 3)).alloc (.cells #[.bool false] 4)).heap[w2.heap.size]? = some (.cells #[.int .i64 s2.si] 3 (0, 0)) := by
    have := blk_alloc (blk_alloc (blk_new W3 (.cells #[.int .i64 s2.si] 3)) (.cells #[.int .i64 (-1)] 3)) (.cells #[.bool false] 4)
    rw [hs3] at this
    exact this
  have ho4 : (((W3.alloc (.cells #[.int .i64 s2.si] 3)).alloc (.cells #[.int .i64 (-1)] 3)).alloc (.cells #[.bool false] 4)).heap[w2.heap.size + 1]? = some (.cells #[.int .i64 (-1)] 3 (0, 0)) := by
    have := blk_alloc (blk_new (W3.alloc (.cells #[.int .i64 s2.si] 3)) (.cells #[.int .i64 (-1)] 3)) (.cells #[.bool false] 4)
    rw [World.size_alloc, hs3] at this
    exact this
  have hg4 : (((W3.alloc (.cells #[.int .i64 s2.si] 3)).alloc (.cells #[.int .i64 (-1)] 3)).alloc (.cells #[.bool false] 4)).heap[w2.heap.size + 2]? = some (.cells #[.bool false] 4 (0, 0)) := by
    have := blk_new ((W3.alloc (.cells #[.int .i64 s2.si] 3)).alloc (.cells #[.int .i64 (-1)] 3)) (.cells #[.bool false] 4)
    rw [World.size_alloc, World.size_alloc, hs3] at this
    exact this
  have hrg4 : (((W3.alloc (.cells #[.int .i64 s2.si] 3)).alloc (.cells #[.int .i64 (-1)] 3)).alloc (.cells #[.bool false] 4)).rangeAt w.heap.size 0 s2.cells.toList := by
    intro i u hiu
    simp only [Nat.zero_add, World.cell?, hbx4]
    have hiu' : (s2.cells)[i]? = some u := by simpa using hiu
    exact hiu'
  have hi4 : (Try.prog.info? 30).map (·.size) = some s2.cells.toList.length := hi30 _ rfl
  have HB4 := Aside0.mk hb4
  have HS4 := Aside0.mk hs4
  have HX4 := Aside0.mk hbx4
  have HF4 := Aside0.mk hf4
  have HO4 := Aside0.mk ho4
  have HG4 := Aside0.mk hg4
  clear hb4 hs4 hbx4 hf4 ho4 hg4
  gi_wp2_with (refine wpListIn_load_mid rfl 30 (.tmp 2) rfl w.heap.size 0 rfl s2.cells.toList _ hrg4 Try.underlying30 rfl hi4 ?_)
  have hb4 := HB4.out
  have hs4 := HS4.out
  have hbx4 := HX4.out
  have hf4 := HF4.out
  have ho4 := HO4.out
  have hg4 := HG4.out
  clear HB4 HS4 HX4 HF4 HO4 HG4 hrg4 hi4
  generalize (((W3.alloc (.cells #[.int .i64 s2.si] 3)).alloc (.cells #[.int .i64 (-1)] 3)).alloc (.cells #[.bool false] 4)) = w4 at hb4 hs4 hbx4 hf4 ho4 hg4 ⊢
  refine ⟨trivial, CallsIn.mono (callsIn_wide.2 (down_c s2 w4)) ?_⟩
  rintro e w' ⟨rfl, rfl⟩
  obtain ⟨W5, hW5⟩ : ∃ W5, w4.alloc (.cells s2.cells 30) = W5 := ⟨_, rfl⟩
  have hb5 : Below w4.heap.size w4 W5 := by rw [← hW5]; exact (Below.refl _ w4).alloc (Nat.le_refl _) _
  have hs5 : W5.heap.size = w2.heap.size + 4 := by rw [← hW5]; simp; omega
  have hbox5 : W5.heap[w4.heap.size]? = some (.cells s2.cells 30 (0, 0)) := by rw [← hW5]; exact blk_new w4 _
  rw [hW5]
  clear hW5
  rw [hs4] at hbox5
  rw [cells_eq s2] at hbox5
  have hi5 := (hb5.block (w.heap.size + 1) (by omega)).trans ((hb4.block (w.heap.size + 1) (by omega)).trans hbi3)
  have hr5 := (hb5.block (w.heap.size + 2) (by omega)).trans ((hb4.block (w.heap.size + 2) (by omega)).trans hbr3)
  have hf5 := (hb5.block (w2.heap.size) (by omega)).trans hf4
  have ho5 := (hb5.block (w2.heap.size + 1) (by omega)).trans ho4
  have hg5 := (hb5.block (w2.heap.size + 2) (by omega)).trans hg4
  have hbw4 : Below w.heap.size w w4 := hbw3.trans (hb4.mono hbw3.size)
  have hbw5 : Below w.heap.size w W5 := hbw4.trans (hb5.mono hbw4.size)
  obtain ⟨b2, hb2lt, hbn, hA5, hrow5⟩ : ∃ b2, b2 < W5.heap.size ∧ (b2 ≠ w.heap.size + 2 ∧ b2 ≠ w2.heap.size ∧ b2 ≠ w2.heap.size + 1 ∧ b2 ≠ w2.heap.size + 2) ∧ (0 < css2.length → s2.A = some ⟨b2, off, none⟩) ∧ Row W5 b2 off css2 := by
    by_cases g : css2 = []
    · exact ⟨w2.heap.size + 3, by omega, by omega, fun k => by rw [g] at k; simp at k, fun j hj => by rw [g] at hj; simp at hj⟩
    · have := hemp g
      exact ⟨b, by omega, by omega, HA2.out, HL3.out W5 (fun k h1 h2 => (hb5.block k (by omega)).trans ((hb4.block k (by omega)).trans (HO3.out k h1))) (by omega) g⟩
  clear hemp hb5 hbi3 hbr3 hbw3 hb4 hbx4 hf4 ho4 hg4 hbw4 HL3 HA2 HO3 c2 hg3 hcs
  have hE3 := HE2.out
  have hn3 := HN2.out
  gi_wp2
  have INIT := Aside0.mk X.out
  generalize hz0 : ((s2.si, -1, false) : Int × Int × Bool) = z0 at INIT
  have HZ := Aside0.mk hz0
  clear hz0 X
  refine wpIn_rangeFunc_st (gf := 64) (lb := #[.pointer (some ⟨w2.heap.size + 3, 0, none⟩)]) (encs := fun x : Int × Int => #[.int .i64 x.1, .int .i64 x.2]) (by first | rfl | (rw [hs4]; rfl)) (enters_of Try.func64 (by kernel_rfl) rfl)
    (down_steps 8 (by omega) (w2.heap.size + 3) b2 off s2.cap s2.A css2 s2.si s2.st hA5 hE3 hlen2) (fun _ => rfl)
    ⟨⟨by simp [World.cell?, hbox5, hn3], by simp [World.cell?, hbox5], by simp [World.cell?, hbox5]⟩, hrow5⟩
    (fun Y Z hY hu => ⟨⟨by have := hu (w2.heap.size + 3) (.inl rfl); simpa [World.cell?, this] using hY.1.1, by have := hu (w2.heap.size + 3) (.inl rfl); simpa [World.cell?, this] using hY.1.2.1, by have := hu (w2.heap.size + 3) (.inl rfl); simpa [World.cell?, this] using hY.1.2.2⟩, hY.2.same (hu b2 (.inr rfl))⟩)
    (fun k hk => by rcases hk with rfl | rfl <;> omega)
    (RunI index z0 w.heap.size w2.heap.size w)
    (RunX index z0 w.heap.size w)
    (fun pre Y Z hY hb => by
      obtain ⟨f, o, bg, e, k1, k2, k3, k4, k5, k6⟩ := hY
      exact ⟨f, o, bg, e, (hb.block _ (by omega)).trans k1, (hb.block _ (by omega)).trans k2, (hb.block _ (by omega)).trans k3, (hb.block _ (by omega)).trans k4, (hb.block _ (by omega)).trans k5, k6.trans (hb.mono (by omega))⟩)
    (fun c pre Y Z hY hb => by
      obtain ⟨e, f, e2, k1, k2⟩ := hY
      exact ⟨e, f, e2, (hb.block _ (by omega)).trans k1, k2.trans (hb.mono (by omega))⟩)
    ⟨s2.si, -1, false, fun rest => by rw [← HZ.out]; rfl, hi5, hr5, hf5, ho5, hg5, hbw5⟩ ?round ?done ?stop
  case round =>
    rintro pre y rest Y hxs ⟨f, o, bg, hF, hYi, hYr, hYf, hYo, hYg, hYb⟩ hHold hltY
    obtain ⟨y1, y2⟩ := y
    dsimp only
    clear hHold
    gi_wp2
    refine ⟨Kp.refl _ _ _, fun V hbV hsV hoV => ?_⟩
    have vi := (hbV.block _ (by omega)).trans hYi
    have vr := (hbV.block _ (by omega)).trans hYr
    have vf := (hbV.block _ (by omega)).trans hYf
    have vo := (hbV.block _ (by omega)).trans hYo
    have vg := (hbV.block _ (by omega)).trans hYg
    have vb : Below w.heap.size w V := hYb.trans (hbV.mono (by omega))
    have ci : V.cell? ⟨w.heap.size + 1, 0, none⟩ = some (.int .i64 index) := by simp [World.cell?, vi]
    have cr : V.cell? ⟨w.heap.size + 1 + 1, 0, none⟩ = some (.int .i64 0) := by simp [World.cell?, vr]
    have fr : V.frozen? ⟨w.heap.size + 1 + 1, 0, none⟩ = false := by simp [World.frozen?, vr]
    have cf : V.cell? ⟨w2.heap.size, 0, none⟩ = some (.int .i64 f) := by simp [World.cell?, vf]
    have ff : V.frozen? ⟨w2.heap.size, 0, none⟩ = false := by simp [World.frozen?, vf]
    have co : V.cell? ⟨w2.heap.size + 1, 0, none⟩ = some (.int .i64 o) := by simp [World.cell?, vo]
    have fo : V.frozen? ⟨w2.heap.size + 1, 0, none⟩ = false := by simp [World.frozen?, vo]
    have cg : V.cell? ⟨w2.heap.size + 1 + 1, 0, none⟩ = some (.bool bg) := by simp [World.cell?, vg]
    have fg : V.frozen? ⟨w2.heap.size + 1 + 1, 0, none⟩ = false := by simp [World.frozen?, vg]
    clear hYi hYr hYf hYo hYg hYb
    have HF := Aside0.mk hF
    clear hF
    by_cases g1 : y1 > index
    · have HG := Aside0.mk g1
      gi_wp2
      exact ⟨Kp.refl _ _ _, f, o, bg, fun rest => by rw [List.append_assoc, HF.out]; exact runF_skip (by have := HG.out; omega), vi, vr, vf, vo, vg, vb⟩
    · by_cases g2 : bg = true ∧ y2 ≠ o
      · obtain ⟨rfl, g3⟩ := g2
        have HG := Aside0.mk g1
        have HG2 := Aside0.mk g3
        gi_wp2
        have kr := heap_set_same (v := .int .i64 f) vr
        refine ⟨⟨by rw [set_size]; exact Nat.le_refl _, fun k h1 h2 => heap_set_other (by omega) 0 _, fun k hk => heap_set_other (by rcases hk with rfl | rfl <;> omega) 0 _⟩, rfl, f, fun rest => by rw [List.append_assoc, HF.out]; exact runF_stop (by have := HG.out; omega) ⟨rfl, HG2.out⟩, kr, vb.setCell (p := ⟨w.heap.size + 2, 0, none⟩) (by show w.heap.size ≤ w.heap.size + 2; omega) _⟩
      · have HG := Aside0.mk g1
        have HG2 := Aside0.mk g2
        have fin : ∀ Z, Z = ((V.setCell ⟨w2.heap.size, 0, none⟩ (.int .i64 y1)).setCell ⟨w2.heap.size + 1, 0, none⟩ (.int .i64 y2)).setCell ⟨w2.heap.size + 1 + 1, 0, none⟩ (.bool true) → Kp (w2.heap.size + 4) (fun k => k = w2.heap.size + 3 ∨ k = b2) V Z ∧ RunI index z0 w.heap.size w2.heap.size w (pre ++ [(y1, y2)]) Z := by
          rintro Z rfl
          have oth : ∀ k, k ≠ w2.heap.size → k ≠ w2.heap.size + 1 → k ≠ w2.heap.size + 2 → (((V.setCell ⟨w2.heap.size, 0, none⟩ (.int .i64 y1)).setCell ⟨w2.heap.size + 1, 0, none⟩ (.int .i64 y2)).setCell ⟨w2.heap.size + 1 + 1, 0, none⟩ (.bool true)).heap[k]? = V.heap[k]? := fun k h1 h2 h3 => by
            rw [heap_set_other (by omega), heap_set_other h2, heap_set_other h1]
          refine ⟨⟨by simp only [set_size]; exact Nat.le_refl _, fun k h1 h2 => oth k (by omega) (by omega) (by omega), fun k hk => by rcases hk with rfl | rfl <;> exact oth _ (by omega) (by omega) (by omega)⟩,
            y1, y2, true, fun rest => by rw [List.append_assoc, HF.out]; exact runF_next (by have := HG.out; omega) HG2.out, (oth _ (by omega) (by omega) (by omega)).trans vi, (oth _ (by omega) (by omega) (by omega)).trans vr, ?_, ?_, ?_, ?_⟩
          · rw [heap_set_other (by omega), heap_set_other (by omega)]; exact heap_set_same vf
          · rw [heap_set_other (by omega)]; exact heap_set_same ((heap_set_other (by omega) 0 _).trans vo)
          · exact heap_set_same ((heap_set_other (by omega) 0 _).trans ((heap_set_other (by omega) 0 _).trans vg))
          · exact ((vb.setCell (p := ⟨w2.heap.size, 0, none⟩) (by show _ ≤ w2.heap.size; omega) _).setCell (p := ⟨w2.heap.size + 1, 0, none⟩) (by show _ ≤ w2.heap.size + 1; omega) _).setCell (p := ⟨w2.heap.size + 1 + 1, 0, none⟩) (by show _ ≤ w2.heap.size + 1 + 1; omega) _
        have FIN := Aside0.mk fin
        clear fin
        rcases bg with _ | _
        · clear g2
          gi_wp2
          exact FIN.out _ rfl
        · have g3 : y2 = o := by
            by_cases h : y2 = o
            · exact h
            · exact absurd ⟨rfl, h⟩ g2
          subst g3
          clear g2
          gi_wp2
          exact FIN.out _ rfl
  case done =>
    rintro Y ⟨f, o, bg, hF, hYi, hYr, hYf, hYo, hYg, hYb⟩ hHold hltY hD
    have cr : Y.cell? ⟨w.heap.size + 1 + 1, 0, none⟩ = some (.int .i64 0) := by simp [World.cell?, hYr]
    have fr : Y.frozen? ⟨w.heap.size + 1 + 1, 0, none⟩ = false := by simp [World.frozen?, hYr]
    have cf : Y.cell? ⟨w2.heap.size, 0, none⟩ = some (.int .i64 f) := by simp [World.cell?, hYf]
    have hfx : f = x := by
      have := hF []
      rw [List.append_nil] at this
      rw [← INIT.out, this]
      rfl
    subst hfx
    clear hF hHold
    gi_wp2
    have kr := heap_set_same (v := .int .i64 f) hYr
    have hD' : (Y.setCell ⟨w.heap.size + 1 + 1, 0, none⟩ (.int .i64 f)).heap[W5.heap.size]? = some (.deferred (some [])) := (heap_set_other (by omega) 0 _).trans hD
    refine ⟨by simp, .inl ⟨_, _, rfl, run_takeDeferred hD', ?_⟩⟩
    refine ⟨_, results_1c rfl rfl _ _ (w.heap.size + 1 + 1) 3 f rfl ((World.putObj_heap_other (by omega)).trans kr), rfl, ?_⟩
    exact (hYb.setCell (p := ⟨w.heap.size + 1 + 1, 0, none⟩) (by show _ ≤ w.heap.size + 1 + 1; omega) _).trans (below_putObj (by omega) _ hD')
  case stop =>
    rintro c pre y rest Y hxs ⟨rfl, f, hF, hYr, hYb⟩ hltY hD
    have hfx : f = x := by
      have := hF rest
      rw [← INIT.out, hxs, ← this]
      simp
    subst hfx
    clear hF hxs
    gi_wp2
    refine ⟨by simp, .inl ⟨_, _, rfl, run_takeDeferred hD, ?_⟩⟩
    refine ⟨_, results_1c rfl rfl _ _ (w.heap.size + 1 + 1) 3 f rfl ((World.putObj_heap_other (by omega)).trans hYr), rfl, ?_⟩
    exact hYb.trans (below_putObj (by omega) _ hD)
end Go.Proofs.Ytpjachbmllklgaa.Rng
