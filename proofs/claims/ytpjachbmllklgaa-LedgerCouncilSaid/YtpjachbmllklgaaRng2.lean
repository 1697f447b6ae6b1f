/- A range over a function whose rounds leave with what they made. -/
import Derived.Test.YtpjachbmllklgaaLgC
namespace Go.Proofs.Ytpjachbmllklgaa.Rng
open Go.RowKit Go.Shelf
set_option linter.unusedVariables false
set_option linter.unusedSimpArgs false

/-- What an iterator does: xs, one behind the other, till a round says 'no more'. It lays and turns blocks above l alone. -/
def Steps2 {α : Type} (n : Nat) (P : Program) (g : Nat) (lb : Array Value) (encs : α → Array Value) (xs : List α) (Hold : World → Prop) (uses : Nat → Prop) : Prop :=
  ∀ (l : Nat) (J Jx : List α → World → Prop) (W : World), Hold W → (∀ k, uses k → k < l) → l < W.heap.size →
    (∀ pre A B, J pre A → Below (l + 1) A B → J pre B) →
    (∀ pre x rest W1, xs = pre ++ x :: rest → J pre W1 → l < W1.heap.size → YieldAt Fence.wide (n - 1) P l (encs x) W1 fun e W' =>
      (e = .returned (.bool true) ∧ J (pre ++ [x]) W' ∧ Rnd l uses W1 W') ∨ (e = .returned (.bool false) ∧ Jx (pre ++ [x]) W' ∧ Rnd l uses W1 W')) →
    J [] W →
    CallsIn Fence.wide n P g (#[.func (.yield l) #[] #[]] ++ lb) W fun e W' => (∃ v, e = .returned v) ∧ (J xs W' ∨ (∃ pre x rest, xs = pre ++ x :: rest ∧ Jx (pre ++ [x]) W'))

variable {n : Nat} {P : Program}
theorem wpIn_rangeFunc_st2 {α : Type} {g : Operand} {ps : Array Tmp} {assign body : Code} {Q : Exit → Act → World → Prop} {a : Act} {w : World}
    {gf : Nat} {lb : Array Value} (hg : a.eval g = .func (.func gf) #[] lb) (eg : ∀ args w, (callFunc gf args).run P w = .ok (.enter gf args) w)
    {encs : α → Array Value} {xs : List α} {Hold : World → Prop} {uses : Nat → Prop} (hseq : Steps2 (n - 1) P gf lb encs xs Hold uses) (hps : ∀ x, (encs x).size = ps.size)
    (hH : Hold w) (hHst : ∀ A B, Hold A → (∀ k, uses k → B.heap[k]? = A.heap[k]?) → Hold B) (hus : ∀ k, uses k → k < w.heap.size)
    (I : List α → World → Prop) (Ix : Code → List α → World → Prop)
    (hI : ∀ pre A B, I pre A → Below w.heap.size A B → I pre B) (hIx : ∀ c pre A o, Ix c pre A → Ix c pre (A.putObj (w.heap.size + 1) o)) (h0 : I [] w)
    (hround : ∀ pre x rest W, xs = pre ++ x :: rest → I pre W → Hold W → w.heap.size + 1 < W.heap.size →
      assign.wpIn (Fence.wide.inRound (w.heap.size + 1)) (n - 1 - 1) P (Exit.then (fun a₁ W2 => Kp w.heap.size uses W W2 ∧ ∀ W3, Below w.heap.size W2 W3 → W3.heap.size = W2.heap.size → (∀ k, k ≠ w.heap.size + 1 → W3.heap[k]? = W2.heap[k]?) →
          body.wpIn (Fence.wide.inRound (w.heap.size + 1)) (n - 1 - 1) P (rpost w.heap.size uses I Ix (pre ++ [x]) W3) a₁ W3) (fun _ _ _ => False))
        { tmps := (ps.zip (encs x)).foldl (fun t (p, v) => t.setIfInBounds p v) a.tmps, defers := [] } W)
    (hdone : ∀ (W : World), I xs W → Hold W → w.heap.size + 1 < W.heap.size → W.heap[w.heap.size]? = some (.deferred (some [])) → Q .normal { a with defers := { target := .collected w.heap.size, args := #[] } :: a.defers } W)
    (hstop : ∀ (c : Code) (pre : List α) (x : α) (rest : List α) (W : World), xs = pre ++ x :: rest → Ix c (pre ++ [x]) W → w.heap.size + 1 < W.heap.size → W.heap[w.heap.size]? = some (.deferred (some [])) → c.wpIn Fence.wide n P Q { a with defers := { target := .collected w.heap.size, args := #[] } :: a.defers } W) :
    (Code.rangeFunc g ps assign body).wpIn Fence.wide n P Q a w := by
  refine wpIn_rangeFunc ?_
  intro fn hfn
  rw [show Fence.wide.round = none from rfl]
  obtain ⟨rec, hrec⟩ : ∃ rec : LoopState → Option Code → Loop, rec = fun st pe => { state := st, pending := pe, fn, tmps := a.tmps, params := ps, assign, body, defers := w.heap.size } := ⟨_, rfl⟩
  obtain ⟨W1, hW1⟩ : ∃ W1, (w.alloc (.deferred (some []))).alloc (.loop (rec .ready none)) = W1 := ⟨_, rfl⟩
  have hs1 : W1.heap.size = w.heap.size + 2 := by rw [← hW1]; simp
  have hL1 : W1.heap[w.heap.size + 1]? = some (.loop (rec .ready none)) := by
    rw [← hW1]; have := World.alloc_heap_new (w.alloc (.deferred (some []))) (.loop (rec .ready none)); rwa [World.size_alloc] at this
  have hK1 : W1.heap[w.heap.size]? = some (.deferred (some [])) := by
    rw [← hW1]; exact (Below.heap_alloc _ _ _ (by simp)).trans (World.alloc_heap_new w _)
  have hb1 : Below w.heap.size w W1 := by
    rw [← hW1]; exact ((Below.refl _ w).alloc (Nat.le_refl _) _).alloc (by simp) _
  have hI1 : I [] W1 := hI _ _ _ h0 hb1
  have hH1 : Hold W1 := hHst _ _ hH (fun k hk => hb1.block k (hus k hk))
  refine ⟨w.heap.size + 1, [{ target := .collected w.heap.size, args := #[] }], W1, { target := .fn (.func gf) lb, args := #[.func (.yield (w.heap.size + 1)) #[] #[]] }, W1, gf,
    #[.func (.yield (w.heap.size + 1)) #[] #[]] ++ lb, W1, ?_, ?_, fun _ _ => trivial, ?_, fun h => (by cases h), ?_⟩
  · rw [← hW1, hrec]; exact run_enterLoop_outer _ _ _ _ _
  · simp only [resolve, hg]
    simp [go_sem]
  · simp [invoke, go_sem, eg]
  · refine (hseq (w.heap.size + 1)
      (fun pre W => I pre W ∧ Hold W ∧ W.heap[w.heap.size + 1]? = some (.loop (rec .ready none)) ∧ W.heap[w.heap.size]? = some (.deferred (some [])))
      (fun pre W => ∃ c, Ix c pre W ∧ W.heap[w.heap.size + 1]? = some (.loop (rec .done (some c))) ∧ W.heap[w.heap.size]? = some (.deferred (some [])))
      W1 hH1 (fun k hk => by have := hus k hk; omega) (by omega)
      (fun pre A B hs hb => ⟨hI _ _ _ hs.1 (hb.mono (by omega)), hHst _ _ hs.2.1 (fun k hk => hb.block k (by have := hus k hk; omega)), (hb.block _ (by omega)).trans hs.2.2.1, (hb.block _ (by omega)).trans hs.2.2.2⟩)
      ?_ ⟨hI1, hH1, hL1, hK1⟩).mono ?_
    · -- one round
      rintro pre x rest W hxs ⟨hi, hho, hl, hk⟩ hlt
      have hy := run_yield (P := P) (args := encs x) hl (by rw [hrec]; exact hps x)
      rw [hrec] at hy
      refine ⟨fn, _, assign, body, hy, roundIn_of_wpIn hfn (wpIn_mono (hround pre x rest W hxs hi hho hlt) ?_)⟩
      rintro e a1 W2 hp
      cases e with
      | normal =>
        obtain ⟨hkp, hbody⟩ := hp
        have hl2 : W2.heap[w.heap.size + 1]? = some (.loop (rec .ready none)) := (hkp.from_ _ (by omega) hlt).trans hl
        have hk2 : W2.heap[w.heap.size]? = some (.deferred (some [])) := (hkp.from_ _ (by omega) (by omega)).trans hk
        have hlt2 : w.heap.size + 1 < W2.heap.size := (Array.getElem?_eq_some_iff.1 hl2).1
        refine ⟨_, run_beginRound hl2 (by rw [hrec]), ?_⟩
        have hl3 : (W2.putObj (w.heap.size + 1) (.loop { rec .ready none with state := .busy })).heap[w.heap.size + 1]? = some (.loop { rec .ready none with state := .busy }) := World.putObj_heap_same hlt2
        have ho3 : ∀ k, k ≠ w.heap.size + 1 → (W2.putObj (w.heap.size + 1) (.loop { rec .ready none with state := .busy })).heap[k]? = W2.heap[k]? := fun k hk => World.putObj_heap_other hk
        have hb3 : Below w.heap.size W2 (W2.putObj (w.heap.size + 1) (.loop { rec .ready none with state := .busy })) := below_putObj (by omega) _ hl2
        have hz3 : (W2.putObj (w.heap.size + 1) (.loop { rec .ready none with state := .busy })).heap.size = W2.heap.size := by simp [World.putObj]
        refine wpIn_mono (hbody _ hb3 hz3 ho3) ?_
        obtain ⟨W3, hW3⟩ : ∃ W3, W2.putObj (w.heap.size + 1) (.loop { rec .ready none with state := .busy }) = W3 := ⟨_, rfl⟩
        rw [hW3] at hl3 ho3 hb3 hz3 ⊢
        have fin : ∀ (jump : Option Code) (W4 : World), Kp w.heap.size uses W3 W4 →
            (Instr.endRound (w.heap.size + 1) jump).run P W4 = .ok (.bool jump.isNone) (W4.putObj (w.heap.size + 1) (.loop (rec (if jump.isNone then .ready else .done) jump))) ∧
            Below w.heap.size W4 (W4.putObj (w.heap.size + 1) (.loop (rec (if jump.isNone then .ready else .done) jump))) ∧
            (W4.putObj (w.heap.size + 1) (.loop (rec (if jump.isNone then .ready else .done) jump))).heap[w.heap.size + 1]? = some (.loop (rec (if jump.isNone then .ready else .done) jump)) ∧
            (W4.putObj (w.heap.size + 1) (.loop (rec (if jump.isNone then .ready else .done) jump))).heap[w.heap.size]? = some (.deferred (some [])) ∧
            Rnd (w.heap.size + 1) uses W (W4.putObj (w.heap.size + 1) (.loop (rec (if jump.isNone then .ready else .done) jump))) := fun jump W4 hk4 => by
          have hl4 := (hk4.from_ _ (by omega) (by omega)).trans hl3
          have hlt4 := (Array.getElem?_eq_some_iff.1 hl4).1
          have hr := run_endRound (P := P) jump hl4
          refine ⟨by rw [hr, hrec], below_putObj (by omega) _ hl4, World.putObj_heap_same hlt4, (World.putObj_heap_other (by omega)).trans ((hk4.from_ _ (by omega) (by omega)).trans ((ho3 _ (by omega)).trans hk2)), ⟨?_, fun k h1 h2 => ?_, fun k hk => ?_⟩⟩
          · have := hkp.size; have := hk4.size; simp [World.putObj]; omega
          · have := hkp.size
            rw [World.putObj_heap_other (by omega), hk4.from_ k (by omega) (by omega), ho3 k (by omega), hkp.from_ k (by omega) h2]
          · have := hus k hk
            rw [World.putObj_heap_other (by omega), hk4.used k hk, ho3 k (by omega), hkp.used k hk]
        rintro e a4 W4 hp4
        have hhold : Kp w.heap.size uses W3 W4 → ∀ B, Below w.heap.size W4 B → Hold B := fun h4 B hB => hHst _ _ hho (fun k hk => by
          have := hus k hk
          rw [hB.block k this, h4.used k hk, ho3 k (by omega), hkp.used k hk])
        cases e with
        | normal =>
          obtain ⟨hk4, hi4⟩ := hp4
          obtain ⟨hr, hb4, hl5, hk5, hrnd⟩ := fin none W4 hk4
          exact ⟨_, _, hr, .inl ⟨rfl, ⟨hI _ _ _ hi4 hb4, hhold hk4 _ hb4, hl5, hk5⟩, hrnd⟩⟩
        | ret =>
          obtain ⟨hk4, hi4⟩ := hp4
          obtain ⟨hr, hb4, hl5, hk5, hrnd⟩ := fin (some .ret) W4 hk4
          exact ⟨_, _, hr, .inr ⟨rfl, ⟨.ret, hIx _ _ _ _ hi4, hl5, hk5⟩, hrnd⟩⟩
        | exit id =>
          obtain ⟨hk4, hi4⟩ := hp4
          obtain ⟨hr, hb4, hl5, hk5, hrnd⟩ := fin (some (.exit id)) W4 hk4
          exact ⟨_, _, hr, .inr ⟨rfl, ⟨.exit id, hIx _ _ _ _ hi4, hl5, hk5⟩, hrnd⟩⟩
        | goto t =>
          obtain ⟨hk4, hi4⟩ := hp4
          obtain ⟨hr, hb4, hl5, hk5, hrnd⟩ := fin (some (.goto t)) W4 hk4
          exact ⟨_, _, hr, .inr ⟨rfl, ⟨.goto t, hIx _ _ _ _ hi4, hl5, hk5⟩, hrnd⟩⟩
        | panic ch => exact hp4.elim
        | outgrown => exact hp4.elim
      | ret => exact hp.elim
      | exit id => exact hp.elim
      | goto t => exact hp.elim
      | panic ch => exact hp.elim
      | outgrown => exact hp.elim
    · -- behind the iterator
      rintro e W2 ⟨⟨v, rfl⟩, (⟨hi, hho, hl, hk⟩ | ⟨pre, x, rest, hxs, c, hi, hl, hk⟩)⟩
      · have hlt := (Array.getElem?_eq_some_iff.1 hl).1
        refine ⟨none, _, by have := run_endLoop (P := P) hl (by rw [hrec]; simp); rw [hrec] at this; exact this, hdone _ (hI _ _ _ hi (below_putObj (by omega) _ hl)) ?_ ?_ ((World.putObj_heap_other (by omega)).trans hk)⟩
        · exact hHst _ _ hho (fun k hk => World.putObj_heap_other (by have := hus k hk; omega))
        · simpa [World.putObj] using hlt
      · have hlt := (Array.getElem?_eq_some_iff.1 hl).1
        refine ⟨some c, _, by have := run_endLoop (P := P) hl (by rw [hrec]; simp); rw [hrec] at this; exact this, hstop c pre x rest _ hxs (hIx _ _ _ _ hi) ?_ ((World.putObj_heap_other (by omega)).trans hk)⟩
        simpa [World.putObj] using hlt
attribute [local go_sem] Oper.semAt_some
theorem back_steps2 (n : Nat) (hn : 1 ≤ n) (bx b off cap : Nat) (A : Option Addr) (css : List (List Value)) (hA : 0 < css.length → A = some ⟨b, off, none⟩) (h43 : ∀ j, j < css.length → css[j]!.length = 43) (hlen : css.length ≤ 1000000) :
    Steps2 n Try.prog 65 #[.pointer (some ⟨bx, 0, none⟩)] (fun x : Nat × List Value => #[.int .i64 (x.1 : Int), .agg x.2.toArray]) (bw css css.length)
      (fun W => W.cell? ⟨bx, 0, none⟩ = some (.slice A css.length cap) ∧ Row W b off css) (fun k => k = bx ∨ k = b) := by
  intro l J Jx W hH hul hlW hJ hY h0
  have h65 : Fence.wide.fn 65 := trivial
  refine callsIn_of_wp Try.func65 rfl h65 ?_ rfl
  simp only [Try.ntmps65, List.size_toArray, List.length_cons, List.length_nil, Nat.reduceAdd, Nat.reduceSub, Array.replicate_succ, Array.replicate_zero, List.push_toArray, List.append_toArray, List.nil_append, List.cons_append]
  have hbx := hH.1
  gi_wp2
  have hlast : W.heap.size = W.heap.size := rfl
  gi_loopw [3] (fun i wr => ∃ (m : Nat) (pre : List (Nat × List Value)), m ≤ css.length ∧ i = .int .i64 ((m : Int) - 1) ∧ bw css css.length = pre ++ bw css m ∧ J pre wr ∧ l < wr.heap.size ∧ wr.cell? ⟨bx, 0, none⟩ = some (.slice A css.length cap) ∧ Row wr b off css)
    (fun i _ => (intOf i + 1).toNat)
  case atStart => exact ⟨css.length, [], Nat.le_refl _, rfl, rfl, h0, hlW, hH.1, hH.2⟩
  case round =>
    obtain ⟨m, pre, hm, rfl, hpre, hJs, hlt, hcx, hrow⟩ := hrel
    cases m with
    | zero =>
      gi_wp2
      go_end0
      exact ⟨⟨_, rfl⟩, .inl (by simpa [bw] using hJs)⟩
    | succ m =>
      obtain rfl := hA (by omega)
      clear hA
      obtain ⟨fn, tmps, assign, body, hy, hR⟩ := hY pre (m, css[m]!) (bw css m) wr hpre hJs hlt
      dsimp only at hy
      have hrg := hrow m (by omega)
      have hc43 := h43 m (by omega)
      have hge : (0 : Int) ≤ ((m + 1 : Nat) : Int) - 1 := by omega
      have hidx : ((m + 1 : Nat) : Int) - 1 = (m : Int) := by omega
      have hlt2 : (m : Int) < (css.length : Int) := by omega
      rw [hidx]
      generalize hcs : css[m]! = cs at *
      have hi59 : (Try.prog.info? 59).map (·.size) = some cs.length := by rw [hc43]; kernel_rfl
      gi_wp2_with (refine wpListIn_load_mid rfl 59 (.tmp 15) rfl b (off + m * 43) rfl cs _ hrg Try.underlying59 rfl hi59 ?_)
      refine hR.mono ?_
      rintro e W3 (⟨rfl, hJ3, hr3⟩ | ⟨rfl, hJx3, hr3⟩)
      · have hx3 : W3.cell? ⟨bx, 0, none⟩ = some (.slice (some ⟨b, off, none⟩) css.length cap) := by
          have := hr3.used bx (.inl rfl)
          simpa [World.cell?, this] using hcx
        have hw3 := hrow.same (hr3.used b (.inr rfl))
        have hl3 : l < W3.heap.size := Nat.lt_of_lt_of_le hlt hr3.size
        gi_wp2
        go_roundw
        case rel => exact ⟨m, pre ++ [(m, cs)], by omega, rfl, by rw [hpre]; simp [bw, hcs], hJ3, hl3, hx3, hw3⟩
        case measure => first | (simp [intOf]; done) | (simp [intOf]; omega)
      · gi_wp2
        refine bodyPost_ret (results_none rfl _ _ _) rfl ?_
        exact ⟨⟨_, rfl⟩, .inr ⟨pre, (m, cs), bw css m, by rw [hpre]; simp [bw, hcs], hJx3⟩⟩

end Go.Proofs.Ytpjachbmllklgaa.Rng
