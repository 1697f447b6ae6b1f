/- Several texts in one. -/
import Derived.Test.YtadkeohohehmcaaGreatDoorDiA
import Derived.Test.YtadkeohohehmcaaGreatDoorSmB
import Derived.RangeFuncNested
import Derived.RangeFuncBound
import Derived.RangeFuncCalls
import Derived.RangeFuncLeaves
import Derived.Shelf.Abstract
import Derived.WalkKit
import Derived.OwnWalkIn
import Derived.TacticsInMore
import Derived.LoopNIn
import Derived.LoopIn
import Derived.Shelf.RegionOpen
import Derived.Deep.LoopGhost
import Derived.Deep.Draws
import Derived.Maps.AppendAt
import Derived.Test.YtadkeohohehmcaaGreatDoorSmA
import Derived.ArgAppend
import Derived.RangeFuncBox
import Derived.Test.YtadkeohohehmcaaGreatDoorTrD
section
/- Versions: the last one, whether they are in form. -/
namespace Go.Proofs.YtadkeohohehmcaaGreatDoor.Top
open Go.RowKit Go.Proofs.YtadkeohohehmcaaGreatDoorW.PrintWords Go.Proofs.YtadkeohohehmcaaGreatDoorW.PrintLast Go.Proofs.YtadkeohohehmcaaGreatDoorW.PrintMore Go.Proofs.YtadkeohohehmcaaGreatDoor.PTop
set_option linter.unusedVariables false
set_option linter.unusedSimpArgs false
def lastF (vs : List S68) : S68 := vs.getLast?.getD z68
def opn (v : S68) : Bool := v.f1 == 0 || v.f1 == 3
def mayB (v : S68) : Bool := decide (1 ≤ v.f0) && decide (v.f0 ≤ 200) && (((v.f1 == 1 || v.f1 == 2) && !decide (v.f2.size = 0) && decide (v.f2.size ≤ 64)) || (v.f1 == 3 && decide (v.f2.size = 0)))
/-- Versions in form. -/
def CheckOk (vs : List S68) : Prop := vs.length ≤ 16 ∧ ∀ i x, vs[i]? = some x → mayB x = true ∧ (lastF (vs.take i)).f0 ≤ x.f0 ∧ opn (lastF (vs.take i)) = (x.f1 == 1)
theorem w64 (n : Nat) (h : n < 1000000000) : wrap64 (n : Int) = n := by
  unfold wrap64
  omega
theorem last_f (l : List S68) (h : l.length < 1000000) : version_last.f l = some ((lastF l).f0, (lastF l).f1, (lastF l).f2) := by
  unfold version_last.f lastF
  by_cases e : l = []
  · subst e
    rfl
  · have hp : 0 < l.length := List.length_pos_iff.2 e
    have hw : wrap64 ((l.length : Int) - 1) = ((l.length - 1 : Nat) : Int) := by
      rw [← w64 (l.length - 1) (by omega)]
      congr 1
      omega
    rw [if_neg (by omega), hw, if_pos (by omega), if_pos (by omega)]
    have : rd_T68 l ((l.length - 1 : Nat) : Int) = l.getLast?.getD z68 := by
      unfold rd_T68
      rw [List.getD_eq_getElem?_getD, Int.toNat_natCast, List.getLast?_eq_getElem?]
    rw [this]
theorem toList_loop (s : ByteArray) : ∀ m i (r : List UInt8), i + m = s.size → (ByteArray.toList.loop s i r).length = r.length + m
  | 0, i, r, h => by
    unfold ByteArray.toList.loop
    rw [if_neg (by omega), List.length_reverse]
    omega
  | m + 1, i, r, h => by
    unfold ByteArray.toList.loop
    rw [if_pos (by omega), toList_loop s m (i + 1) _ (by omega), List.length_cons]
    omega
theorem toList_len (s : ByteArray) : s.toList.length = s.size := by
  unfold ByteArray.toList
  rw [toList_loop s s.size 0 [] (by omega)]
  simp
theorem toList_nil (s : ByteArray) : s.toList = ([] : List UInt8) ↔ s.size = 0 := by rw [← toList_len, List.length_eq_zero_iff]
def keyB (v : S68) : Bool := ((v.f1 == 1 || v.f1 == 2) && !decide (v.f2.size = 0) && decide (v.f2.size ≤ 64)) || (v.f1 == 3 && decide (v.f2.size = 0))
theorem may_j (k : Nat) (b : Bool) (v : S68) : version_may.j0 (k + 1) b v.f0 v.f1 v.f2 = some (b && keyB v) := by
  have e2 : (v.f2.toList == ([] : List UInt8)) = decide (v.f2.size = 0) := by
    by_cases h : v.f2.size = 0
    · rw [(toList_nil _).2 h, decide_eq_true h]
      rfl
    · rw [decide_eq_false h]
      exact beq_eq_false_iff_ne.2 fun e => h ((toList_nil _).1 e)
  have e3 : decide ((v.f2.size : Int) ≤ 64) = decide (v.f2.size ≤ 64) := by
    by_cases h : v.f2.size ≤ 64
    · rw [decide_eq_true h, decide_eq_true (by omega)]
    · rw [decide_eq_false h, decide_eq_false (by omega)]
  unfold version_may.j0 keyB
  simp only [toList_nil, e2, e3]
  cases b
  · by_cases b1 : v.f1 = 1 <;> by_cases b2 : v.f1 = 2 <;> by_cases b3 : v.f1 = 3 <;> simp [b1, b2, b3]
  · by_cases b1 : v.f1 = 1
    · by_cases c0 : v.f2.size = 0 <;> simp [b1, c0]
    · by_cases b2 : v.f1 = 2
      · by_cases c0 : v.f2.size = 0 <;> simp [b2, c0]
      · by_cases b3 : v.f1 = 3
        · simp [b3]
        · simp [b1, b2, b3]
theorem may_f (k : Nat) (v : S68) : version_may.f (k + 1) v.f0 v.f1 v.f2 = some (mayB v) := by
  have e : mayB v = (decide (1 ≤ v.f0) && decide (v.f0 ≤ 200) && keyB v) := rfl
  unfold version_may.f
  rw [e]
  by_cases a1 : v.f0 ≥ 1
  · rw [if_pos a1, may_j, decide_eq_true (show 1 ≤ v.f0 from a1), Bool.true_and]
  · rw [if_neg a1, may_j, decide_eq_false (show ¬ 1 ≤ v.f0 from a1)]
    rfl
theorem open_f (v : S68) : version_open.f v.f0 v.f1 v.f2 = some (opn v) := by
  unfold version_open.f opn
  by_cases h : v.f1 = 0
  · rw [if_pos h]; simp [h]
  · rw [if_neg h]; simp [h]
theorem check_l (vs : List S68) (h : CheckOk vs) : ∀ m i k, i + m = vs.length → 2 * m + 3 ≤ k → version_Check.l0 k vs true (i : Int) = some 0
  | 0, i, k, hi, hk => by
    obtain ⟨k, rfl⟩ : ∃ k', k = k' + 2 := ⟨k - 2, by omega⟩
    rw [version_Check.l0, if_pos rfl, decide_eq_false (by omega), version_Check.j1]
    rfl
  | m + 1, i, k, hi, hk => by
    obtain ⟨k, rfl⟩ : ∃ k', k = k' + 3 := ⟨k - 3, by omega⟩
    have hl : i < vs.length := by omega
    have hx : vs[i]? = some vs[i] := List.getElem?_eq_getElem hl
    obtain ⟨h1, h2, h3⟩ := h.2 i _ hx
    have hr : rd_T68 vs (i : Int) = vs[i] := by
      unfold rd_T68
      rw [List.getD_eq_getElem?_getD, Int.toNat_natCast, hx]
      rfl
    have h16 := h.1
    have hw : wrap64 ((i : Int) + 1) = ((i + 1 : Nat) : Int) := by
      rw [← w64 (i + 1) (by omega)]
      congr 1
    rw [version_Check.l0, if_pos rfl, decide_eq_true (by omega), version_Check.j1, if_pos rfl, if_pos (by omega), if_pos (by omega), Int.toNat_natCast, last_f _ (by rw [List.length_take]; omega), hr, hw]
    simp only [Option.bind_some]
    rw [if_pos (by omega), may_f, h1]
    simp only [Option.bind_some, if_true]
    rw [if_pos (by omega), open_f, h3]
    simp only [Option.bind_some]
    rw [beq_self_eq_true]
    exact check_l vs h m (i + 1) (k + 1) (by omega) (by omega)
theorem check_f (vs : List S68) (h : CheckOk vs) : version_Check.f 40 vs = some 0 := by
  unfold version_Check.f
  have h16 := h.1
  rw [decide_eq_true (by omega)]
  exact check_l vs h vs.length 0 40 (by omega) (by omega)
theorem Vs.kd {w : World} {v : Value} {vs : List S68} (h : Vs w v vs) (hm : vs.length ≤ 1000) : ∃ A c, v = .slice A vs.length c ∧ vs.length ≤ c ∧ Kd.C k68 w A vs.length vs := by
  rcases h with ⟨hl, ⟨rfl, hn⟩ | ⟨b, off, c, rfl, hc, hx⟩⟩
  · have : vs = [] := List.length_eq_zero_iff.1 hn
    subst this
    exact ⟨none, 0, rfl, Nat.le_refl _, Kd.C_nil _ _⟩
  · refine ⟨_, c, rfl, hc, rfl, by omega, fun _ => ⟨_, rfl, fun j p hj => ⟨vcells p, rfl, k68_mk _ _, fun i u hu => ?_⟩⟩⟩
    rw [Addr.add_lit]
    refine hx _ _ ?_
    obtain ⟨h0, h1, h2⟩ := vsC_at vs j p hj
    have hi : i < 3 := (List.getElem?_eq_some_iff.1 hu).1
    match i, hi with
    | 0, _ => rw [← hu]; exact h0
    | 1, _ => rw [← hu]; exact h1
    | 2, _ => rw [← hu]; exact h2
theorem check_c (v : Value) (vs : List S68) (w : World) (h : Vs w v vs) (hc : CheckOk vs) : Calls Tryz.prog 24 #[v] w fun e w' => e = .returned (.int .i64 0) ∧ Below w.heap.size w w' := by
  have h16 := hc.1
  obtain ⟨A, c, rfl, hl, hk⟩ := h.kd (by omega)
  exact version_Check.calls 40 A c vs 0 w hk hl (check_f vs hc)
def verV (x : S68) : Value := .agg #[.int .i64 x.f0, .int .i64 x.f1, .string x.f2]
theorem last_c (v : Value) (vs : List S68) (w : World) (h : Vs w v vs) (hm : vs.length ≤ 1000) : Calls Tryz.prog 44 #[v] w fun e w' => e = .returned (verV (lastF vs)) ∧ Below w.heap.size w w' := by
  obtain ⟨A, c, rfl, hl, hk⟩ := h.kd hm
  exact version_last.calls A c vs _ _ _ w hk hl (last_f vs (by omega))
theorem may_c (x : S68) (w : World) : Calls Tryz.prog 45 #[verV x] w fun e w' => e = .returned (.bool (mayB x)) ∧ Below w.heap.size w w' := version_may.calls 1 _ _ _ _ w (may_f 0 x)
theorem open_c (x : S68) (w : World) : Calls Tryz.prog 46 #[verV x] w fun e w' => e = .returned (.bool (opn x)) ∧ Below w.heap.size w w' := version_open.calls _ _ _ _ w (open_f x)
end Go.Proofs.YtadkeohohehmcaaGreatDoor.Top
end
section
/- A range over a function whose iterator turns one block of its own. -/
namespace Go.Proofs.YtadkeohohehmcaaGreatDoor.Top
open Go.RowKit Go.Shelf
set_option linter.unusedVariables false
set_option linter.unusedSimpArgs false

/-- What stood is as it was, but the blocks that 'bad' names. -/
structure Nx (bad : Nat → Prop) (A B : World) : Prop where
  os : B.os = A.os
  tape : B.tape = A.tape
  output : B.output = A.output
  size : A.heap.size ≤ B.heap.size
  block : ∀ k, k < A.heap.size → ¬ bad k → B.heap[k]? = A.heap[k]?
theorem Nx.of_below {bad : Nat → Prop} {A B : World} (h : Below A.heap.size A B) : Nx bad A B := ⟨h.os, h.tape, h.output, h.size, fun k hk _ => h.block k hk⟩
theorem Nx.mono {bad bad' : Nat → Prop} {A B : World} (h : Nx bad A B) (hb : ∀ k, bad k → bad' k) : Nx bad' A B := ⟨h.os, h.tape, h.output, h.size, fun k hk hn => h.block k hk fun e => hn (hb k e)⟩
theorem Nx.trans {bad : Nat → Prop} {A B C : World} (h : Nx bad A B) (k : Nx bad B C) : Nx bad A C := ⟨k.os.trans h.os, k.tape.trans h.tape, k.output.trans h.output, Nat.le_trans h.size k.size, fun i h1 h2 => (k.block i (Nat.lt_of_lt_of_le h1 h.size) h2).trans (h.block i h1 h2)⟩
theorem Nx.setCell {bad : Nat → Prop} {g o : Nat} (hg : bad g) (A : World) (v : Value) : Nx bad A (A.setCell ⟨g, o, none⟩ v) := ⟨rfl, rfl, rfl, by simp [World.setCell], fun k _ hk => Below.heap_setCell A _ v k fun e => hk (by rw [e]; exact hg)⟩
theorem Nx.putObj {bad : Nat → Prop} {A : World} {l : Nat} {o : Obj} (hl : bad l) (o' : Obj) (h : A.heap[l]? = some o) : Nx bad A (A.putObj l o') :=
  ⟨rfl, rfl, rfl, by simp [World.putObj], fun k hk hn => World.putObj_heap_other (fun e => hn (by rw [e]; exact hl))⟩
/-- What a round keeps of what the iterator uses. -/
structure Rnd (gb : Nat) (A B : World) : Prop where
  size : A.heap.size ≤ B.heap.size
  used : B.heap[gb]? = A.heap[gb]?
/-- What a round's code keeps: the loop's two blocks and the iterator's. -/
structure Kp (D gb : Nat) (A B : World) : Prop where
  size : A.heap.size ≤ B.heap.size
  d : B.heap[D]? = A.heap[D]?
  r : B.heap[D + 1]? = A.heap[D + 1]?
  used : B.heap[gb]? = A.heap[gb]?
theorem Kp.refl (D gb : Nat) (A : World) : Kp D gb A A := ⟨Nat.le_refl _, rfl, rfl, rfl⟩
/-- What an iterator does that turns block gb. -/
def Steps3 {α : Type} (n : Nat) (P : Program) (g : Nat) (lb : Array Value) (encs : α → Array Value) (xs : List α) (gb : Nat) (Hold : World → Prop) : Prop :=
  ∀ (l : Nat) (J : List α → World → Prop) (W : World), Hold W → gb < l → l < W.heap.size →
    (∀ pre A B, J pre A → Nx (fun k => k = gb) A B → J pre B) →
    (∀ pre x rest W1, xs = pre ++ x :: rest → J pre W1 → l < W1.heap.size → YieldAt Fence.wide (n - 1) P l (encs x) W1 fun e W' => e = .returned (.bool true) ∧ J (pre ++ [x]) W' ∧ Rnd gb W1 W') →
    J [] W →
    CallsIn Fence.wide n P g (#[.func (.yield l) #[] #[]] ++ lb) W fun e W' => (∃ v, e = .returned v) ∧ J xs W'
def rpost3 {α : Type} (m : Nat) (gb : Nat) (I : List α → World → Prop) (xs : List α) (W : World) : Exit → Act → World → Prop
  | .normal, _, W' => Kp m gb W W' ∧ I xs W'
  | _, _, _ => False
theorem below_putObj {n0 : Nat} {A : World} {l : Nat} {o : Obj} (hl : n0 ≤ l) (o' : Obj) (h : A.heap[l]? = some o) : Below n0 A (A.putObj l o') :=
  (Below.refl n0 A).grown (grownBy_putObj' A l o') (by have := (Array.getElem?_eq_some_iff.1 h).1; omega) (fun k e => by cases e; omega)

variable {n : Nat} {P : Program}
theorem wpIn_rangeFunc_g {α : Type} {g : Operand} {ps : Array Tmp} {assign body : Code} {Q : Exit → Act → World → Prop} {a : Act} {w : World}
    {gf : Nat} {lb : Array Value} (hg : a.eval g = .func (.func gf) #[] lb) (eg : ∀ args w, (callFunc gf args).run P w = .ok (.enter gf args) w)
    {encs : α → Array Value} {xs : List α} {gb : Nat} {Hold : World → Prop} (hseq : Steps3 (n - 1) P gf lb encs xs gb Hold) (hps : ∀ x, (encs x).size = ps.size)
    (hH : Hold w) (hHst : ∀ A B, Hold A → B.heap[gb]? = A.heap[gb]? → Hold B) (hgb : gb < w.heap.size)
    (I : List α → World → Prop) (hI : ∀ pre A B, I pre A → Nx (fun k => k = gb ∨ k = w.heap.size + 1) A B → I pre B) (h0 : I [] w)
    (hround : ∀ pre x rest W, xs = pre ++ x :: rest → I pre W → w.heap.size + 1 < W.heap.size →
      assign.wpIn (Fence.wide.inRound (w.heap.size + 1)) (n - 1 - 1) P (Exit.then (fun a₁ W2 => Kp w.heap.size gb W W2 ∧ ∀ W3, Below w.heap.size W2 W3 → W3.heap.size = W2.heap.size → (∀ k, k ≠ w.heap.size + 1 → W3.heap[k]? = W2.heap[k]?) →
          body.wpIn (Fence.wide.inRound (w.heap.size + 1)) (n - 1 - 1) P (rpost3 w.heap.size gb I (pre ++ [x]) W3) a₁ W3) (fun _ _ _ => False))
        { tmps := (ps.zip (encs x)).foldl (fun t (p, v) => t.setIfInBounds p v) a.tmps, defers := [] } W)
    (hdone : ∀ (W : World), I xs W → w.heap.size + 1 < W.heap.size → W.heap[w.heap.size]? = some (.deferred (some [])) → Q .normal { a with defers := { target := .collected w.heap.size, args := #[] } :: a.defers } W) :
    (Code.rangeFunc g ps assign body).wpIn Fence.wide n P Q a w := by
  refine wpIn_rangeFunc ?_
  intro fn hfn
  rw [show Fence.wide.round = none from rfl]
  obtain ⟨rec, hrec⟩ : ∃ rec : LoopState → Option Code → Loop, rec = fun st pe => { state := st, pending := pe, fn, tmps := a.tmps, params := ps, assign, body, defers := w.heap.size } := ⟨_, rfl⟩
  obtain ⟨W1, hW1⟩ : ∃ W1, (w.alloc (.deferred (some []))).alloc (.loop (rec .ready none)) = W1 := ⟨_, rfl⟩
  have hs1 : W1.heap.size = w.heap.size + 2 := by rw [← hW1]; simp
  have hL1 : W1.heap[w.heap.size + 1]? = some (.loop (rec .ready none)) := by
    rw [← hW1]; have := World.alloc_heap_new (w.alloc (.deferred (some []))) (.loop (rec .ready none)); rwa [World.size_alloc] at this
  have hK1 : W1.heap[w.heap.size]? = some (.deferred (some [])) := by
    rw [← hW1]; exact (Below.heap_alloc _ _ _ (by simp)).trans (World.alloc_heap_new w _)
  have hb1 : Below w.heap.size w W1 := by
    rw [← hW1]; exact ((Below.refl _ w).alloc (Nat.le_refl _) _).alloc (by simp) _
  have hI1 : I [] W1 := hI _ _ _ h0 (Nx.of_below hb1)
  have hH1 : Hold W1 := hHst _ _ hH (hb1.block gb hgb)
  refine ⟨w.heap.size + 1, [{ target := .collected w.heap.size, args := #[] }], W1, { target := .fn (.func gf) lb, args := #[.func (.yield (w.heap.size + 1)) #[] #[]] }, W1, gf,
    #[.func (.yield (w.heap.size + 1)) #[] #[]] ++ lb, W1, ?_, ?_, fun _ _ => trivial, ?_, fun h => (by cases h), ?_⟩
  · rw [← hW1, hrec]; exact run_enterLoop_outer _ _ _ _ _
  · simp only [resolve, hg]
    simp [go_sem]
  · simp [invoke, go_sem, eg]
  · refine (hseq (w.heap.size + 1)
      (fun pre W => I pre W ∧ W.heap[w.heap.size + 1]? = some (.loop (rec .ready none)) ∧ W.heap[w.heap.size]? = some (.deferred (some [])))
      W1 hH1 (by omega) (by omega)
      (fun pre A B hs hb => ⟨hI _ _ _ hs.1 (hb.mono fun k e => Or.inl e), (hb.block _ (Array.getElem?_eq_some_iff.1 hs.2.1).1 (by omega)).trans hs.2.1, (hb.block _ (Array.getElem?_eq_some_iff.1 hs.2.2).1 (by omega)).trans hs.2.2⟩)
      ?_ ⟨hI1, hL1, hK1⟩).mono ?_
    · -- one round
      rintro pre x rest W hxs ⟨hi, hl, hk⟩ hlt
      have hy := run_yield (P := P) (args := encs x) hl (by rw [hrec]; exact hps x)
      rw [hrec] at hy
      refine ⟨fn, _, assign, body, hy, roundIn_of_wpIn hfn (wpIn_mono (hround pre x rest W hxs hi hlt) ?_)⟩
      rintro e a1 W2 hp
      cases e with
      | normal =>
        obtain ⟨hkp, hbody⟩ := hp
        have hl2 : W2.heap[w.heap.size + 1]? = some (.loop (rec .ready none)) := hkp.r.trans hl
        have hk2 : W2.heap[w.heap.size]? = some (.deferred (some [])) := hkp.d.trans hk
        have hlt2 : w.heap.size + 1 < W2.heap.size := (Array.getElem?_eq_some_iff.1 hl2).1
        refine ⟨_, run_beginRound hl2 (by rw [hrec]), ?_⟩
        have hl3 : (W2.putObj (w.heap.size + 1) (.loop { rec .ready none with state := .busy })).heap[w.heap.size + 1]? = some (.loop { rec .ready none with state := .busy }) := World.putObj_heap_same hlt2
        have ho3 : ∀ k, k ≠ w.heap.size + 1 → (W2.putObj (w.heap.size + 1) (.loop { rec .ready none with state := .busy })).heap[k]? = W2.heap[k]? := fun k hk => World.putObj_heap_other hk
        have hb3 : Below w.heap.size W2 (W2.putObj (w.heap.size + 1) (.loop { rec .ready none with state := .busy })) := below_putObj (by omega) _ hl2
        have hz3 : (W2.putObj (w.heap.size + 1) (.loop { rec .ready none with state := .busy })).heap.size = W2.heap.size := by simp [World.putObj]
        refine wpIn_mono (hbody _ hb3 hz3 ho3) ?_
        obtain ⟨W3, hW3⟩ : ∃ W3, W2.putObj (w.heap.size + 1) (.loop { rec .ready none with state := .busy }) = W3 := ⟨_, rfl⟩
        rw [hW3] at hl3 ho3 hb3 hz3 ⊢
        have fin : ∀ (jump : Option Code) (W4 : World), Kp w.heap.size gb W3 W4 →
            (Instr.endRound (w.heap.size + 1) jump).run P W4 = .ok (.bool jump.isNone) (W4.putObj (w.heap.size + 1) (.loop (rec (if jump.isNone then .ready else .done) jump))) ∧
            Nx (fun k => k = gb ∨ k = w.heap.size + 1) W4 (W4.putObj (w.heap.size + 1) (.loop (rec (if jump.isNone then .ready else .done) jump))) ∧
            (W4.putObj (w.heap.size + 1) (.loop (rec (if jump.isNone then .ready else .done) jump))).heap[w.heap.size + 1]? = some (.loop (rec (if jump.isNone then .ready else .done) jump)) ∧
            (W4.putObj (w.heap.size + 1) (.loop (rec (if jump.isNone then .ready else .done) jump))).heap[w.heap.size]? = some (.deferred (some [])) ∧
            Rnd gb W (W4.putObj (w.heap.size + 1) (.loop (rec (if jump.isNone then .ready else .done) jump))) := fun jump W4 hk4 => by
          have hl4 := hk4.r.trans hl3
          have hlt4 := (Array.getElem?_eq_some_iff.1 hl4).1
          have hr := run_endRound (P := P) jump hl4
          refine ⟨by rw [hr, hrec], Nx.putObj (Or.inr rfl) _ hl4, World.putObj_heap_same hlt4, (World.putObj_heap_other (by omega)).trans (hk4.d.trans ((ho3 _ (by omega)).trans hk2)), ⟨?_, ?_⟩⟩
          · have := hkp.size; have := hk4.size; simp [World.putObj]; omega
          · rw [World.putObj_heap_other (by omega), hk4.used, ho3 gb (by omega), hkp.used]
        rintro e a4 W4 hp4
        cases e with
        | normal =>
          obtain ⟨hk4, hi4⟩ := hp4
          obtain ⟨hr, hb4, hl5, hk5, hrnd⟩ := fin none W4 hk4
          exact ⟨_, _, hr, rfl, ⟨hI _ _ _ hi4 hb4, hl5, hk5⟩, hrnd⟩
        | ret => exact hp4.elim
        | exit id => exact hp4.elim
        | goto t => exact hp4.elim
        | panic ch => exact hp4.elim
        | outgrown => exact hp4.elim
      | ret => exact hp.elim
      | exit id => exact hp.elim
      | goto t => exact hp.elim
      | panic ch => exact hp.elim
      | outgrown => exact hp.elim
    · -- behind the iterator
      rintro e W2 ⟨⟨v, rfl⟩, hi, hl, hk⟩
      have hlt := (Array.getElem?_eq_some_iff.1 hl).1
      refine ⟨none, _, by have := run_endLoop (P := P) hl (by rw [hrec]; simp); rw [hrec] at this; exact this, hdone _ (hI _ _ _ hi (Nx.putObj (Or.inr rfl) _ hl)) ?_ ((World.putObj_heap_other (by omega)).trans hk)⟩
      simpa [World.putObj] using hlt
end Go.Proofs.YtadkeohohehmcaaGreatDoor.Top
end
section
/- A count's bytes, one behind the other. -/
namespace Go.Proofs.YtadkeohohehmcaaGreatDoor.Top
open Go.RowKit Go.Shelf Go.Proofs.YtadkeohohehmcaaGreatDoorW.PrintWords
set_option linter.unusedVariables false
set_option linter.unusedSimpArgs false
attribute [local go_sem] Oper.semAt_some

/-- A count's bytes (below 16384). -/
def countF (x : Int) : List Int := if x < 128 then [x] else [x % 128 + 128, x / 128]
theorem countF_big (x : Int) (h : 128 ≤ x) (h2 : x < 16384) : countF x = (x % 128 + 128) :: countF (x / 128) := by
  unfold countF
  rw [if_neg (by omega), if_pos (by omega)]
theorem grp_steps (n : Nat) (hn : 1 ≤ n) (gb : Nat) (x : Int) (h0 : 0 ≤ x) (h1 : x < 16384) :
    Steps3 n Tryz.prog 86 #[.pointer (some ⟨gb, 0, none⟩)] (fun y : Int => #[.int .u8 y]) (countF x) gb (fun W => W.heap[gb]? = some (.cells #[.int .i64 x] 3 (0, 0))) := by
  intro l J W hH hul hlW hJ hY h0J
  have h86 : Fence.wide.fn 86 := trivial
  refine callsIn_of_wp Tryz.func86 rfl h86 ?_ rfl
  simp only [Tryz.ntmps86, List.size_toArray, List.length_cons, List.length_nil, Nat.reduceAdd, Nat.reduceSub, Array.replicate_succ, Array.replicate_zero, List.push_toArray, List.append_toArray, List.nil_append, List.cons_append]
  gi_wp2
  gi_loopw [3] (fun i wr => ∃ (y : Int) (pre : List Int), 0 ≤ y ∧ y < 16384 ∧ countF x = pre ++ countF y ∧ J pre wr ∧ l < wr.heap.size ∧ wr.heap[gb]? = some (.cells #[.int .i64 y] 3 (0, 0)))
    (fun _ wr => (intOf ((wr.cell? ⟨gb, 0, none⟩).getD (.int .i64 0))).toNat)
  case atStart => exact ⟨x, [], h0, h1, rfl, h0J, hlW, hH⟩
  case round =>
    obtain ⟨y, pre, hy0, hy1, hpre, hJs, hlt, hc⟩ := hrel
    have c1 : wr.cell? ⟨gb, 0, none⟩ = some (.int .i64 y) := by simp [World.cell?, hc]
    have f1 : wr.frozen? ⟨gb, 0, none⟩ = false := by simp [World.frozen?, hc]
    by_cases hb : 128 ≤ y
    · obtain ⟨fn, tmps, assign, body, hyy, hR⟩ := hY pre (y % 128 + 128) (countF (y / 128)) wr (by rw [hpre, countF_big y hb hy1]) hJs hlt
      have hcv : IntKind.u8.wrap (y % 128 + 128) = y % 128 + 128 := by simp [IntKind.wrap, IntKind.bits, IntKind.signed]; omega
      gi_wp2
      refine hR.mono ?_
      rintro e W3 ⟨rfl, hJ3, hr3⟩
      have hc3 := hr3.used.trans hc
      have c3 : W3.cell? ⟨gb, 0, none⟩ = some (.int .i64 y) := by simp [World.cell?, hc3]
      have f3 : W3.frozen? ⟨gb, 0, none⟩ = false := by simp [World.frozen?, hc3]
      have hq : y.tdiv 128 = y / 128 := Int.tdiv_eq_ediv_of_nonneg hy0
      have hl3 : l < W3.heap.size := Nat.lt_of_lt_of_le hlt hr3.size
      clear hR hyy hY hH hr3 f1
      gi_wp2
      go_roundw
      case rel => exact ⟨y / 128, pre ++ [y % 128 + 128], by omega, by omega, by rw [hpre, countF_big y hb hy1]; simp, hJ _ _ _ hJ3 (Nx.setCell (bad := fun k => k = gb) (g := gb) rfl _ _), by simpa [World.setCell] using hl3, blk_put hc3 0 _ rfl⟩
      case measure =>
        have e1 := blk_put hc3 0 (.int .i64 (y / 128)) rfl
        have c4 : (W3.setCell ⟨gb, 0, none⟩ (.int .i64 (y / 128))).cell? ⟨gb, 0, none⟩ = some (.int .i64 (y / 128)) := by simp [World.cell?, e1]
        rw [c4, c1]
        simp [intOf]
        omega
    · obtain ⟨fn, tmps, assign, body, hyy, hR⟩ := hY pre y [] wr (by rw [hpre]; unfold countF; rw [if_pos (by omega)]) hJs hlt
      have hcv : IntKind.u8.wrap y = y := by simp [IntKind.wrap, IntKind.bits, IntKind.signed]; omega
      gi_wp2
      refine hR.mono ?_
      rintro e W3 ⟨rfl, hJ3, hr3⟩
      gi_wp2
      go_end0
      have e2 : countF x = pre ++ [y] := by rw [hpre]; unfold countF; rw [if_pos (by omega)]
      exact ⟨⟨_, rfl⟩, by rw [e2]; exact hJ3⟩
/-- octet.groups: the count is boxed; the function value captures the box. -/
theorem groups_in (n : Nat) (x : Int) (w : World) :
    CallsIn Fence.wide n Tryz.prog 64 #[.int .i64 x] w fun e w' => e = .returned (.func (.func 86) #[] #[.pointer (some ⟨w.heap.size, 0, none⟩)]) ∧ w' = w.alloc (.cells #[.int .i64 x] 3) := by
  have h64 : Fence.wide.fn 64 := trivial
  refine callsIn_of_wp Tryz.func64 rfl h64 ?_ rfl
  simp only [Tryz.ntmps64, List.size_toArray, List.length_cons, List.length_nil, Nat.reduceAdd, Nat.reduceSub, Array.replicate_succ, Array.replicate_zero, List.push_toArray, List.append_toArray, List.nil_append, List.cons_append]
  gi_wp2
  go_ret
  exact ⟨rfl, rfl⟩
end Go.Proofs.YtadkeohohehmcaaGreatDoor.Top
end
section
/- Bytes are put behind bytes: a count. -/
namespace Go.Proofs.YtadkeohohehmcaaGreatDoor.Top
theorem uOld (w : World) (o : Obj) (i : Nat) (h : i < w.heap.size) : (w.alloc o).heap[i]? = w.heap[i]? := by first | exact heap_alloc_old w o i h | exact heap_alloc_old w o h
open Go.RowKit Go.Shelf Go.Proofs.YtadkeohohehmcaaGreatDoorW.PrintWords
set_option linter.unusedVariables false
set_option linter.unusedSimpArgs false
attribute [local go_sem] Oper.semAt_some

theorem info5 : (Tryz.prog.info? 5).map (fun i => (i.zero, i.size, i.bytes)) = some (some (.int .u8 0), 1, 1) := by kernel_rfl
/-- Bytes that may be appended to: own ones, or full ones. -/
def Apd (w : World) (n0 : Nat) (ok : Nat → Prop) (v : Value) (xs : List Value) : Prop :=
  (w.ownsRow n0 5 1 v xs.length xs ∧ ∀ k, v.ownBlock = some k → ok k) ∨ (∃ b off, v = .slice (some ⟨b, off, none⟩) xs.length xs.length ∧ (b < n0 ∨ xs = []) ∧ ∀ j u, xs[j]? = some u → w.cell? ⟨b, off + j, none⟩ = some u)
theorem run_append_apd (w : World) (n0 : Nat) (ok : Nat → Prop) (v : Value) (xs : List Value) (h : Apd w n0 ok v xs) (hok : ∀ k, w.heap.size ≤ k → ok k) (hb0 : n0 ≤ w.heap.size) (ad : Addr) (m c : Nat) (news : List Value) (hl : news.length = m) (hm : 0 < m) (hnews : ∀ j u, news[j]? = some u → w.cell? (ad.add j) = some u) (h1 : ∀ u ∈ news, u.oneCell' = true) (hsz : xs.length + m ≤ 1000000000) :
    ∃ v' w' row, (Builtin.append_ #[57, 57] 57 #[v, .slice (some ad) m c]).run Tryz.prog w = .ok v' w' ∧ w'.ownsRow n0 5 1 v' (xs.length + m) (xs ++ news) ∧ (∀ k, v'.ownBlock = some k → ok k) ∧ w.grownBy w' row ∧ (∀ k, row = some k → n0 ≤ k ∧ ok k ∧ ∃ cur, w.heap[k]? = some (.cells cur 5 (0, 0))) := by
  obtain ⟨i, hi, hz, hs, hby⟩ := info_of info5
  rcases h with ⟨h, hk0⟩ | ⟨b, off, rfl, hbl, hc⟩
  · obtain ⟨v', w', hr, h2, h3, h4, h5⟩ := run_append_own_at (P := Tryz.prog) w n0 57 57 5 i (.int .u8 0) 1 1 Tryz.underlying57 hi hz hs hby rfl (by decide) v xs.length xs h ad m c news (by omega) hnews h1 (by simp only [maxLen]; omega) (by omega) hb0
    refine ⟨v', w', _, hr, h2, fun k hk => ?_, h3, fun k hk => ⟨(h.lt k hk).1, hk0 k hk, own_typed h k hk⟩⟩
    rcases h5 with h5 | h5
    · exact hk0 k (h5 ▸ hk)
    · rw [h5] at hk
      injection hk with hk
      exact hok k (by omega)
  · obtain ⟨v', w', hr, h2, h3⟩ := run_append_arg_grows (P := Tryz.prog) w 57 57 5 i (.int .u8 0) 1 1 Tryz.underlying57 hi hz hs hby rfl (by decide) ⟨b, off, none⟩ xs.length xs.length xs (by omega) (fun j u hj => by rw [Addr.add_lit]; exact hc j u hj) ad m c news (by omega) hnews (by omega) (by simp only [maxLen]; omega) (by omega)
    exact ⟨v', w', none, hr, ⟨h2.1, h2.2.imp id fun ⟨g, cap, cur, a1, a2, a3⟩ => ⟨g, cap, cur, a1, Nat.le_trans hb0 a2, a3⟩⟩, fun k hk => hok k (h2.lt k hk).1, h3, fun k hk => by cases hk⟩
theorem wpListIn_append_apd {F : Fence} {n : Nat} {w : World} {ops : Array Oper} {rest : List Oper} {o : Oper} {a : Act} {Q : Exit → Act → World → Prop} (hgd : o.guard = none) (s x : Operand)
    (ho : o.op = .call { callee := .builtin .append, args := #[s, x], argTypes := #[57, 57] }) (hty : o.type = 57)
    (n0 : Nat) (ok : Nat → Prop) (v : Value) (xs : List Value) (hs : a.eval s = v) (h : Apd w n0 ok v xs) (hok : ∀ k, w.heap.size ≤ k → ok k) (hb0 : n0 ≤ w.heap.size)
    (ad : Addr) (m c : Nat) (news : List Value) (hx : a.eval x = .slice (some ad) m c) (hl : news.length = m) (hm : 0 < m) (hnews : ∀ j u, news[j]? = some u → w.cell? (ad.add j) = some u) (h1 : ∀ u ∈ news, u.oneCell' = true) (hsz : xs.length + m ≤ 1000000000)
    (hK : ∀ v' w' row, w'.ownsRow n0 5 1 v' (xs.length + m) (xs ++ news) → (∀ k, v'.ownBlock = some k → ok k) → w.grownBy w' row → (∀ k, row = some k → n0 ≤ k ∧ ok k ∧ ∃ cur, w.heap[k]? = some (.cells cur 5 (0, 0))) → wpListIn F n Tryz.prog ops Q rest (a.put o.dst v') w') : wpListIn F n Tryz.prog ops Q (o :: rest) a w := by
  obtain ⟨v', w', row, hr, h2, h3, h4, h5⟩ := run_append_apd w n0 ok v xs h hok hb0 ad m c news hl hm hnews h1 hsz
  refine wpListIn_plain hgd fun K hK' => ?_
  unfold Oper.wpIn
  refine ⟨?_, ?_⟩
  · simp [Oper.about, ho, resolve, Target.leads, Sem.run_pure]
  · rw [Oper.semAt_plain F _ _ (by rw [ho]; intro c hc'; cases hc')]
    simp only [execOp, ho, hty, resolve, invoke, builtin, Sem.run_bind, Sem.run_pure, Result.andThen_ok, List.map_toArray, List.map_cons, List.map_nil, hs, hx, hr]
    exact hK' _ _ (hK v' w' row h2 h3 h4 h5)
theorem Apd.move {A B : World} {n0 : Nat} {ok : Nat → Prop} {v : Value} {xs : List Value} (h : Apd A n0 ok v xs) (hlo : ∀ k, k < n0 → B.heap[k]? = A.heap[k]?) (hk : ∀ k, ok k → k < A.heap.size → B.heap[k]? = A.heap[k]?) : Apd B n0 ok v xs := by
  rcases h with ⟨h, h1⟩ | ⟨b, off, rfl, h3, h4⟩
  · exact Or.inl ⟨own_move h fun k e => hk k (h1 k e) (h.lt k e).2, h1⟩
  · refine Or.inr ⟨b, off, rfl, h3, fun j u hj => ?_⟩
    rcases h3 with h3 | h3
    · exact (World.cell?_of_block (w := A) (hlo b h3)).trans (h4 j u hj)
    · subst h3; simp at hj
/-- A full slice of what is read. -/
theorem Apd.of_reads {w W : World} {ok : Nat → Prop} {A : Option Addr} {c : Nat} {bs : List Value} (hr : Reads w 1 (.slice A bs.length c) bs.length bs) (hb : Below w.heap.size w W) : Apd W w.heap.size ok (.slice A bs.length bs.length) bs := by
  rcases hr.2 with ⟨h, h0⟩ | ⟨b, off, c', h, _, hx⟩
  · injection h with h
    subst h
    have : bs = [] := List.length_eq_zero_iff.1 h0
    subst this
    exact Or.inl ⟨World.ownsRow_nil _ _ _ _, fun k hk => by simp [Value.ownBlock] at hk⟩
  · injection h with h
    subst h
    refine Or.inr ⟨b, off, rfl, ?_, fun j u hj => ?_⟩
    · by_cases he : bs = []
      · exact Or.inr he
      · have hp : 0 < bs.length := List.length_pos_iff.2 he
        exact Or.inl (show b < w.heap.size from block_lt_of_cell (hx 0 _ (List.getElem?_eq_getElem hp)))
    · have := hx j u hj
      exact (World.cell?_of_block (w := w) (hb.block b (block_lt_of_cell this))).trans this
/-- Bytes of the call's own. -/
def BytesPost (xs : List Value) (w : World) (e : Ending) (w' : World) : Prop := ∃ v', e = .returned (.tuple #[v', .int .i64 0]) ∧ w'.ownsRow w.heap.size 5 1 v' xs.length xs ∧ Below w.heap.size w w'
theorem countF_one (x : Int) : ∀ u ∈ (countF x).map (Value.int .u8), u.oneCell' = true := fun u h => by
  rw [List.mem_map] at h
  obtain ⟨a, _, rfl⟩ := h
  rfl
/-- Between two rounds: what PutCount has. -/
structure PcI (w : World) (n1 : Nat) (bs : List Value) (pre : List Int) (Y : World) : Prop where
  box : ∃ v, Y.heap[w.heap.size]? = some (.cells #[v] 57 (0, 0)) ∧ Apd Y w.heap.size (fun k => k ≠ w.heap.size + 1 ∧ k ≠ n1 ∧ k ≠ n1 + 1) v (bs ++ pre.map (Value.int .u8)) ∧ (pre ≠ [] → Y.ownsRow w.heap.size 5 1 v (bs ++ pre.map (Value.int .u8)).length (bs ++ pre.map (Value.int .u8)))
  below : Below w.heap.size w Y
  size : n1 ≤ Y.heap.size
theorem PcI.move {w : World} {n1 : Nat} {bs : List Value} {pre : List Int} {A B : World} (h : PcI w n1 bs pre A) (hn : w.heap.size + 2 ≤ n1) (hx : Nx (fun k => k = w.heap.size + 1 ∨ k = n1 + 1) A B) : PcI w n1 bs pre B := by
  obtain ⟨v, h1, h2, h3⟩ := h.box
  have hz := h.size
  have hlo : ∀ k, k < w.heap.size → B.heap[k]? = A.heap[k]? := fun k hk => hx.block k (by omega) (by omega)
  have hok : ∀ k, (k ≠ w.heap.size + 1 ∧ k ≠ n1 ∧ k ≠ n1 + 1) → k < A.heap.size → B.heap[k]? = A.heap[k]? := fun k hk hl => hx.block k hl (by omega)
  refine ⟨⟨v, (hx.block _ (by omega) (by omega)).trans h1, h2.move hlo hok, fun hp => ?_⟩, ⟨hx.os.trans h.below.os, hx.tape.trans h.below.tape, hx.output.trans h.below.output, Nat.le_trans h.below.size hx.size, fun k hk => (hlo k hk).trans (h.below.block k hk)⟩, Nat.le_trans hz hx.size⟩
  rcases h2 with ⟨h2, h4⟩ | ⟨b, off, rfl, h4, h5⟩
  · exact own_move h2 fun k e => hok k (h4 k e) (h2.lt k e).2
  · have ho := h3 hp
    refine own_move ho fun k e => ?_
    have hkl := ho.lt k e
    rcases h4 with h4 | h4
    · simp [Value.ownBlock] at e
      omega
    · exact absurd h4 (by simp [hp])
set_option maxHeartbeats 400000 in
set_option maxRecDepth 100000 in
theorem putcount_in (bs : List Value) (A : Option Addr) (c : Nat) (x : Int) (h0 : 0 ≤ x) (h1 : x < 16384) (w : World) (hr : Reads w 1 (.slice A bs.length c) bs.length bs) (hone : ∀ u ∈ bs, u.oneCell' = true) (hm : bs.length ≤ 1000000) :
    CallsIn Fence.wide 9 Tryz.prog 39 #[.slice A bs.length c, .int .i64 x] w fun e w' => BytesPost (bs ++ (countF x).map (Value.int .u8)) w e w' := by
  have h39 : Fence.wide.fn 39 := trivial
  have hx1 : ¬ x < 0 := by omega
  have hx2 : ¬ x > 2147483647 := by omega
  have hbc : bs.length ≤ c := by
    rcases hr.2 with ⟨h, _⟩ | ⟨_, _, _, h, hc, _⟩
    · injection h with _ h2 h3; omega
    · injection h with _ _ h3; omega
  have hbi : (bs.length : Int) ≤ (c : Int) := by omega
  have HR := Aside0.mk hr
  have hlc : ∀ pre rest : List Int, countF x = pre ++ rest → pre.length ≤ 2 := fun pre rest h => by
    have := congrArg List.length h
    unfold countF at this
    split at this <;> simp at this <;> omega
  clear hr
  refine callsIn_of_wp_marks Tryz.func39 rfl h39 ?_ rfl
  simp only [Tryz.ntmps39, List.size_toArray, List.length_cons, List.length_nil, Nat.reduceAdd, Nat.reduceSub, Array.replicate_succ, Array.replicate_zero, List.push_toArray, List.append_toArray, List.nil_append, List.cons_append]
  gi_wp2
  refine ⟨trivial, CallsIn.mono (groups_in _ x _) ?_⟩
  rintro e w1 ⟨rfl, rfl⟩
  gi_wp2
  obtain ⟨W0, hW0⟩ : ∃ W0, ((w.alloc (.cells #[.slice A bs.length bs.length] 57)).alloc (.cells #[.int .i64 x] 3)) = W0 := ⟨_, rfl⟩
  have b0 : Below w.heap.size w W0 := by rw [← hW0]; exact ((Below.refl _ w).alloc (Nat.le_refl _) _).alloc (by simp) _
  have s0 : W0.heap.size = w.heap.size + 2 := by rw [← hW0]; simp
  have k0 : W0.heap[w.heap.size]? = some (.cells #[.slice A bs.length bs.length] 57 (0, 0)) := by
    rw [← hW0, uOld _ _ _ (by simp)]
    exact heap_alloc_new w _
  have k1 : W0.heap[w.heap.size + 1]? = some (.cells #[.int .i64 x] 3 (0, 0)) := by
    rw [← hW0]
    have := heap_alloc_new (w.alloc (.cells #[.slice A bs.length bs.length] 57)) (.cells #[.int .i64 x] 3)
    rwa [World.size_alloc] at this
  rw [hW0]
  clear hW0
  have hap : ∀ ok, Apd W0 w.heap.size ok (.slice A bs.length bs.length) bs := fun ok => Apd.of_reads HR.out b0
  refine wpIn_rangeFunc_g (gf := 86) (lb := #[.pointer (some ⟨w.heap.size + 1, 0, none⟩)]) (encs := fun y : Int => #[.int .u8 y]) rfl (enters_of Tryz.func86 (by kernel_rfl) rfl)
    (grp_steps 8 (by omega) (w.heap.size + 1) x h0 h1) (fun _ => rfl) k1 (fun A B hA hB => hB.trans hA) (by omega)
    (PcI w W0.heap.size bs) (fun pre A B h hx => h.move (by omega) hx) ⟨⟨_, k0, by simpa using hap _, fun h => absurd rfl h⟩, b0, Nat.le_refl _⟩ ?round ?done
  case round =>
    rintro pre y rest Y hxs hI hltY
    obtain ⟨v, hv, hva, _⟩ := hI.box
    have hpl := hlc pre (y :: rest) hxs
    have hnl : (bs ++ pre.map (Value.int .u8)).length ≤ 1000002 := by rw [List.length_append, List.length_map]; omega
    gi_wp2
    refine ⟨Kp.refl _ _ _, fun V hbV hsV hoV => ?_⟩
    have hvV := (hoV w.heap.size (by omega)).trans hv
    have hvaV : Apd V w.heap.size (fun k => k ≠ w.heap.size + 1 ∧ k ≠ W0.heap.size ∧ k ≠ W0.heap.size + 1) v (bs ++ pre.map (Value.int .u8)) := hva.move (fun k hk => hoV k (by omega)) (fun k hk _ => hoV k hk.2.2)
    have cV : V.cell? ⟨w.heap.size, 0, none⟩ = some v := by simp [World.cell?, hvV]
    have fV : V.frozen? ⟨w.heap.size, 0, none⟩ = false := by simp [World.frozen?, hvV]
    have hbY := hI.below
    have hD1 : ∀ k, Y.heap.size ≤ k → k ≠ w.heap.size + 1 ∧ k ≠ W0.heap.size ∧ k ≠ W0.heap.size + 1 := fun k hk => by omega
    have hcat : bs ++ (pre ++ [y]).map (Value.int .u8) = (bs ++ pre.map (Value.int .u8)) ++ [.int .u8 y] := by rw [List.map_append, List.append_assoc]; rfl
    have HC := Aside0.mk hcat
    clear hcat hva hv hI
    generalize bs ++ pre.map (Value.int .u8) = bp at *
    obtain ⟨V1, hV1⟩ : ∃ V1, V.alloc (.cells #[.int .u8 y] 5) = V1 := ⟨_, rfl⟩
    have s1 : V1.heap.size = V.heap.size + 1 := by rw [← hV1]; simp
    have o1 : ∀ k, k < V.heap.size → V1.heap[k]? = V.heap[k]? := fun k hk => by rw [← hV1]; exact uOld _ _ _ hk
    have B1 : Below V.heap.size V V1 := by rw [← hV1]; exact (Below.refl _ _).alloc (Nat.le_refl _) _
    have cn : ∀ j u, [Value.int .u8 y][j]? = some u → V1.cell? ((⟨V.heap.size, 0, none⟩ : Addr).add j) = some u := by rw [← hV1]; exact cell_one_new _ _ _
    have hva1 : Apd V1 w.heap.size (fun k => k ≠ w.heap.size + 1 ∧ k ≠ W0.heap.size ∧ k ≠ W0.heap.size + 1) v bp := hvaV.move (fun k hk => o1 k (by omega)) (fun k hk hl => o1 k hl)
    have hbox1 : V1.heap[w.heap.size]? = some (.cells #[v] 57 (0, 0)) := (o1 _ (by omega)).trans hvV
    have hbb : Below w.heap.size w V1 := (hbY.trans (hbV.mono (by omega))).trans (B1.mono (by omega))
    have HV1 := Aside0.mk hV1
    have hok1 : ∀ k, V1.heap.size ≤ k → k ≠ w.heap.size + 1 ∧ k ≠ W0.heap.size ∧ k ≠ W0.heap.size + 1 := fun k hk => by omega
    have hwl : w.heap.size ≤ V1.heap.size := by omega
    have hwt : w.heap.size < V1.heap.size := by omega
    have HZ := Aside0.mk (And.intro s0 (And.intro s1 hsV))
    clear hV1 hvaV hvV HR hap k0 k1 s0 s1 hsV
    gi_wp2_with (gi_at_builtin; refine Aside0.out ?_)
    refine ⟨?_⟩
    rw [HV1.out]
    refine wpListIn_append_apd rfl (.tmp 23) (.tmp 25) rfl rfl w.heap.size _ v bp rfl hva1 hok1 hwl ⟨V.heap.size, 0, none⟩ 1 1 [.int .u8 y] rfl rfl (by decide) cn (by simp [Value.oneCell']) (by omega) ?_
    intro v' w2 row ho hok2 hg hrow
    obtain ⟨g', cap', rfl⟩ := ownsRow_succ ho
    have hbox2 : w2.heap[w.heap.size]? = some (.cells #[v] 57 (0, 0)) := (hg.block _ hwt (fun e => by obtain ⟨_, _, cur, hcur⟩ := hrow _ e.symm; rw [hbox1] at hcur; cases hcur)).trans hbox1
    have c2 : w2.cell? ⟨w.heap.size, 0, none⟩ = some v := by simp [World.cell?, hbox2]
    have f2 : w2.frozen? ⟨w.heap.size, 0, none⟩ = false := by simp [World.frozen?, hbox2]
    gi_wp2
    obtain ⟨s0, s1, hsV⟩ := HZ.out
    have hl1 : (bp ++ [Value.int .u8 y]).length = bp.length + 1 := by simp
    have hw2 := hg.size
    have hrow2 : ∀ k, k ≠ w.heap.size → k < V1.heap.size → (k < w.heap.size ∨ k = w.heap.size + 1 ∨ k = W0.heap.size + 1 ∨ k = W0.heap.size ∨ ∀ cur, V1.heap[k]? ≠ some (.cells cur 5 (0, 0))) → ((w2.setCell ⟨w.heap.size, 0, none⟩ (.slice (some ⟨g', 0, none⟩) (bp.length + 1) cap')).heap[k]? = V1.heap[k]?) := fun k hk hl hor => by
      refine (Below.heap_setCell w2 _ _ k hk).trans (hg.block k hl fun e => ?_)
      obtain ⟨h1, h2, cur, h3⟩ := hrow k e.symm
      rcases hor with h | h | h | h | h
      · omega
      · exact h2.1 h
      · exact h2.2.2 h
      · exact h2.2.1 h
      · exact h cur h3
    refine ⟨⟨by simp [World.setCell]; omega, ?_, ?_, ?_⟩, ⟨⟨_, blk_put hbox2 0 _ rfl, ?_, fun _ => ?_⟩, ⟨?_, ?_, ?_, by simp [World.setCell]; have := hbb.size; omega, fun k hk => ?_⟩, by simp [World.setCell]; omega⟩⟩
    · exact (hrow2 _ (by omega) (by omega) (by omega)).trans (o1 _ (by omega))
    · exact (hrow2 _ (by omega) (by omega) (by omega)).trans (o1 _ (by omega))
    · exact (hrow2 _ (by omega) (by omega) (by omega)).trans (o1 _ (by omega))
    · rw [HC.out]
      refine Or.inl ⟨?_, hok2⟩
      rw [hl1]
      exact own_move ho fun k e => Below.heap_setCell w2 _ _ k (fun e2 => by
        obtain ⟨cur, hcur⟩ := own_typed ho k e
        rw [show k = w.heap.size from e2, hbox2] at hcur
        cases hcur)
    · rw [HC.out, hl1]
      exact own_move ho fun k e => Below.heap_setCell w2 _ _ k (fun e2 => by
        obtain ⟨cur, hcur⟩ := own_typed ho k e
        rw [show k = w.heap.size from e2, hbox2] at hcur
        cases hcur)
    · exact hg.os.trans hbb.os
    · exact hg.tape.trans hbb.tape
    · exact hg.output.trans hbb.output
    · exact (hrow2 k (by omega) (by omega) (Or.inl hk)).trans (hbb.block k hk)
  case done =>
    rintro Y hI hltY hD
    obtain ⟨v, h1, _, h3⟩ := hI.box
    have hne : countF x ≠ [] := by unfold countF; split <;> simp
    have ho := h3 hne
    have cY : Y.cell? ⟨w.heap.size, 0, none⟩ = some v := by simp [World.cell?, h1]
    have hb := hI.below
    clear hI h1 h3 hne HR hap k0 k1 b0
    gi_wp2
    refine ⟨by simp, .inl ⟨_, _, rfl, run_takeDeferred hD, ?_⟩⟩
    refine ⟨_, results_tmp2 rfl _ _ _, ?_⟩
    have hb2 : Below w.heap.size w (Y.putObj W0.heap.size (.deferred none)) := hb.trans (below_putObj (by omega) _ hD)
    exact ⟨v, rfl, own_move ho fun k e => World.putObj_heap_other (fun e2 => by
      obtain ⟨cur, hcur⟩ := own_typed ho k e
      rw [e2, hD] at hcur
      cases hcur), hb2⟩
theorem putcount_c (bs : List Value) (A : Option Addr) (c : Nat) (x : Int) (h0 : 0 ≤ x) (h1 : x < 16384) (w : World) (hr : Reads w 1 (.slice A bs.length c) bs.length bs) (hone : ∀ u ∈ bs, u.oneCell' = true) (hm : bs.length ≤ 1000000) :
    Calls Tryz.prog 39 #[.slice A bs.length c, .int .i64 x] w fun e w' => BytesPost (bs ++ (countF x).map (Value.int .u8)) w e w' := (callsIn_wide (n := 9)).1 (putcount_in bs A c x h0 h1 w hr hone hm)
end Go.Proofs.YtadkeohohehmcaaGreatDoor.Top
end
section
/- Bytes laid: a version's and a head's parts. -/
namespace Go.Proofs.YtadkeohohehmcaaGreatDoor.Top
open Go.RowKit Go.Proofs.YtadkeohohehmcaaGreatDoorW.PrintWords Go.Proofs.YtadkeohohehmcaaGreatDoorW.PrintLast Go.Proofs.YtadkeohohehmcaaGreatDoorW.PrintMore Go.Proofs.YtadkeohohehmcaaGreatDoor.PTop
set_option linter.unusedVariables false
set_option linter.unusedSimpArgs false
attribute [local go_sem] Oper.semAt_some

abbrev u8s (b : List Int) : List Value := b.map (Value.int .u8)
theorem u8s_one (b : List Int) : ∀ u ∈ u8s b, u.oneCell' = true := fun u h => by
  rw [u8s, List.mem_map] at h
  obtain ⟨a, _, rfl⟩ := h
  rfl
theorem strCells_sbs (s : ByteArray) : Lib.strCells s = u8s (sbs s) := by
  simp [Lib.strCells, sbs, u8s]
/-- Bytes in a row, some slice. -/
theorem Reads.form {w : World} {k n : Nat} {v : Value} {xs : List Value} (h : Reads w k v n xs) : ∃ A c, v = .slice A n c ∧ n ≤ c := by
  rcases h.2 with ⟨rfl, h0⟩ | ⟨b, off, c, rfl, hc, _⟩
  · exact ⟨none, 0, by rw [h0], by omega⟩
  · exact ⟨_, c, rfl, hc⟩
theorem sha_reads (KS : List Int) (v : Value) (b : List Int) (w : World) (hk : HKey KS w) (hr : Reads w 1 v b.length (u8s b)) (hn : b.length < 1000000000) :
    Calls Tryz.prog 22 #[v] w fun e w' => e = .returned (dv (shaF KS b)) ∧ Below w.heap.size w w' := by
  obtain ⟨A, c, rfl, hc⟩ := hr.form
  rcases hr.2 with ⟨h, h0⟩ | ⟨sb, so, c', h, hc', hx⟩
  · exact sha_c KS A c b 0 0 w hk ⟨fun h => by omega, hc, fun h => by omega, fun j hj => by omega⟩ (by omega)
  · injection h with h1 _ h2
    subst h1
    have hx' : ∀ j, j < b.length → w.cell? ⟨sb, so + j, none⟩ = some (.int .u8 b[j]!) := fun j hj => hx j _ (by rw [u8s, List.getElem?_map, List.getElem?_eq_getElem hj, getElem!_pos b j hj]; rfl)
    exact sha_c KS _ c b sb so w hk ⟨fun _ => rfl, hc, fun hp => by have h3 : sb < w.heap.size := block_lt_of_cell (hx' 0 (by omega)); omega, hx'⟩ (by omega)
/-- The laid bytes. -/
def LaidP (w : World) (lb n0 : Nat) (xs : List Int) : Prop := ∃ v, w.heap[lb]? = some (.cells #[v] 158 (0, 0)) ∧ w.ownsRow n0 5 1 v xs.length (u8s xs)
set_option maxHeartbeats 2000000 in
set_option maxRecDepth 100000 in
theorem count_c (xs : List Int) (x : Int) (h0 : 0 ≤ x) (h1 : x < 16384) (lb n0 : Nat) (w : World) (hl : LaidP w lb n0 xs) (hn0 : n0 ≤ w.heap.size) (hm : xs.length ≤ 1000000) :
    Calls Tryz.prog 84 #[.pointer (some ⟨lb, 0, none⟩), .int .i64 x] w fun e w' => e = .returned (.tuple #[]) ∧ LaidP w' lb n0 (xs ++ countF x) ∧ Tou [lb] w w' := by
  obtain ⟨v, hv, ho⟩ := hl
  have hlt : lb < w.heap.size := (Array.getElem?_eq_some_iff.1 hv).1
  have hrd := Reads.of_own ho
  obtain ⟨A, c, rfl, hc⟩ := hrd.form
  have hul : (u8s xs).length = xs.length := by simp
  have PC := putcount_c (u8s xs) A c x h0 h1 w (by rw [hul]; exact hrd) (u8s_one xs) (by rw [hul]; exact hm)
  rw [hul] at PC
  have HPC := Aside0.mk PC
  have cv : w.cell? ⟨lb, 0, none⟩ = some (.slice A xs.length c) := by simp [World.cell?, hv]
  have HV := Aside0.mk hv
  clear PC hrd ho hv
  have hct : (u8s xs ++ u8s (countF x)).length = xs.length + (countF x).length := by simp
  have hcl : (countF x).length ≠ 0 := by unfold countF; split <;> simp
  obtain ⟨m, hm2⟩ : ∃ m, (countF x).length = m + 1 := ⟨(countF x).length - 1, by omega⟩
  have hct2 : (xs ++ countF x).length = xs.length + m + 1 := by rw [List.length_append]; omega
  go_enter Tryz.func84, Tryz.ntmps84
  go_wp2_with (go_at_call 39; refine HPC.out.mono ?_; rintro e W1 ⟨v', rfl, ho', hb⟩; refine Aside0.out ?_)
  refine ⟨?_⟩
  rw [show (u8s xs ++ u8s (countF x)).length = xs.length + m + 1 by omega] at ho'
  obtain ⟨g', cap', rfl⟩ := ownsRow_succ ho'
  have h1v := (hb.block lb hlt).trans HV.out
  have c1 : W1.cell? ⟨lb, 0, none⟩ = some (.slice A xs.length c) := by simp [World.cell?, h1v]
  have f1 : W1.frozen? ⟨lb, 0, none⟩ = false := by simp [World.frozen?, h1v]
  go_wp2_with fail
  go_end0
  refine ⟨rfl, ⟨_, blk_put h1v 0 _ rfl, ?_⟩, ((Tou.of_below _ hb).setCell (List.mem_singleton.2 rfl) _)⟩
  rw [hct2, show u8s (xs ++ countF x) = u8s xs ++ u8s (countF x) by simp]
  refine own_move (own_weaken ho' hn0) fun k e => Below.heap_setCell W1 _ _ k fun e2 => ?_
  obtain ⟨cur, hcur⟩ := own_typed ho' k e
  rw [show k = lb from e2, h1v] at hcur
  cases hcur
/-- octet.PutBytes. -/
def strF (s : ByteArray) : List Int := countF s.size ++ sbs s
set_option maxHeartbeats 2000000 in
set_option maxRecDepth 100000 in
theorem putbytes_c (xs : List Int) (A : Option Addr) (c : Nat) (s : ByteArray) (hs : s.size < 16384) (w : World) (hr : Reads w 1 (.slice A xs.length c) xs.length (u8s xs)) (hm : xs.length ≤ 1000000) :
    Calls Tryz.prog 85 #[.slice A xs.length c, .string s] w fun e w' => BytesPost (u8s (xs ++ strF s)) w e w' := by
  have hul : (u8s xs).length = xs.length := by simp
  have PC := putcount_c (u8s xs) A c (s.size : Int) (by omega) (by omega) w (by rw [hul]; exact hr) (u8s_one xs) (by rw [hul]; exact hm)
  rw [hul] at PC
  have HPC := Aside0.mk PC
  clear PC hr
  have hng : ¬ ((s.size : Int) > 65536) := by omega
  have hct : (u8s xs ++ u8s (countF s.size)).length = (xs ++ countF s.size).length := by simp
  have hcat : u8s (xs ++ strF s) = u8s xs ++ u8s (countF s.size) ++ Lib.strCells s := by rw [strCells_sbs]; simp [strF]
  have hcl : (xs ++ countF s.size).length ≤ xs.length + 2 := by
    rw [List.length_append]
    have : (countF s.size).length ≤ 2 := by unfold countF; split <;> simp
    omega
  obtain ⟨i, hi, hz, hsz, hby⟩ := info_of info5
  have hd : xs.length + (countF s.size).length = (xs ++ countF s.size).length := by simp
  go_enter Tryz.func85, Tryz.ntmps85
  go_wp2_with (go_at_call 39; refine HPC.out.mono ?_; rintro e W1 ⟨v', rfl, ho', hb⟩; refine Aside0.out ?_)
  refine ⟨?_⟩
  rw [hct] at ho'
  generalize (xs ++ countF s.size).length = n at *
  have hw1 := hb.size
  go_upto_region 4 with fail
  go_wp2_with (at_builtin; refine Aside0.out ?_)
  refine ⟨?_⟩
  refine (Lib.wpList_append_own_string _ rfl (.tmp 18) (.tmp 19) 57 9 rfl w.heap.size 5 i Tryz.underlying57 Tryz.underlying9 hi hz hsz hby v' n _ rfl ho' s rfl (by simp only [maxLen]; omega) (by omega) hw1 ?_)
  intro v2 W2 ho2 hg2 _
  go_wp2_with fail
  refine bodyPost_ret (results_tmp2 rfl _ _ _) rfl ?_
  refine ⟨v2, rfl, ?_, hb.grown hg2 hw1 fun k e => (ho'.lt k e).1⟩
  rw [hcat]
  have e1 : (u8s xs ++ u8s (countF s.size) ++ Lib.strCells s).length = n + s.size := by rw [List.length_append, hct, Lib.strCells_length]
  rw [e1]
  exact ho2
theorem wp_append_apd {w : World} {o : Oper} {a : Act} {K : Act → World → Prop} {Q : Exit → Act → World → Prop} (s x : Operand)
    (ho : o.op = .call { callee := .builtin .append, args := #[s, x], argTypes := #[57, 57] }) (hty : o.type = 57)
    (n0 : Nat) (ok : Nat → Prop) (v : Value) (xs : List Value) (hs : a.eval s = v) (h : Apd w n0 ok v xs) (hok : ∀ k, w.heap.size ≤ k → ok k) (hb0 : n0 ≤ w.heap.size)
    (ad : Addr) (m c : Nat) (news : List Value) (hx : a.eval x = .slice (some ad) m c) (hl : news.length = m) (hm : 0 < m) (hnews : ∀ j u, news[j]? = some u → w.cell? (ad.add j) = some u) (h1 : ∀ u ∈ news, u.oneCell' = true) (hsz : xs.length + m ≤ 1000000000)
    (hK : ∀ v' w' row, w'.ownsRow n0 5 1 v' (xs.length + m) (xs ++ news) → (∀ k, v'.ownBlock = some k → ok k) → w.grownBy w' row → (∀ k, row = some k → n0 ≤ k ∧ ok k ∧ ∃ cur, w.heap[k]? = some (.cells cur 5 (0, 0))) → K (a.put o.dst v') w') : o.wp Tryz.prog a w K Q := by
  obtain ⟨v', w', row, hr, h2, h3, h4, h5⟩ := run_append_apd w n0 ok v xs h hok hb0 ad m c news hl hm hnews h1 hsz
  unfold Oper.wp execOp
  simp only [ho, hty, resolve, invoke, builtin, Sem.run_bind, Sem.run_pure, Result.andThen_ok, List.map_toArray, List.map_cons, List.map_nil, hs, hx, hr]
  exact hK v' w' row h2 h3 h4 h5
/-- Bytes of the call's own, alone. -/
def BytesPost1 (xs : List Value) (w : World) (e : Ending) (w' : World) : Prop := ∃ v', e = .returned v' ∧ w'.ownsRow w.heap.size 5 1 v' xs.length xs ∧ Below w.heap.size w w'
set_option maxHeartbeats 2000000 in
set_option maxRecDepth 100000 in
theorem putdigest_c (xs : List Int) (A : Option Addr) (c : Nat) (d : List Int) (hd : d.length = 32) (w : World) (hr : Reads w 1 (.slice A xs.length c) xs.length (u8s xs)) (hm : xs.length ≤ 1000000) :
    Calls Tryz.prog 40 #[.slice A xs.length c, dv d] w fun e w' => BytesPost1 (u8s (xs ++ d)) w e w' := by
  have hbc : xs.length ≤ c := by
    obtain ⟨A', c', h, hc⟩ := hr.form
    injection h with _ _ h3; omega
  have hbi : (xs.length : Int) ≤ (c : Int) := by omega
  have hul : (u8s xs).length = xs.length := by simp
  have hi31 := info31 d hd
  have h1c := dig_one d
  unfold dv
  have hcs : (u8s d).toArray = (d.map (Value.int .u8)).toArray := rfl
  obtain ⟨cs, hcs2⟩ : ∃ cs, cs = (d.map (Value.int .u8)).toArray := ⟨_, rfl⟩
  rw [← hcs2] at hi31 h1c ⊢
  have hap : Apd (w.alloc (.cells cs 31)).drew w.heap.size (fun _ => True) (.slice A xs.length xs.length) (u8s xs) := by
    have := Apd.of_reads (ok := fun _ => True) (w := w) (W := (w.alloc (.cells cs 31)).drew) (A := A) (c := c) (bs := u8s xs) (by rw [hul]; exact hr) (((Below.refl _ w).alloc (Nat.le_refl _) _).drew)
    rwa [hul] at this
  have hsl := fun w' => slice31 w.heap.size w'
  have k1 : (w.alloc (.cells cs 31)).drew.heap[w.heap.size]? = some (.cells cs 31 (0, 0)) := blk_new w _
  have hnews : ∀ j u, (u8s d)[j]? = some u → (w.alloc (.cells cs 31)).drew.cell? ((⟨w.heap.size, 0, none⟩ : Addr).add j) = some u := fun j u hj => by
    rw [Addr.add_lit, Nat.zero_add]
    have : (w.alloc (.cells cs 31)).drew.cell? ⟨w.heap.size, j, none⟩ = cs[j]? := by simp only [World.cell?, k1]; rfl
    rw [this, hcs2]
    simpa [u8s] using hj
  have HAP := Aside0.mk hap
  have HNW := Aside0.mk hnews
  have hdl : (u8s d).length = 32 := by simp [hd]
  have hw1 : w.heap.size ≤ (w.alloc (.cells cs 31)).drew.heap.size := by simp
  have bW : Below w.heap.size w (w.alloc (.cells cs 31)).drew := ((Below.refl _ w).alloc (Nat.le_refl _) _).drew
  have HB := Aside0.mk (And.intro hw1 bW)
  clear hr hap hnews hcs hcs2 k1 hw1 bW
  go_enter Tryz.func40, Tryz.ntmps40
  go_upto_region 1 with fail
  obtain ⟨W1, hW1⟩ : ∃ W1, w.alloc (.cells cs 31) = W1 := ⟨_, rfl⟩
  rw [hW1]
  refine wp_region_held_drew (S := (fun _ => True)) (by kernel_rfl) (by trivial) (fun hHeld => ?_)
  refine wpAnyH_take (i := 0) (oi := _) (v := ?_) rfl (by kernel_rfl) (by kernel_rfl) (by kernel_rfl) (fun _ _ _ h => h) (Or.inl ⟨by rfl, ?_⟩) (by assumption) ?_
  rotate_left
  · (intro w hSw; (try dsimp only at hSw); go_simp; (try with_reducible rfl))
  (try simp only [uA, uB, uC, uD, uE, uF, uG, uH])
  refine wpAnyH_take (i := 1) (oi := _) (v := ?_) rfl (by kernel_rfl) (by kernel_rfl) (by kernel_rfl) (fun _ _ _ h => h) (Or.inl ⟨by rfl, ?_⟩) (by assumption) ?_
  rotate_left
  · (intro w hSw; (try dsimp only at hSw); go_simp; (try with_reducible rfl))
  (try simp only [uA, uB, uC, uD, uE, uF, uG, uH])
  refine wpAnyH_take (i := 2) (oi := _) (v := ?_) rfl (by kernel_rfl) (by kernel_rfl) (by kernel_rfl) (fun _ _ _ h => h) (Or.inl ⟨by rfl, ?_⟩) (by assumption) ?_
  rotate_left
  · (intro w hSw; (try dsimp only at hSw); go_simp; (try with_reducible rfl))
  (try simp only [uA, uB, uC, uD, uE, uF, uG, uH])
  refine wpAnyH_take (i := 3) (oi := _) (v := ?_) rfl (by kernel_rfl) (by kernel_rfl) (by kernel_rfl) (fun _ _ _ h => h) (Or.inl ⟨by rfl, ?_⟩) (by assumption) ?_
  rotate_left
  · (intro w hSw; (try dsimp only at hSw); go_simp; (try with_reducible rfl))
  (try simp only [uA, uB, uC, uD, uE, uF, uG, uH])
  refine wpAnyH_take (i := 4) (oi := _) (v := ?_) rfl (by kernel_rfl) (by kernel_rfl) (by kernel_rfl) (fun _ _ _ h => h) (Or.inl ⟨by rfl, ?_⟩) (by assumption) ?_
  rotate_left
  · (intro w hSw; (try dsimp only at hSw); go_simp; (try with_reducible rfl))
  (try simp only [uA, uB, uC, uD, uE, uF, uG, uH])
  refine wpAnyH_take (i := 5) (oi := _) (v := ?_) rfl (by kernel_rfl) (by kernel_rfl) (by kernel_rfl) (fun _ _ _ h => h) (Or.inl ⟨by rfl, ?_⟩) (by assumption) ?_
  rotate_left
  · (intro w hSw; (try dsimp only at hSw); go_simp; (try with_reducible rfl))
  (try simp only [uA, uB, uC, uD, uE, uF, uG, uH])
  refine wpAnyH_take (i := 6) (oi := _) (v := ?_) rfl (by kernel_rfl) (by kernel_rfl) (by kernel_rfl) (fun _ _ _ h => h) (Or.inl ⟨by rfl, ?_⟩) (by assumption) ?_
  rotate_left
  · (intro w hSw; (try dsimp only at hSw); go_simp; (try with_reducible rfl))
  (try simp only [uA, uB, uC, uD, uE, uF, uG, uH])
  refine wpAnyH_ready (rs := [7]) (by kernel_rfl) (by decide) (AllReadyH.cons rfl (fun K' hK => ?_) AllReadyH.nil)
  rw [if_pos (by rfl)]
  obtain ⟨hw1, bW⟩ := HB.out
  rw [hW1] at hw1 bW HAP HNW
  refine wp_append_apd (.tmp 10) (.tmp 11) rfl rfl w.heap.size (fun _ => True) (.slice A xs.length xs.length) (u8s xs) rfl HAP.out (fun _ _ => trivial) hw1 ⟨w.heap.size, 0, none⟩ 32 32 (u8s d) rfl hdl (by decide) HNW.out (u8s_one d) (by omega) ?_
  intro v' W2 row ho' _ hg hrow
  (try dsimp only)
  refine hK.out _ _ trivial (fun hHeld => ?_)
  clear hK
  (try simp only [uA, uB, uC, uD, uE, uF, uG, uH])
  refine wpAnyH_take (i := 8) (oi := _) (v := ?_) rfl (by kernel_rfl) (by kernel_rfl) (by kernel_rfl) (fun _ _ _ h => h) (Or.inl ⟨by rfl, ?_⟩) (by assumption) ?_
  rotate_left
  · (intro w hSw; (try dsimp only at hSw); go_simp; (try with_reducible rfl))
  (try simp only [uA, uB, uC, uD, uE, uF, uG, uH])
  refine wpAnyH_done (by kernel_rfl) ?_ _
  go_wp2_with fail
  go_ret
  refine ⟨v', rfl, ?_, bW.grown hg hw1 fun k e => (hrow k e).1⟩
  have e1 : (u8s (xs ++ d)).length = (u8s xs).length + 32 := by simp [hd]
  rw [e1, show u8s (xs ++ d) = u8s xs ++ u8s d by simp]
  exact ho'
end Go.Proofs.YtadkeohohehmcaaGreatDoor.Top
end
