/- slices.Backward over entries. -/
import Derived.Test.YtpjachbmllklgaaRange
import Derived.Test.YtpjachbmllklgaaWide
import Derived.Test.YtpjachbmllklgaaProg
namespace Go.Proofs.Ytpjachbmllklgaa.Rng
open Go.RowKit Go.Shelf
set_option linter.unusedVariables false
set_option linter.unusedSimpArgs false
attribute [local go_sem] Oper.semAt_some

/-- Entries as they lie: each 43 cells. -/
def Row (W : World) (b off : Nat) (css : List (List Value)) : Prop := ∀ j, j < css.length → W.rangeAt b (off + j * 43) css[j]!
theorem Row.same {A B : World} {b off : Nat} {css : List (List Value)} (h : Row A b off css) (hb : B.heap[b]? = A.heap[b]?) : Row B b off css := fun j hj i v hi => by
  have := h j hj i v hi
  simpa [World.cell?, hb] using this
/-- The last m of them, the last one first. -/
def bw (css : List (List Value)) : Nat → List (Nat × List Value)
  | 0 => []
  | m + 1 => (m, css[m]!) :: bw css m
theorem back_steps (n : Nat) (hn : 1 ≤ n) (bx b off cap : Nat) (A : Option Addr) (css : List (List Value)) (hA : 0 < css.length → A = some ⟨b, off, none⟩) (h43 : ∀ j, j < css.length → css[j]!.length = 43) (hlen : css.length ≤ 1000000) :
    Steps n Try.prog 65 #[.pointer (some ⟨bx, 0, none⟩)] (fun x : Nat × List Value => #[.int .i64 (x.1 : Int), .agg x.2.toArray]) (bw css css.length)
      (fun W => W.cell? ⟨bx, 0, none⟩ = some (.slice A css.length cap) ∧ Row W b off css) (fun k => k = bx ∨ k = b) := by
  intro l J Jx W hH hul hlW hJ hJx hY h0
  have h65 : Fence.wide.fn 65 := trivial
  refine callsIn_of_wp Try.func65 rfl h65 ?_ rfl
  simp only [Try.ntmps65, List.size_toArray, List.length_cons, List.length_nil, Nat.reduceAdd, Nat.reduceSub, Array.replicate_succ, Array.replicate_zero, List.push_toArray, List.append_toArray, List.nil_append, List.cons_append]
  have hbx := hH.1
  gi_wp2
  have hlast : W.heap.size = W.heap.size := rfl
  gi_loopw [3] (fun i wr => ∃ (m : Nat) (pre : List (Nat × List Value)), m ≤ css.length ∧ i = .int .i64 ((m : Int) - 1) ∧ bw css css.length = pre ++ bw css m ∧ J pre wr ∧ l < wr.heap.size ∧ wr.cell? ⟨bx, 0, none⟩ = some (.slice A css.length cap) ∧ Row wr b off css)
    (fun i _ => (intOf i + 1).toNat)
  case atStart => exact ⟨css.length, [], Nat.le_refl _, rfl, rfl, h0, hlW, hH.1, hH.2⟩
  case round =>
    obtain ⟨m, pre, hm, rfl, hpre, hJs, hlt, hcx, hrow⟩ := hrel
    cases m with
    | zero =>
      gi_wp2
      go_end0
      exact ⟨⟨_, rfl⟩, .inl (by simpa [bw] using hJs)⟩
    | succ m =>
      obtain rfl := hA (by omega)
      clear hA
      obtain ⟨fn, tmps, assign, body, hy, hR⟩ := hY pre (m, css[m]!) (bw css m) wr hpre hJs hlt
      dsimp only at hy
      have hrg := hrow m (by omega)
      have hc43 := h43 m (by omega)
      have hge : (0 : Int) ≤ ((m + 1 : Nat) : Int) - 1 := by omega
      have hidx : ((m + 1 : Nat) : Int) - 1 = (m : Int) := by omega
      have hlt2 : (m : Int) < (css.length : Int) := by omega
      rw [hidx]
      generalize hcs : css[m]! = cs at *
      have hi59 : (Try.prog.info? 59).map (·.size) = some cs.length := by rw [hc43]; kernel_rfl
      gi_wp2_with (refine wpListIn_load_mid rfl 59 (.tmp 15) rfl b (off + m * 43) rfl cs _ hrg Try.underlying59 rfl hi59 ?_)
      refine hR.mono ?_
      rintro e W3 (⟨rfl, hJ3, hr3⟩ | ⟨rfl, hJx3, hr3⟩)
      · have hx3 : W3.cell? ⟨bx, 0, none⟩ = some (.slice (some ⟨b, off, none⟩) css.length cap) := by
          have := hr3.used bx (.inl rfl)
          simpa [World.cell?, this] using hcx
        have hw3 := hrow.same (hr3.used b (.inr rfl))
        have hl3 : l < W3.heap.size := Nat.lt_of_lt_of_le hlt hr3.size
        gi_wp2
        go_roundw
        case rel => exact ⟨m, pre ++ [(m, cs)], by omega, rfl, by rw [hpre]; simp [bw, hcs], hJ3, hl3, hx3, hw3⟩
        case measure => first | (simp [intOf]; done) | (simp [intOf]; omega)
      · gi_wp2
        refine bodyPost_ret (results_none rfl _ _ _) rfl ?_
        exact ⟨⟨_, rfl⟩, .inr ⟨pre, (m, cs), bw css m, by rw [hpre]; simp [bw, hcs], hJx3⟩⟩

/-- slices.Backward: the slice is boxed; the function value captures the box. -/
theorem backward_in (n : Nat) (A : Option Addr) (len cap : Nat) (w : World) :
    CallsIn Fence.wide n Try.prog 45 #[.slice A len cap] w fun e w' => e = .returned (.func (.func 65) #[] #[.pointer (some ⟨w.heap.size, 0, none⟩)]) ∧ w' = w.alloc (.cells #[.slice A len cap] 27) := by
  have h45 : Fence.wide.fn 45 := trivial
  refine callsIn_of_wp Try.func45 rfl h45 ?_ rfl
  simp only [Try.ntmps45, List.size_toArray, List.length_cons, List.length_nil, Nat.reduceAdd, Nat.reduceSub, Array.replicate_succ, Array.replicate_zero, List.push_toArray, List.append_toArray, List.nil_append, List.cons_append]
  gi_wp2
  go_ret
  exact ⟨rfl, rfl⟩
theorem roundIn_wide {n m l k : Nat} {P : Program} {f : FuncId} {tmps : Array Value} {assign body : Code} {w : World} {R : Ending → World → Prop} (h : RoundIn Fence.wide n P l f tmps assign body w R) : RoundIn (Fence.wide.inRound k) m P l f tmps assign body w R :=
  ⟨trivial, fun c cs _ => h.2 c cs (room_wide _)⟩
theorem roundIn_wide' {n m l : Nat} {P : Program} {f : FuncId} {tmps : Array Value} {assign body : Code} {w : World} {R : Ending → World → Prop} (h : RoundIn Fence.wide n P l f tmps assign body w R) : RoundIn Fence.wide m P l f tmps assign body w R :=
  ⟨trivial, fun c cs _ => h.2 c cs (room_wide _)⟩
end Go.Proofs.Ytpjachbmllklgaa.Rng
