/- What a log is, and whether it goes on: Check and sound. -/
import Derived.Test.YtpjachbmllklgaaDown
import Derived.WalkSpells
import Derived.WalkMore
import Derived.Deep.LoopGhost
import Derived.Deep.Draws
import Derived.Laws.Rows
import Derived.Test.YtpjachbmllklgaaWWords
namespace Go.Proofs.Ytpjachbmllklgaa.Rng
open Go.RowKit Go.Proofs.YtpjachbmllklgaaW.PrintWords
set_option linter.unusedVariables false
set_option linter.unusedSimpArgs false

/-- What a node saves, as a value. -/
structure Sv where
  t : Int
  v : Int
  si : Int
  st : Int
  Va : Option Addr
  Vn : Nat
  Vc : Nat
  La : Option Addr
  Ln : Nat
  Lc : Nat
  d : ByteArray
  A : Option Addr
  n : Nat
  cap : Nat
  Ga : Option Addr
  Gn : Nat
  Gc : Nat
def Sv.cells (s : Sv) : Array Value := #[.int .i64 s.t, .int .i64 s.v, .int .i64 s.si, .int .i64 s.st, .slice s.Va s.Vn s.Vc, .slice s.La s.Ln s.Lc, .string s.d, .slice s.A s.n s.cap, .slice s.Ga s.Gn s.Gc]
def Sv.none : Sv := ⟨0, 0, 0, 0, Option.none, 0, 0, Option.none, 0, 0, ⟨#[]⟩, Option.none, 0, 0, Option.none, 0, 0⟩
/-- A log's entries, as they lie. -/
structure Lg (W : World) (s : Sv) (b off : Nat) (css : List (List Value)) : Prop where
  n : s.n = css.length
  A : 0 < css.length → s.A = some ⟨b, off, Option.none⟩
  row : Row W b off css
  e : ∀ j, j < css.length → IsE css[j]!
  rng : ∀ j, j < css.length → -9223372036854775808 ≤ (itOf css[j]!).1 ∧ (itOf css[j]!).1 ≤ 9223372036854775807
  len : css.length ≤ 1000000
  b : b < W.heap.size ∨ css = []
theorem Lg.below {W W' : World} {s : Sv} {b off : Nat} {css : List (List Value)} (h : Lg W s b off css) (hb : Below W.heap.size W W') : Lg W' s b off css := by
  refine ⟨h.n, h.A, ?_, h.e, h.rng, h.len, ?_⟩
  · rcases h.b with g | g
    · exact h.row.same (hb.block b g)
    · subst g; intro j hj; simp at hj
  · rcases h.b with g | g
    · exact .inl (Nat.lt_of_lt_of_le g hb.size)
    · exact .inr g
/-- From a number on, each one more. -/
def goesB : Int → List (Int × Int) → Bool
  | _, [] => true
  | k, e :: l => decide (e.1 = k + 1) && goesB (k + 1) l
def checkB (si : Int) (l : List (Int × Int)) : Bool := decide (0 ≤ si) && decide (si ≤ 900000000) && decide (l.length ≤ 9000) && goesB si l
theorem goesB_iff : ∀ (l : List (Int × Int)) (k : Int), goesB k l = true ↔ ∀ j, j < l.length → l[j]!.1 = k + 1 + j
  | [], k => by simp [goesB]
  | e :: l, k => by
    rw [goesB, Bool.and_eq_true, decide_eq_true_eq, goesB_iff l (k + 1)]
    constructor
    · rintro ⟨h1, h2⟩ j hj
      cases j with
      | zero => simpa using h1
      | succ j =>
        have := h2 j (by simpa using hj)
        simp only [List.getElem!_cons_succ]
        omega
    · intro h
      refine ⟨by simpa using h 0 (by simp), fun j hj => ?_⟩
      have := h (j + 1) (by simpa using hj)
      simp only [List.getElem!_cons_succ] at this
      omega
def its (css : List (List Value)) : List (Int × Int) := css.map itOf
theorem its_get (css : List (List Value)) (j : Nat) (h : j < css.length) : (its css)[j]! = itOf css[j]! := by
  rw [getElem!_pos (its css) j (by simpa [its] using h), getElem!_pos css j h]
  simp [its]
theorem its_length (css : List (List Value)) : (its css).length = css.length := by simp [its]

set_option maxHeartbeats 8000000 in
set_option maxRecDepth 100000 in
theorem check_c (s : Sv) (b off : Nat) (css : List (List Value)) (w : World) (h : Lg w s b off css) :
    Calls Try.prog 10 #[.agg s.cells] w fun e w' => e = .returned (.int .i64 (if checkB s.si (its css) then 0 else 1)) ∧ Below w.heap.size w w' := by
  have hn := h.n
  obtain ⟨t, v, si, st, Va, Vn, Vc, La, Ln, Lc, d, A, n, cap, Ga, Gn, Gc⟩ := s
  dsimp only at hn ⊢
  subst hn
  unfold Sv.cells
  dsimp only
  by_cases g1 : si < 0
  · have hc : checkB si (its css) = false := by simp [checkB]; omega
    rw [hc]
    clear h hc
    go_enter Try.func10, Try.ntmps10
    go_wp2
    go_ret
    exact ⟨rfl, (Below.refl _ w).alloc (Nat.le_refl _) _⟩
  by_cases g2 : si > 900000000
  · have hc : checkB si (its css) = false := by simp [checkB]; omega
    rw [hc]
    clear h hc
    go_enter Try.func10, Try.ntmps10
    go_wp2
    go_ret
    exact ⟨rfl, (Below.refl _ w).alloc (Nat.le_refl _) _⟩
  by_cases g3 : (css.length : Int) > 9000
  · have hc : checkB si (its css) = false := by simp [checkB, its_length]; omega
    rw [hc]
    clear h hc
    go_enter Try.func10, Try.ntmps10
    go_wp2
    go_ret
    exact ⟨rfl, (Below.refl _ w).alloc (Nat.le_refl _) _⟩
  have H := Aside0.mk h
  clear h
  generalize hrv : (if checkB si (its css) = true then (0 : Int) else 1) = rv
  have RV := Aside0.mk hrv
  clear hrv
  go_enter Try.func10, Try.ntmps10
  go_wp2_with fail
  obtain ⟨W0, hW0⟩ : ∃ W0, w.alloc (.cells #[.int .i64 t, .int .i64 v, .int .i64 si, .int .i64 st, .slice Va Vn Vc, .slice La Ln Lc, .string d, .slice A css.length cap, .slice Ga Gn Gc] 30) = W0 := ⟨_, rfl⟩
  have hb0 : Below w.heap.size w W0 := by rw [← hW0]; exact (Below.refl _ w).alloc (Nat.le_refl _) _
  have hc2 : W0.cell? ⟨w.heap.size, 2, none⟩ = some (.int .i64 si) := by rw [← hW0]; simp
  have hs0 : w.heap.size < W0.heap.size := by rw [← hW0]; simp
  rw [hW0]
  have HW := Aside0.mk hW0
  clear hW0
  go_loopg [24] css.length (fun gg s24 wr => ∃ kk : Nat, kk ≤ css.length ∧ css.length - kk ≤ gg ∧ s24 = .int .i64 kk ∧ Aside (Below W0.heap.size W0 wr) ∧ Aside (∀ j, j < kk → (itOf css[j]!).1 = si + 1 + j))
  case atStart => exact ⟨0, by omega, by omega, rfl, Below.refl _ _, fun j hj => absurd hj (Nat.not_lt_zero _)⟩
  case round =>
    obtain ⟨kk, hk, hg, rfl, B, G⟩ := hrel
    by_cases hlt : kk < css.length
    · have hltz : (kk : Int) < (css.length : Int) := by omega
      obtain rfl := H.out.A (by omega)
      have hL := (H.out.below hb0).below B.out
      have hrg := hL.row kk hlt
      have hE := hL.e kk hlt
      have hr := hL.rng kk hlt
      have hc2' : wr.cell? ⟨w.heap.size, 2, none⟩ = some (.int .i64 si) := (B.out.cell (p := ⟨w.heap.size, 2, none⟩) hs0).trans hc2
      have hsz := B.out.size
      clear hL
      generalize hcs : css[kk]! = cs at hrg hE hr
      have CS := Aside0.mk hcs
      clear hcs
      have hi59 : (Try.prog.info? 59).map (·.size) = some cs.length := by rw [hE.len]; exact size59
      have hi59' : (Try.prog.info? 59).map (·.size) = some cs.toArray.size := by rw [List.size_toArray, hE.len]; exact size59
      have h1c : cs.toArray.all (·.oneCell') = true := by
        rw [Array.all_eq_true_iff_forall_mem]
        intro u hu
        exact hE.one u (by simpa using hu)
      have hl43 : cs.length = 43 := hE.len
      have hcell : (wr.alloc (.cells cs.toArray 59)).cell? ⟨wr.heap.size, 0, none⟩ = some (.int .i64 (itOf cs).1) := by
        simp only [World.cell?]
        rw [heap_alloc_new]
        simpa using hE.i0
      have hce2 : (wr.alloc (.cells cs.toArray 59)).cell? ⟨w.heap.size, 2, none⟩ = some (.int .i64 si) := by
        rw [← hc2']
        simp only [World.cell?]
        rw [heap_alloc_old _ _ _ (by omega)]
      have HE := Aside0.mk hE
      clear hE
      generalize hx : (itOf cs).1 = x at hcell hr
      have X := Aside0.mk hx
      clear hx
      have hgs : 0 ≤ si ∧ si ≤ 900000000 ∧ css.length ≤ 9000 := by omega
      by_cases he : x = si + 1 + kk
      · have hw : wrap64 (wrap64 (x - 1) - kk) = si := by
          have e1 : wrap64 (x - 1) = x - 1 := by unfold wrap64; omega
          rw [e1]; unfold wrap64; omega
        have HE2 := Aside0.mk he
        clear he
        go_wp2_with (first | (refine wpList_load_mid rfl 59 (.tmp 27) rfl b (off + kk * 43) rfl cs _ hrg Try.underlying59 rfl hi59 ?_) | (refine wpList_store_new rfl 59 (.tmp 4) (.tmp 28) rfl cs.toArray _ 59 rfl rfl hi59' ?hold h1c ?_))
        case hold => simp [hl43]
        go_roundg (css.length - (kk + 1))
        case measure => omega
        case rel =>
          refine ⟨kk + 1, by omega, by omega, by go_num, B.out.alloc hsz _, (show Aside _ from fun j hj => ?_)⟩
          by_cases e : j = kk
          · subst e; rw [CS.out, X.out]; exact HE2.out
          · exact G.out j (by omega)
      · have hw : ¬ wrap64 (wrap64 (x - 1) - kk) = si := by
          unfold wrap64; omega
        go_wp2_with (first | (refine wpList_load_mid rfl 59 (.tmp 27) rfl b (off + kk * 43) rfl cs _ hrg Try.underlying59 rfl hi59 ?_) | (refine wpList_store_new rfl 59 (.tmp 4) (.tmp 28) rfl cs.toArray _ 59 rfl rfl hi59' ?hold h1c ?_))
        case hold => simp [hl43]
        go_ret
        refine ⟨?_, hb0.trans ((B.out.alloc hsz _).mono hb0.size)⟩
        rw [← RV.out]
        have hc : checkB si (its css) = false := by
          cases hcb : checkB si (its css) with
          | false => rfl
          | true =>
            exfalso
            simp only [checkB, Bool.and_eq_true] at hcb
            have := (goesB_iff _ _).1 hcb.2 kk (by rw [its_length]; exact hlt)
            rw [its_get css kk hlt, CS.out, X.out] at this
            exact he this
        rw [hc]; rfl
    · have hltz : ¬ (kk : Int) < (css.length : Int) := by omega
      have : kk = css.length := by omega
      subst this
      go_wp2
      go_ret
      refine ⟨?_, hb0.trans (B.out.mono hb0.size)⟩
      rw [← RV.out]
      have hc : checkB si (its css) = true := by
        simp only [checkB, Bool.and_eq_true, decide_eq_true_eq, its_length]
        refine ⟨⟨⟨by omega, by omega⟩, by omega⟩, (goesB_iff _ _).2 (fun j hj => ?_)⟩
        rw [its_length] at hj
        rw [its_get css j hj]
        exact G.out j hj
      rw [hc]; rfl
end Go.Proofs.Ytpjachbmllklgaa.Rng
