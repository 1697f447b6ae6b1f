/- The numbers and terms of a log, from the last one on. -/
import Derived.Test.YtpjachbmllklgaaBack
import Derived.Shelf.RegionOpen
namespace Go.Proofs.Ytpjachbmllklgaa.Rng
open Go.RowKit Go.Shelf
set_option linter.unusedVariables false
set_option linter.unusedSimpArgs false
attribute [local go_sem] Oper.semAt_some

/-- An entry's number and term. -/
def numOf : Option Value → Int
  | some (Value.int _ x) => x
  | _ => 0
def itOf (cs : List Value) : Int × Int := (numOf cs[0]?, numOf cs[1]?)
/-- An entry's cells. -/
structure IsE (cs : List Value) : Prop where
  len : cs.length = 43
  one : ∀ u ∈ cs, u.oneCell' = true
  i0 : cs[0]? = some (.int .i64 (itOf cs).1)
  i1 : cs[1]? = some (.int .i64 (itOf cs).2)
/-- The last m numbers and terms, the last one first; then the snapshot's. -/
def dn (css : List (List Value)) (z : Int × Int) (m : Nat) : List (Int × Int) := (bw css m).map (fun p => itOf p.2) ++ [z]
theorem bw_mem : ∀ (css : List (List Value)) (m : Nat) (p : Nat × List Value), p ∈ bw css m → p.1 < m ∧ p.2 = css[p.1]!
  | css, m + 1, p, h => by
    rw [bw, List.mem_cons] at h
    rcases h with rfl | h
    · exact ⟨Nat.lt_succ_self _, rfl⟩
    · have := bw_mem css m p h
      exact ⟨by omega, this.2⟩
theorem size59 : (Try.prog.info? 59).map (·.size) = some 43 := by kernel_rfl

set_option maxRecDepth 100000 in
set_option maxHeartbeats 4000000 in
theorem down_steps (n : Nat) (hn : 5 ≤ n) (bs b off cap : Nat) (A : Option Addr) (css : List (List Value)) (si st : Int) (hA : 0 < css.length → A = some ⟨b, off, none⟩) (hE : ∀ j, j < css.length → IsE css[j]!) (hlen : css.length ≤ 1000000) :
    Steps n Try.prog 64 #[.pointer (some ⟨bs, 0, none⟩)] (fun x : Int × Int => #[.int .i64 x.1, .int .i64 x.2]) (dn css (si, st) css.length)
      (fun W => (W.cell? ⟨bs, 7, none⟩ = some (.slice A css.length cap) ∧ W.cell? ⟨bs, 2, none⟩ = some (.int .i64 si) ∧ W.cell? ⟨bs, 3, none⟩ = some (.int .i64 st)) ∧ Row W b off css) (fun k => k = bs ∨ k = b) := by
  intro l J Jx W hH hul hlW hJ hJx hY h0
  have h64 : Fence.wide.fn 64 := trivial
  refine callsIn_of_wp_marks Try.func64 rfl h64 ?_ rfl
  simp only [Try.ntmps64, List.size_toArray, List.length_cons, List.length_nil, Nat.reduceAdd, Nat.reduceSub, Array.replicate_succ, Array.replicate_zero, List.push_toArray, List.append_toArray, List.nil_append, List.cons_append]
  obtain ⟨⟨h7, h2, h3⟩, hrow⟩ := hH
  obtain ⟨W1, hW1⟩ : ∃ W1, W.alloc (.cells #[.func (.yield l) #[] #[]] 102) = W1 := ⟨_, rfl⟩
  have hbs : bs < l := hul bs (.inl rfl)
  have hb1 : Below W.heap.size W W1 := by rw [← hW1]; exact (Below.refl _ W).alloc (Nat.le_refl _) _
  have h7' : W1.cell? ⟨bs, 7, none⟩ = some (.slice A css.length cap) := (hb1.cell (p := ⟨bs, 7, none⟩) (by show bs < _; omega)).trans h7
  gi_wp2
  refine ⟨trivial, fun h => (by cases h), ?_⟩
  refine (backward_in _ A css.length cap _).mono ?_
  rintro e w' ⟨rfl, rfl⟩
  have hs1 : W1.heap.size = W.heap.size + 1 := by rw [← hW1]; simp
  have hyb1 : W1.heap[W.heap.size]? = some (.cells #[.func (.yield l) #[] #[]] 102 (0, 0)) := by rw [← hW1]; exact heap_alloc_new W _
  obtain ⟨W2, hW2⟩ : ∃ W2, W1.alloc (.cells #[.slice A css.length cap] 27) = W2 := ⟨_, rfl⟩
  have hb2 : Below W.heap.size W W2 := by rw [← hW2]; exact hb1.alloc (by omega) _
  have hs2 : W2.heap.size = W.heap.size + 2 := by rw [← hW2]; simp; omega
  have hbx2 : W2.heap[W.heap.size + 1]? = some (.cells #[.slice A css.length cap] 27 (0, 0)) := by rw [← hW2, ← hs1]; exact heap_alloc_new W1 _
  have hyb2 : W2.heap[W.heap.size]? = some (.cells #[.func (.yield l) #[] #[]] 102 (0, 0)) := by rw [← hW2]; exact (Below.heap_alloc W1 _ _ (by omega)).trans hyb1
  rw [hW2]
  have hbb : b < l := hul b (.inr rfl)
  have h64H : ∀ (X Y : World), ((X.cell? ⟨bs, 7, none⟩ = some (.slice A css.length cap) ∧ X.cell? ⟨bs, 2, none⟩ = some (.int .i64 si) ∧ X.cell? ⟨bs, 3, none⟩ = some (.int .i64 st)) ∧ Row X b off css) → Y.heap[bs]? = X.heap[bs]? → Y.heap[b]? = X.heap[b]? →
      ((Y.cell? ⟨bs, 7, none⟩ = some (.slice A css.length cap) ∧ Y.cell? ⟨bs, 2, none⟩ = some (.int .i64 si) ∧ Y.cell? ⟨bs, 3, none⟩ = some (.int .i64 st)) ∧ Row Y b off css) := fun X Y hX e1 e2 => by
    obtain ⟨⟨a1, a2, a3⟩, a4⟩ := hX
    exact ⟨⟨by simpa [World.cell?, e1] using a1, by simpa [World.cell?, e1] using a2, by simpa [World.cell?, e1] using a3⟩, a4.same e2⟩
  have H2 := h64H W W2 ⟨⟨h7, h2, h3⟩, hrow⟩ (hb2.block _ (by omega)) (hb2.block _ (by omega))
  gi_wp2
  refine wpIn_rangeFunc_st (gf := 65) (lb := #[.pointer (some ⟨W.heap.size + 1, 0, none⟩)]) (encs := fun x : Nat × List Value => #[.int .i64 (x.1 : Int), .agg x.2.toArray]) rfl (enters_of Try.func65 (by kernel_rfl) rfl)
    (back_steps (n - 1) (by omega) (W.heap.size + 1) b off cap A css hA (fun j hj => (hE j hj).len) hlen) (fun _ => rfl)
    ⟨by simp [World.cell?, hbx2], H2.2⟩
    (fun X Y hX hu => ⟨by have := hu (W.heap.size + 1) (.inl rfl); simpa [World.cell?, this] using hX.1, hX.2.same (hu b (.inr rfl))⟩)
    (fun k hk => by rcases hk with rfl | rfl <;> omega)
    (fun (pre : List (Nat × List Value)) (X : World) => J (pre.map (fun (p : Nat × List Value) => itOf p.2)) X ∧ X.heap[W.heap.size]? = some (.cells #[.func (.yield l) #[] #[]] 102 (0, 0)) ∧
      ((X.cell? ⟨bs, 7, none⟩ = some (.slice A css.length cap) ∧ X.cell? ⟨bs, 2, none⟩ = some (.int .i64 si) ∧ X.cell? ⟨bs, 3, none⟩ = some (.int .i64 st)) ∧ Row X b off css))
    (fun (c : Code) (pre : List (Nat × List Value)) (X : World) => c = .ret ∧ Jx (pre.map (fun (p : Nat × List Value) => itOf p.2)) X)
    (fun pre X Y hX hb => ⟨hJ _ _ _ hX.1 (hb.mono (by omega)), (hb.block _ (by omega)).trans hX.2.1, h64H X Y hX.2.2 (hb.block _ (by omega)) (hb.block _ (by omega))⟩)
    (fun c pre X Y hX hb => ⟨hX.1, hJx _ _ _ hX.2 (hb.mono (by omega))⟩)
    ⟨hJ _ _ _ h0 (hb2.mono (by omega)), hyb2, H2⟩ ?round ?done ?stop
  case round =>
    rintro pre x rest X hxs ⟨hJX, hybX, hHX⟩ hHold hltX
    have hx : x ∈ bw css css.length := by rw [hxs]; simp
    obtain ⟨hx1, hx2⟩ := bw_mem css _ x hx
    have hEx : IsE x.2 := by rw [hx2]; exact hE _ hx1
    obtain ⟨j, cs⟩ := x
    dsimp only at hEx hxs
    have hi59 : (Try.prog.info? 59).map (·.size) = some cs.toArray.size := by rw [List.size_toArray, hEx.len]; exact size59
    have h1c : cs.toArray.all (·.oneCell') = true := by
      rw [Array.all_eq_true_iff_forall_mem]
      intro u hu
      exact hEx.one u (by simpa using hu)
    have hlen0 : cs.length = 43 := hEx.len
    clear hx hx1 hx2
    dsimp only
    gi_wp2_with (refine wpListIn_store_new rfl 59 (.tmp 4) (.tmp 9) rfl cs.toArray _ 59 rfl rfl hi59 ?hold h1c ?_)
    case hold => simp [hlen0]
    have hXs : W2.heap.size + 1 < X.heap.size := hltX
    have hal : ∀ k, k < X.heap.size → (X.alloc (.cells cs.toArray 59)).heap[k]? = X.heap[k]? := fun k hk => heap_alloc_old X _ k hk
    refine ⟨⟨by simp, fun k _ h2 => hal k h2, fun k hk => hal k (by rcases hk with rfl | rfl <;> omega)⟩, fun Y hbY hsY hoY => ?_⟩
    have hsY' : Y.heap.size = X.heap.size + 1 := by rw [hsY]; simp
    have hYX : ∀ k, k ≠ W2.heap.size + 1 → k < X.heap.size → Y.heap[k]? = X.heap[k]? := fun k h1 h2 => (hoY k h1).trans (hal k h2)
    have hBXY : Below (l + 1) X Y := ⟨hbY.os, hbY.tape, hbY.output, by omega, fun k hk => hYX k (by omega) (by omega)⟩
    have hybY : Y.cell? ⟨W.heap.size, 0, none⟩ = some (.func (.yield l) #[] #[]) := by
      have := (hYX W.heap.size (by omega) (by omega)).trans hybX
      simp [World.cell?, this]
    have heY : Y.heap[X.heap.size]? = some (.cells cs.toArray 59 (0, 0)) := (hoY _ (by omega)).trans (heap_alloc_new X _)
    have he0 : Y.cell? ⟨X.heap.size, 0, none⟩ = some (.int .i64 (itOf cs).1) := by simp [World.cell?, heY, hEx.i0]
    have he1 : Y.cell? ⟨X.heap.size, 1, none⟩ = some (.int .i64 (itOf cs).2) := by simp [World.cell?, heY, hEx.i1]
    have hJY := hJ _ _ _ hJX hBXY
    have hHY := h64H X Y hHX (hYX _ (by omega) (by omega)) (hYX _ (by omega) (by omega))
    obtain ⟨fn, tmps, assign, body, hy, hR⟩ := hY (pre.map (fun (p : Nat × List Value) => itOf p.2)) (itOf cs) (rest.map (fun (p : Nat × List Value) => itOf p.2) ++ [(si, st)]) Y (by rw [dn, hxs]; simp) hJY (by omega)
    try dsimp only at hy
    have hybX' : Y.heap[W.heap.size]? = some (.cells #[.func (.yield l) #[] #[]] 102 (0, 0)) := (hYX W.heap.size (by omega) (by omega)).trans hybX
    clear hY hJX hHX hHold
    generalize hit : itOf cs = it at *
    obtain ⟨i1, i2⟩ := it
    try dsimp only at hy he0 he1
    gi_wp2
    refine ⟨fun h => (by cases h), (roundIn_wide hR).mono ?_⟩
    rintro e Z (⟨rfl, hJZ, hrZ⟩ | ⟨rfl, hJxZ, hrZ⟩)
    · have hk : Kp W2.heap.size (fun k => k = W.heap.size + 1 ∨ k = b) Y Z := ⟨hrZ.size, fun k h1 h2 => hrZ.above k (by omega) h2, fun k hk => by
        rcases hk with rfl | rfl
        · exact hrZ.above _ (by omega) (by omega)
        · exact hrZ.used _ (.inr rfl)⟩
      have hIZ := And.intro hJZ (And.intro ((hrZ.above W.heap.size (by omega) (by omega)).trans hybX') (h64H Y Z hHY (hrZ.used _ (.inl rfl)) (hrZ.used _ (.inr rfl))))
      gi_wp2
      exact ⟨hk, by dsimp only; rw [List.map_append, List.map_singleton, hit]; exact hIZ⟩
    · have hk : Kp W2.heap.size (fun k => k = W.heap.size + 1 ∨ k = b) Y Z := ⟨hrZ.size, fun k h1 h2 => hrZ.above k (by omega) h2, fun k hk => by
        rcases hk with rfl | rfl
        · exact hrZ.above _ (by omega) (by omega)
        · exact hrZ.used _ (.inr rfl)⟩
      gi_wp2
      exact ⟨hk, rfl, by rw [List.map_append, List.map_singleton, hit]; exact hJxZ⟩
  case done =>
    rintro X ⟨hJX, hybX, hHX⟩ hHold hltX hD
    have hyc : X.cell? ⟨W.heap.size, 0, none⟩ = some (.func (.yield l) #[] #[]) := by simp [World.cell?, hybX]
    obtain ⟨⟨_, x2, x3⟩, _⟩ := hHX
    obtain ⟨fn, tmps, assign, body, hy, hR⟩ := hY ((bw css css.length).map (fun (p : Nat × List Value) => itOf p.2)) (si, st) [] X rfl hJX (by omega)
    dsimp only at hy
    clear hY hJX hHold
    gi_wp2
    refine ⟨fun h => (by cases h), RoundIn.mono (roundIn_wide' hR) ?_⟩
    rintro e Z (⟨rfl, hJZ, hrZ⟩ | ⟨rfl, hJxZ, hrZ⟩)
    · have hDZ : Z.heap[W.heap.size + 2]? = some (.deferred (some [])) := (hrZ.above _ (by omega) (by omega)).trans (by rw [← hs2]; exact hD)
      gi_wp2
      refine ⟨by simp, .inl ⟨_, _, rfl, run_takeDeferred hDZ, ?_⟩⟩
      exact ⟨_, results_none rfl _ _ _, ⟨_, rfl⟩, .inl (hJ _ Z _ hJZ (below_putObj (by omega) _ hDZ))⟩
    · have hDZ : Z.heap[W.heap.size + 2]? = some (.deferred (some [])) := (hrZ.above _ (by omega) (by omega)).trans (by rw [← hs2]; exact hD)
      gi_wp2
      refine ⟨by simp, .inl ⟨_, _, rfl, run_takeDeferred hDZ, ?_⟩⟩
      exact ⟨_, results_none rfl _ _ _, ⟨_, rfl⟩, .inr ⟨_, _, _, rfl, hJx _ Z _ hJxZ (below_putObj (by omega) _ hDZ)⟩⟩
  case stop =>
    rintro c pre x rest X hxs ⟨rfl, hJX⟩ hltX hD
    gi_wp2
    refine ⟨by simp, .inl ⟨_, _, rfl, run_takeDeferred hD, ?_⟩⟩
    exact ⟨_, results_none rfl _ _ _, ⟨_, rfl⟩, .inr ⟨pre.map (fun (p : Nat × List Value) => itOf p.2), itOf x.2, rest.map (fun (p : Nat × List Value) => itOf p.2) ++ [(si, st)], by rw [dn, hxs]; simp, by have := hJx _ X _ hJX (below_putObj (n0 := l + 1) (by omega) (.deferred none) hD); simpa using this⟩⟩
end Go.Proofs.Ytpjachbmllklgaa.Rng
