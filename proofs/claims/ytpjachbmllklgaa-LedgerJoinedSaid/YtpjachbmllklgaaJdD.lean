/- Several texts in one. -/
import Derived.Test.YtpjachbmllklgaaJdC
import Derived.Test.YtpjachbmllklgaaOwn
import Derived.Test.YtpjachbmllklgaaLgC
section
/- The reference's Folded: a cut, an entry. -/
namespace Go.Proofs.Ytpjachbmllklgaa.Rng
open Go.RowKit Go.Proofs.YtpjachbmllklgaaW.PrintWords Go.Proofs.Ytpjachbmllklgaa.Kinds Go.Proofs.Ytpjachbmllklgaa.PCou Go.Proofs.Ytpjachbmllklgaa.POct
set_option linter.unusedVariables false
set_option linter.unusedSimpArgs false
attribute [local go_sem] Oper.semAt_some
attribute [local go_sem] fold_zip

theorem wr64 (n : Int) (h : -9223372036854775808 ≤ n ∧ n ≤ 9223372036854775807) : wrap64 n = n := by unfold wrap64; omega

set_option maxHeartbeats 1000000 in
set_option maxRecDepth 100000 in
theorem no_c (er : Int) (w : World) : Calls Try.prog 62 #[.int .i64 er] w fun e w' => e = .returned (.tuple #[.agg Sv.none.cells, .int .i64 er]) ∧ Below w.heap.size w w' := by
  have hi30 : ∀ cells : Array Value, cells.size = 9 → (Try.prog.info? 30).map (·.size) = some cells.size := fun c hc => by rw [hc]; exact size30
  have q0 : Below w.heap.size w (w.alloc (.cells #[.int .i64 0, .int .i64 0, .int .i64 0, .int .i64 0, .slice none 0 0, .slice none 0 0, .string ⟨#[]⟩, .slice none 0 0, .slice none 0 0] 30)) := (Below.refl _ w).alloc (Nat.le_refl _) _
  have k0 := blk_new w (.cells #[.int .i64 0, .int .i64 0, .int .i64 0, .int .i64 0, .slice none 0 0, .slice none 0 0, .string ⟨#[]⟩, .slice none 0 0, .slice none 0 0] 30)
  have s0 : (w.alloc (.cells #[.int .i64 0, .int .i64 0, .int .i64 0, .int .i64 0, .slice none 0 0, .slice none 0 0, .string ⟨#[]⟩, .slice none 0 0, .slice none 0 0] 30)).heap.size = w.heap.size + 1 := by simp
  go_enter Try.func62, Try.ntmps62
  go_upto_region 1 with (fail)
  generalize (w.alloc (.cells #[.int .i64 0, .int .i64 0, .int .i64 0, .int .i64 0, .slice none 0 0, .slice none 0 0, .string ⟨#[]⟩, .slice none 0 0, .slice none 0 0] 30)) = W0 at q0 k0 s0 ⊢
  go_wp2_with (refine wpList_store_row rfl 30 (.tmp 2) (.tmp 4) rfl w.heap.size _ rfl rfl 30 _ k0 (hi30 _ rfl) rfl (by simp [Value.oneCell']) ?_)
  have hg := setRow_heap W0 w.heap.size _ (#[.int .i64 0, .int .i64 0, .int .i64 0, .int .i64 0, .slice none 0 0, .slice none 0 0, .string ⟨#[]⟩, .slice none 0 0, .slice none 0 0] : Array Value) 30 (0, 0) k0
  refine bodyPost_ret (results_ct rfl _ _ w.heap.size 30 _ (0, 0) _ rfl hg Try.underlying30 rfl (hi30 _ rfl)) rfl ?_
  exact ⟨rfl, below_setRow q0 _ (Nat.le_refl _) _⟩

set_option maxHeartbeats 1000000 in
set_option maxRecDepth 100000 in
theorem last13_c (s : Sv) (w : World) : Calls Try.prog 61 #[.agg s.cells] w fun e w' => e = .returned (.int .i64 (wrap64 (s.si + (s.n : Int)))) ∧ Below w.heap.size w w' := by
  obtain ⟨t, v, si, st, Va, Vn, Vc, La, Ln, Lc, d, A, n, cap, Ga, Gn, Gc⟩ := s
  unfold Sv.cells
  dsimp only
  go_enter Try.func61, Try.ntmps61
  go_wp2
  go_ret
  exact ⟨rfl, (Below.refl _ w).alloc (Nat.le_refl _) _⟩
/-- A row of signed heads beside entries that are appended to. -/
theorem S_beside {w' w1 : World} {b1 b2 : Nat} {ok ok2 : Nat → Prop} {V E : Value} {vs : List Sgn} {xs : List Ent} (hV : kSgn.R 69 w' b1 ok V vs) (hE : kEnt.R 59 w' b2 ok2 E xs) (hg : w'.grownBy w1 E.ownBlock) : kSgn.R 69 w1 b1 ok V vs := by
  cases h : E.ownBlock with
  | none => exact Kd.R_grown hV hg (fun k _ => by rw [h]; simp)
  | some p =>
    obtain ⟨inner, ho⟩ := Kd.R_own hE
    obtain ⟨cells, hc⟩ := own_typed ho p h
    refine Kd.R_mono (Kd.R_grown (Kd.R_types hV hc (fun q hq => ?_)) hg (fun k hk => ?_)) (fun k hk => hk.1)
    · have : q = 69 := by simpa [Kd.int, Kd.scalar, kSgn, kHead, kDig, Kd.pair, Kd.arr] using hq
      omega
    · rw [h]
      intro e
      injection e with e
      exact hk.2 e
/-- What is saved, in rows of its own. -/
structure OwnedIn (W : World) (base : Nat) (s : Sv) (x : Saved) : Prop where
  h : s.t = x.1 ∧ s.v = x.2.1 ∧ s.si = x.2.2.1.1 ∧ s.st = x.2.2.1.2.1 ∧ s.d = x.2.2.1.2.2.2
  V : (Kd.int .i64).R 3 W base (fun _ => True) (.slice s.Va s.Vn s.Vc) x.2.2.1.2.2.1.1
  L : (Kd.int .i64).R 3 W base (fun _ => True) (.slice s.La s.Ln s.Lc) x.2.2.1.2.2.1.2
  E : kEnt.R 59 W base (fun _ => True) (.slice s.A s.n s.cap) x.2.2.2.1
  G : kSgn.R 69 W base (fun _ => True) (.slice s.Ga s.Gn s.Gc) x.2.2.2.2
theorem OwnedIn.moved {W W' : World} {base : Nat} {s : Sv} {x : Saved} (h : OwnedIn W base s x) (hm : ∀ k, base ≤ k → k < W.heap.size → W'.heap[k]? = W.heap[k]?) : OwnedIn W' base s x :=
  ⟨h.h, Kd.R_mono (Kd.R_step (Kd.R_bound h.V) (fun k hk h2 => hm k hk.2.1 h2)) (fun _ _ => trivial), Kd.R_mono (Kd.R_step (Kd.R_bound h.L) (fun k hk h2 => hm k hk.2.1 h2)) (fun _ _ => trivial), Kd.R_mono (Kd.R_step (Kd.R_bound h.E) (fun k hk h2 => hm k hk.2.1 h2)) (fun _ _ => trivial), Kd.R_mono (Kd.R_step (Kd.R_bound h.G) (fun k hk h2 => hm k hk.2.1 h2)) (fun _ _ => trivial)⟩
theorem OwnedIn.sk {W : World} {base : Nat} {s : Sv} {x : Saved} (h : OwnedIn W base s x) : SK W s x := by
  obtain ⟨⟨h1, h2, h3, h4, h5⟩, hV, hL, hE, hG⟩ := h
  obtain ⟨p1, p2, p3⟩ := Kd.R_reads' hV
  obtain ⟨p4, p5, p6⟩ := Kd.R_reads' hL
  obtain ⟨p7, p8, p9⟩ := Kd.R_reads' hE
  obtain ⟨p10, p11, p12⟩ := Kd.R_reads' hG
  exact ⟨h1, h2, h3, h4, p1, by rw [← p1]; exact p2, p3, p4, by rw [← p4]; exact p5, p6, h5, p7, by rw [← p7]; exact p8, p9, p10, by rw [← p10]; exact p11, p12⟩
/-- What is saved, in rows that lie from base on. -/
def Kept (W : World) (base : Nat) (s : Sv) (x : Saved) : Prop := ∀ W', (∀ k, base ≤ k → k < W.heap.size → W'.heap[k]? = W.heap[k]?) → SK W' s x
theorem OwnedIn.kept {W : World} {base b2 : Nat} {s : Sv} {x : Saved} (hb : b2 ≤ base) (h : OwnedIn W base s x) : Kept W b2 s x := fun W' hm => (h.moved (fun k h1 h2 => hm k (Nat.le_trans hb h1) h2)).sk
theorem C_take {α : Type} {d : Kd α} {w : World} {A : Option Addr} {n : Nat} {xs : List α} (h : d.C w A n xs) (m : Nat) (hm : m ≤ n) : d.C w A m (xs.take m) := by
  obtain ⟨h1, h2, h3⟩ := h
  refine ⟨by rw [List.length_take]; omega, by omega, fun h0 => ?_⟩
  obtain ⟨ad, e, hc⟩ := h3 (by omega)
  refine ⟨ad, e, fun j p hj => hc j p ?_⟩
  have : j < (xs.take m).length := (List.getElem?_eq_some_iff.1 hj).1
  rw [List.length_take] at this
  rw [List.getElem?_take, if_pos (by omega)] at hj
  exact hj
theorem SK.take {W : World} {s : Sv} {x : Saved} (h : SK W s x) (m : Nat) (hm : m ≤ s.n) : SK W { s with n := m } (x.1, x.2.1, x.2.2.1, x.2.2.2.1.take m, x.2.2.2.2) := by
  have hl : (x.2.2.2.1.take m).length = m := by rw [List.length_take]; have := h.n; omega
  refine ⟨h.t, h.v, h.si, h.st, h.Vn, h.Vc, h.VC, h.Ln, h.Lc, h.LC, h.d, ?_, ?_, ?_, h.Gn, h.Gc, h.GC⟩
  · exact hl.symm
  · show (x.2.2.2.1.take m).length ≤ s.cap
    have := h.cap; have := h.n; omega
  · show kEnt.C W s.A (x.2.2.2.1.take m).length (x.2.2.2.1.take m)
    rw [hl]
    exact C_take h.C m (by have := h.n; omega)

set_option maxHeartbeats 1000000 in
set_option maxRecDepth 100000 in
theorem fold_cut (s : Sv) (x : Saved) (b off : Nat) (css : List (List Value)) (w : World) (hs : SK w s x) (hL : LX w s.A b off css x.2.2.2.1) (hsn : s.Gn ≤ 1000) (hvn : s.Vn ≤ 5000) (hln : s.Ln ≤ 5000)
    (i : Int) (rs : List Value) (hr : kRec.K w (recX i) rs) (h1 : s.si < i) (h2 : i ≤ s.si + s.n) (hsi : 0 ≤ s.si ∧ s.si ≤ 900000000) :
    Calls Try.prog 36 #[.agg s.cells, .agg rs.toArray] w fun e w' => ∃ s' : Sv, e = .returned (.tuple #[.agg s'.cells, .int .i64 0]) ∧ Kept w' w.heap.size s' (x.1, x.2.1, x.2.2.1, x.2.2.2.1.take (i - s.si - 1).toNat, x.2.2.2.2) ∧ Below w.heap.size w w' := by
  have e17 : ∀ args w, (callFunc 17 args).run Try.prog w = .ok (.enter 17 args) w := enters_of Try.func17 (by kernel_rfl) rfl
  have e61 : ∀ args w, (callFunc 61 args).run Try.prog w = .ok (.enter 61 args) w := enters_of Try.func61 (by kernel_rfl) rfl
  have hi30 : ∀ cells : Array Value, cells.size = 9 → (Try.prog.info? 30).map (·.size) = some cells.size := fun c hc => by rw [hc]; exact size30
  have C17 : Aside0 (∀ W, Below w.heap.size w W → Calls Try.prog 17 #[.agg s.cells] W fun e w' => ∃ s' : Sv, e = .returned (.agg s'.cells) ∧ OwnedIn w' W.heap.size s' x ∧ Below W.heap.size W w') :=
    ⟨fun W hW => (own_cR s x W (hs.below hW) b off css (hL.below hW) hsn hvn hln).mono (by
      rintro e w' ⟨s', h1, h2, ⟨h3, h4, h5, h6⟩, h7⟩
      exact ⟨s', h1, ⟨⟨h2.t, h2.v, h2.si, h2.st, h2.d⟩, h3, h4, h5, h6⟩, h7⟩)⟩
  have C61 : Aside0 (∀ W, Below w.heap.size w W → Calls Try.prog 61 #[.agg s.cells] W fun e w' => e = .returned (.int .i64 (s.si + (s.n : Int))) ∧ Below W.heap.size W w') :=
    ⟨fun W hW => (last13_c s W).mono (fun e w' h => by
      have hsm := hL.small
      have hlen := hL.len
      have hnn := hs.n
      rw [wr64 _ (by omega)] at h
      exact h)⟩
  have hsm : s.n ≤ 1000000 := by have := hL.small; have := hL.len; have := hs.n; omega
  have HSn := Aside0.mk hs.n
  have HSs := Aside0.mk hs.si
  have hrl : rs.length = 149 := kRec.K_len hr
  have hi71 : (Try.prog.info? 71).map (·.size) = some rs.toArray.size := by rw [List.size_toArray, hrl]; exact size71
  obtain ⟨ecs, Va', vc', La', lc', hrs, hE, _, _, _, _, _, _, _⟩ := rec_K2 hr
  have hel : ecs.length = 43 := kEnt.K_len hE
  have T0 : rs[0]? = some (.int .i64 3) := by rw [hrs]; rfl
  have T46 : rs[46]? = some (.int .i64 i) := by
    rw [hrs]
    have := rec_mid (recX i).1 (recX i).2.1 (recX i).2.2.1 ecs (recX i).2.2.2.2.1 (recX i).2.2.2.2.2.1.1 (recX i).2.2.2.2.2.1.2.1 (.slice Va' (recX i).2.2.2.2.2.1.2.2.1.1.length vc') (.slice La' (recX i).2.2.2.2.2.1.2.2.1.2.length lc') (recX i).2.2.2.2.2.1.2.2.2 (sgnCells (recX i).2.2.2.2.2.2) hel 0
    simp only [Nat.add_zero] at this
    exact this
  clear hrs hE hel hr hs hL hsn hvn hln
  obtain ⟨t, v, si, st, Va, Vn, Vc, La, Ln, Lc, d, A, n, cap, Ga, Gn, Gc⟩ := s
  dsimp only at *
  unfold Sv.cells at *
  dsimp only at *
  have q0 : Below w.heap.size w (((w.alloc (.cells #[.int .i64 t, .int .i64 v, .int .i64 si, .int .i64 st, .slice Va Vn Vc, .slice La Ln Lc, .string d, .slice A n cap, .slice Ga Gn Gc] 30)).alloc (.cells rs.toArray 71)).alloc (.cells #[.int .i64 0, .int .i64 0, .int .i64 0, .int .i64 0, .slice none 0 0, .slice none 0 0, .string ⟨#[]⟩, .slice none 0 0, .slice none 0 0] 30)) := (((Below.refl _ w).alloc (Nat.le_refl _) _).alloc (by simp) _).alloc (by simp; omega) _
  have s0 : (((w.alloc (.cells #[.int .i64 t, .int .i64 v, .int .i64 si, .int .i64 st, .slice Va Vn Vc, .slice La Ln Lc, .string d, .slice A n cap, .slice Ga Gn Gc] 30)).alloc (.cells rs.toArray 71)).alloc (.cells #[.int .i64 0, .int .i64 0, .int .i64 0, .int .i64 0, .slice none 0 0, .slice none 0 0, .string ⟨#[]⟩, .slice none 0 0, .slice none 0 0] 30)).heap.size = w.heap.size + 3 := by simp
  have a0 := blk_alloc (blk_alloc (blk_new w (.cells #[.int .i64 t, .int .i64 v, .int .i64 si, .int .i64 st, .slice Va Vn Vc, .slice La Ln Lc, .string d, .slice A n cap, .slice Ga Gn Gc] 30)) (.cells rs.toArray 71)) (.cells #[.int .i64 0, .int .i64 0, .int .i64 0, .int .i64 0, .slice none 0 0, .slice none 0 0, .string ⟨#[]⟩, .slice none 0 0, .slice none 0 0] 30)
  have b0 := blk_alloc (blk_new (w.alloc (.cells #[.int .i64 t, .int .i64 v, .int .i64 si, .int .i64 st, .slice Va Vn Vc, .slice La Ln Lc, .string d, .slice A n cap, .slice Ga Gn Gc] 30)) (.cells rs.toArray 71)) (.cells #[.int .i64 0, .int .i64 0, .int .i64 0, .int .i64 0, .slice none 0 0, .slice none 0 0, .string ⟨#[]⟩, .slice none 0 0, .slice none 0 0] 30)
  have c0 := blk_new ((w.alloc (.cells #[.int .i64 t, .int .i64 v, .int .i64 si, .int .i64 st, .slice Va Vn Vc, .slice La Ln Lc, .string d, .slice A n cap, .slice Ga Gn Gc] 30)).alloc (.cells rs.toArray 71)) (.cells #[.int .i64 0, .int .i64 0, .int .i64 0, .int .i64 0, .slice none 0 0, .slice none 0 0, .string ⟨#[]⟩, .slice none 0 0, .slice none 0 0] 30)
  rw [World.size_alloc] at b0
  rw [World.size_alloc, World.size_alloc] at c0
  go_enter Try.func36, Try.ntmps36
  go_upto_region 1 with (fail)
  generalize (((w.alloc (.cells #[.int .i64 t, .int .i64 v, .int .i64 si, .int .i64 st, .slice Va Vn Vc, .slice La Ln Lc, .string d, .slice A n cap, .slice Ga Gn Gc] 30)).alloc (.cells rs.toArray 71)).alloc (.cells #[.int .i64 0, .int .i64 0, .int .i64 0, .int .i64 0, .slice none 0 0, .slice none 0 0, .string ⟨#[]⟩, .slice none 0 0, .slice none 0 0] 30)) = W0 at q0 s0 a0 b0 c0 ⊢
  go_wp2_with (refine wpList_load_row rfl 30 (.tmp 2) rfl w.heap.size rfl 30 _ (0, 0) _ a0 Try.underlying30 rfl (hi30 _ rfl) ?_)
  refine (C17.out W0 q0).mono ?_
  rintro e w1 ⟨s', rfl, hSK, hb1⟩
  rw [s0] at hSK
  have q1 : Below w.heap.size w w1 := q0.trans (hb1.mono q0.size)
  have a1 := (hb1.block w.heap.size (by omega)).trans a0
  have b1 := (hb1.block (w.heap.size + 1) (by omega)).trans b0
  have c1 := (hb1.block (w.heap.size + 2) (by omega)).trans c0
  have s1 : w.heap.size + 3 ≤ w1.heap.size := by have := hb1.size; omega
  clear q0 s0 a0 b0 c0 hb1 C17
  have a2 := blk_alloc a1 (.cells s'.cells 30)
  have b2 := blk_alloc b1 (.cells s'.cells 30)
  have c2 := blk_alloc c1 (.cells s'.cells 30)
  have g2 := blk_new w1 (.cells s'.cells 30)
  have q2 : Below w.heap.size w (w1.alloc (.cells s'.cells 30)) := q1.alloc (by omega) _
  have p2 : Below w1.heap.size w1 (w1.alloc (.cells s'.cells 30)) := (Below.refl _ w1).alloc (Nat.le_refl _) _
  have s2 : (w1.alloc (.cells s'.cells 30)).heap.size = w1.heap.size + 1 := by simp
  go_upto_region 2 with (first | (refine wpList_store_new rfl 30 (.tmp 6) (.tmp 10) rfl s'.cells _ 30 rfl rfl (hi30 _ rfl) rfl (sound_cells_one s') ?_))
  generalize (w1.alloc (.cells s'.cells 30)) = w2 at a2 b2 c2 g2 q2 p2 s2 ⊢
  have SK1 := Aside0.mk hSK
  have SKW := Aside0.mk hSK.sk
  have P2 := Aside0.mk p2
  have hg : w.heap.size + 3 ≤ w1.heap.size := s1
  obtain ⟨g, hgw⟩ : ∃ g, w1.heap.size = g := ⟨_, rfl⟩
  rw [hgw] at g2 s2 hg P2 ⊢
  have HGW := Aside0.mk hgw
  clear hgw hSK q1 a1 b1 c1 s1 p2
  go_wp2_with (refine wpList_load_row rfl 30 (.tmp 2) rfl w.heap.size rfl 30 _ (0, 0) _ a2 Try.underlying30 rfl (hi30 _ rfl) ?_)
  refine (C61.out w2 q2).mono ?_
  rintro e w3 ⟨rfl, hb3⟩
  have q3 : Below w.heap.size w w3 := q2.trans (hb3.mono q2.size)
  have a3 := (hb3.block w.heap.size (by omega)).trans a2
  have b3 := (hb3.block (w.heap.size + 1) (by omega)).trans b2
  have c3 := (hb3.block (w.heap.size + 2) (by omega)).trans c2
  have g3 := (hb3.block g (by omega)).trans g2
  have P3 : Aside0 (Below g w1 w3) := ⟨P2.out.trans (hb3.mono (by omega))⟩
  have s3 : g < w3.heap.size := by have := hb3.size; omega
  clear q2 a2 b2 c2 g2 s2 hb3 C61 P2
  have k0 : w3.cell? ⟨w.heap.size + 1, 0, none⟩ = some (.int .i64 3) := cell_hp b3 (by rw [List.getElem?_toArray]; exact T0)
  have k46 : w3.cell? ⟨w.heap.size + 1, 46, none⟩ = some (.int .i64 i) := cell_hp b3 (by rw [List.getElem?_toArray]; exact T46)
  have ksi : w3.cell? ⟨w.heap.size, 2, none⟩ = some (.int .i64 si) := cell_hp a3 rfl
  have f1 : ¬ i ≤ si := by omega
  have f2 : ¬ i > si + (n : Int) := by omega
  have E1 : s'.n = n := by rw [SKW.out.n, HSn.out]
  have E2 : s'.n ≤ s'.cap := by have := SKW.out.cap; have := SKW.out.n; omega
  obtain ⟨t', v', si', st', Va', Vn', Vc', La', Ln', Lc', d', A', n', cap', Ga', Gn', Gc'⟩ := s'
  dsimp only at *
  subst E1
  have k7 : w3.cell? ⟨g, 7, none⟩ = some (.slice A' n' cap') := cell_hp g3 rfl
  have z7 : w3.frozen? ⟨g, 7, none⟩ = false := by simp [World.frozen?, g3]
  obtain ⟨m, hm⟩ : ∃ m : Nat, (m : Int) = i - si - 1 := ⟨(i - si - 1).toNat, by omega⟩
  have w1' : wrap64 (i - si) = i - si := wr64 _ (by omega)
  have w2' : wrap64 (i - si - 1) = (m : Int) := by rw [wr64 _ (by omega), hm]
  have hmn : m ≤ n' := by omega
  have hmt : (i - si - 1).toNat = m := by omega
  have k9 : (w3.setCell ⟨g, 7, none⟩ (.slice A' m cap')).heap[g]? = some (.cells #[.int .i64 t', .int .i64 v', .int .i64 si', .int .i64 st', .slice Va' Vn' Vc', .slice La' Ln' Lc', .string d', .slice A' m cap', .slice Ga' Gn' Gc'] 30 (0, 0)) := by simp [World.setCell, Array.getElem?_modify, g3, Sv.cells]
  have r9 : (w3.setCell ⟨g, 7, none⟩ (.slice A' m cap')).heap[w.heap.size + 2]? = _ := (Below.heap_setCell w3 ⟨g, 7, none⟩ _ _ (show w.heap.size + 2 ≠ g by omega)).trans c3
  have q9 : Below w.heap.size w (w3.setCell ⟨g, 7, none⟩ (.slice A' m cap')) := q3.setCell (p := ⟨g, 7, none⟩) (show w.heap.size ≤ g by omega) _
  clear a3 b3 c3 g3 q3 T0 T46
  go_wp2_with (first | (refine wpList_load_row rfl 30 (.tmp 6) rfl g rfl 30 _ (0, 0) _ k9 Try.underlying30 rfl (hi30 _ rfl) ?_) | (refine wpList_store_row rfl 30 (.tmp 4) (.tmp 163) rfl (w.heap.size + 2) _ rfl rfl 30 _ r9 (hi30 _ rfl) rfl (by simp [Value.oneCell']) ?_))
  have hgr := setRow_heap (w3.setCell ⟨g, 7, none⟩ (.slice A' m cap')) (w.heap.size + 2) _ (#[.int .i64 t', .int .i64 v', .int .i64 si', .int .i64 st', .slice Va' Vn' Vc', .slice La' Ln' Lc', .string d', .slice A' m cap', .slice Ga' Gn' Gc'] : Array Value) 30 (0, 0) r9
  refine bodyPost_ret (results_ct rfl _ _ (w.heap.size + 2) 30 _ (0, 0) _ rfl hgr Try.underlying30 rfl (hi30 _ rfl)) rfl ?_
  refine ⟨⟨t', v', si', st', Va', Vn', Vc', La', Ln', Lc', d', A', m, cap', Ga', Gn', Gc'⟩, rfl, ?_, below_setRow q9 _ (by omega) _⟩
  intro W' hm'
  refine SK.take (s := ⟨t', v', si', st', Va', Vn', Vc', La', Ln', Lc', d', A', n', cap', Ga', Gn', Gc'⟩) (x := x) (SK1.out.moved (fun k h1 h2 => ?_)).sk m hmn
  rw [HGW.out] at h2
  refine (hm' k (by omega) (Nat.lt_trans h2 (show g < _ from by rw [size_setRow]; show g < (w3.setCell _ _).heap.size; simpa [World.setCell] using s3))).trans ?_
  exact (setRow_other _ (w.heap.size + 2) k _ (by omega)).trans ((Below.heap_setCell w3 ⟨g, 7, none⟩ _ k (show k ≠ g by omega)).trans (P3.out.block k h2))
/-- What Folded tells at an entry. -/
def FoldPost (w : World) (x : Saved) (y : Ent) (e : Ending) (w' : World) : Prop := ∃ s' : Sv, ((y.1 > 900000000 ∧ e = .returned (.tuple #[.agg s'.cells, .int .i64 110])) ∨
      (y.1 ≤ 900000000 ∧ e = .returned (.tuple #[.agg s'.cells, .int .i64 0]) ∧ Kept w' w.heap.size s' (x.1, x.2.1, x.2.2.1, x.2.2.2.1 ++ [y], x.2.2.2.2))) ∧ Below w.heap.size w w'

set_option maxHeartbeats 1000000 in
set_option maxRecDepth 100000 in
theorem fold_ent (s : Sv) (x : Saved) (b off : Nat) (css : List (List Value)) (w : World) (hs : SK w s x) (hL : LX w s.A b off css x.2.2.2.1) (hsn : s.Gn ≤ 1000) (hvn : s.Vn ≤ 5000) (hln : s.Ln ≤ 5000)
    (y : Ent) (rs : List Value) (hr : kRec.K w (recE y) rs) (hy : y.1 - 1 = s.si + s.n) (hn9 : s.n < 9000) (hcy : y.2.2.2.2.1.length < 17592186044416 ∧ y.2.2.2.2.2.length < 17592186044416) (hsi : 0 ≤ s.si ∧ s.si ≤ 900000000) :
    Calls Try.prog 36 #[.agg s.cells, .agg rs.toArray] w (FoldPost w x y) := by
  have e17 : ∀ args w, (callFunc 17 args).run Try.prog w = .ok (.enter 17 args) w := enters_of Try.func17 (by kernel_rfl) rfl
  have e61 : ∀ args w, (callFunc 61 args).run Try.prog w = .ok (.enter 61 args) w := enters_of Try.func61 (by kernel_rfl) rfl
  have hi30 : ∀ cells : Array Value, cells.size = 9 → (Try.prog.info? 30).map (·.size) = some cells.size := fun c hc => by rw [hc]; exact size30
  have C17 : Aside0 (∀ W, Below w.heap.size w W → Calls Try.prog 17 #[.agg s.cells] W fun e w' => ∃ s' : Sv, e = .returned (.agg s'.cells) ∧ OwnedIn w' W.heap.size s' x ∧ Below W.heap.size W w') :=
    ⟨fun W hW => (own_cR s x W (hs.below hW) b off css (hL.below hW) hsn hvn hln).mono (by
      rintro e w' ⟨s', h1, h2, ⟨h3, h4, h5, h6⟩, h7⟩
      exact ⟨s', h1, ⟨⟨h2.t, h2.v, h2.si, h2.st, h2.d⟩, h3, h4, h5, h6⟩, h7⟩)⟩
  have C61 : Aside0 (∀ W, Below w.heap.size w W → Calls Try.prog 61 #[.agg s.cells] W fun e w' => e = .returned (.int .i64 (s.si + (s.n : Int))) ∧ Below W.heap.size W w') :=
    ⟨fun W hW => (last13_c s W).mono (fun e w' h => by
      have hsm := hL.small
      have hlen := hL.len
      have hnn := hs.n
      rw [wr64 _ (by omega)] at h
      exact h)⟩
  have hsm : s.n ≤ 1000000 := by have := hL.small; have := hL.len; have := hs.n; omega
  have HSn := Aside0.mk hs.n
  have HSs := Aside0.mk hs.si
  have hrl : rs.length = 149 := kRec.K_len hr
  have hi71 : (Try.prog.info? 71).map (·.size) = some rs.toArray.size := by rw [List.size_toArray, hrl]; exact size71
  obtain ⟨ecs, Va', vc', La', lc', hrs, hE, _, _, _, _, _, _, _⟩ := rec_K2 hr
  have hel : ecs.length = 43 := kEnt.K_len hE
  have T0 : rs[0]? = some (.int .i64 2) := by rw [hrs]; rfl
  have T3 : ∀ W : World, W.heap[w.heap.size + 1]? = some (.cells rs.toArray 71 (0, 0)) → W.rangeAt (w.heap.size + 1) 3 ecs := fun W k => range_sub k 3 ecs (by rw [hrs]; exact rec_ent ..)
  have HT3 := Aside0.mk T3
  have hi59 : (Try.prog.info? 59).map (·.size) = some ecs.length := by rw [hel]; exact size59
  have C44 : Aside0 (∀ W, Below w.heap.size w W → Calls Try.prog 44 #[.agg ecs.toArray] W fun e w' => ∃ cs', e = .returned (.agg cs'.toArray) ∧ kEnt.M w' W.heap.size (fun _ => True) y cs' ∧ Below W.heap.size W w') :=
    ⟨fun W hW => ownEntry_c y ecs W (kEnt.K_below hW hE) hcy.1 hcy.2⟩
  have hy0 : ecs[0]? = some (.int .i64 y.1) := by
    obtain ⟨h1, h2, _⟩ := ent_cells hE
    have := h1.i0
    rw [h2] at this
    exact this
  clear hrs hE hr hs hL hsn hvn hln T3 hcy
  obtain ⟨t, v, si, st, Va, Vn, Vc, La, Ln, Lc, d, A, n, cap, Ga, Gn, Gc⟩ := s
  dsimp only at *
  unfold Sv.cells at *
  dsimp only at *
  have q0 : Below w.heap.size w (((w.alloc (.cells #[.int .i64 t, .int .i64 v, .int .i64 si, .int .i64 st, .slice Va Vn Vc, .slice La Ln Lc, .string d, .slice A n cap, .slice Ga Gn Gc] 30)).alloc (.cells rs.toArray 71)).alloc (.cells #[.int .i64 0, .int .i64 0, .int .i64 0, .int .i64 0, .slice none 0 0, .slice none 0 0, .string ⟨#[]⟩, .slice none 0 0, .slice none 0 0] 30)) := (((Below.refl _ w).alloc (Nat.le_refl _) _).alloc (by simp) _).alloc (by simp; omega) _
  have s0 : (((w.alloc (.cells #[.int .i64 t, .int .i64 v, .int .i64 si, .int .i64 st, .slice Va Vn Vc, .slice La Ln Lc, .string d, .slice A n cap, .slice Ga Gn Gc] 30)).alloc (.cells rs.toArray 71)).alloc (.cells #[.int .i64 0, .int .i64 0, .int .i64 0, .int .i64 0, .slice none 0 0, .slice none 0 0, .string ⟨#[]⟩, .slice none 0 0, .slice none 0 0] 30)).heap.size = w.heap.size + 3 := by simp
  have a0 := blk_alloc (blk_alloc (blk_new w (.cells #[.int .i64 t, .int .i64 v, .int .i64 si, .int .i64 st, .slice Va Vn Vc, .slice La Ln Lc, .string d, .slice A n cap, .slice Ga Gn Gc] 30)) (.cells rs.toArray 71)) (.cells #[.int .i64 0, .int .i64 0, .int .i64 0, .int .i64 0, .slice none 0 0, .slice none 0 0, .string ⟨#[]⟩, .slice none 0 0, .slice none 0 0] 30)
  have b0 := blk_alloc (blk_new (w.alloc (.cells #[.int .i64 t, .int .i64 v, .int .i64 si, .int .i64 st, .slice Va Vn Vc, .slice La Ln Lc, .string d, .slice A n cap, .slice Ga Gn Gc] 30)) (.cells rs.toArray 71)) (.cells #[.int .i64 0, .int .i64 0, .int .i64 0, .int .i64 0, .slice none 0 0, .slice none 0 0, .string ⟨#[]⟩, .slice none 0 0, .slice none 0 0] 30)
  have c0 := blk_new ((w.alloc (.cells #[.int .i64 t, .int .i64 v, .int .i64 si, .int .i64 st, .slice Va Vn Vc, .slice La Ln Lc, .string d, .slice A n cap, .slice Ga Gn Gc] 30)).alloc (.cells rs.toArray 71)) (.cells #[.int .i64 0, .int .i64 0, .int .i64 0, .int .i64 0, .slice none 0 0, .slice none 0 0, .string ⟨#[]⟩, .slice none 0 0, .slice none 0 0] 30)
  rw [World.size_alloc] at b0
  rw [World.size_alloc, World.size_alloc] at c0
  go_enter Try.func36, Try.ntmps36
  go_upto_region 1 with (fail)
  generalize (((w.alloc (.cells #[.int .i64 t, .int .i64 v, .int .i64 si, .int .i64 st, .slice Va Vn Vc, .slice La Ln Lc, .string d, .slice A n cap, .slice Ga Gn Gc] 30)).alloc (.cells rs.toArray 71)).alloc (.cells #[.int .i64 0, .int .i64 0, .int .i64 0, .int .i64 0, .slice none 0 0, .slice none 0 0, .string ⟨#[]⟩, .slice none 0 0, .slice none 0 0] 30)) = W0 at q0 s0 a0 b0 c0 ⊢
  go_wp2_with (refine wpList_load_row rfl 30 (.tmp 2) rfl w.heap.size rfl 30 _ (0, 0) _ a0 Try.underlying30 rfl (hi30 _ rfl) ?_)
  refine (C17.out W0 q0).mono ?_
  rintro e w1 ⟨s', rfl, hSK, hb1⟩
  rw [s0] at hSK
  have q1 : Below w.heap.size w w1 := q0.trans (hb1.mono q0.size)
  have a1 := (hb1.block w.heap.size (by omega)).trans a0
  have b1 := (hb1.block (w.heap.size + 1) (by omega)).trans b0
  have c1 := (hb1.block (w.heap.size + 2) (by omega)).trans c0
  have s1 : w.heap.size + 3 ≤ w1.heap.size := by have := hb1.size; omega
  clear q0 s0 a0 b0 c0 hb1 C17
  have a2 := blk_alloc a1 (.cells s'.cells 30)
  have b2 := blk_alloc b1 (.cells s'.cells 30)
  have c2 := blk_alloc c1 (.cells s'.cells 30)
  have g2 := blk_new w1 (.cells s'.cells 30)
  have q2 : Below w.heap.size w (w1.alloc (.cells s'.cells 30)) := q1.alloc (by omega) _
  have p2 : Below w1.heap.size w1 (w1.alloc (.cells s'.cells 30)) := (Below.refl _ w1).alloc (Nat.le_refl _) _
  have s2 : (w1.alloc (.cells s'.cells 30)).heap.size = w1.heap.size + 1 := by simp
  go_upto_region 2 with (first | (refine wpList_store_new rfl 30 (.tmp 6) (.tmp 10) rfl s'.cells _ 30 rfl rfl (hi30 _ rfl) rfl (sound_cells_one s') ?_))
  generalize (w1.alloc (.cells s'.cells 30)) = w2 at a2 b2 c2 g2 q2 p2 s2 ⊢
  have SK1 := Aside0.mk hSK
  have SKW := Aside0.mk hSK.sk
  have P2 := Aside0.mk p2
  have hg : w.heap.size + 3 ≤ w1.heap.size := s1
  obtain ⟨g, hgw⟩ : ∃ g, w1.heap.size = g := ⟨_, rfl⟩
  rw [hgw] at g2 s2 hg P2 ⊢
  have HGW := Aside0.mk hgw
  clear hgw hSK q1 a1 b1 c1 s1 p2
  go_wp2_with (refine wpList_load_row rfl 30 (.tmp 2) rfl w.heap.size rfl 30 _ (0, 0) _ a2 Try.underlying30 rfl (hi30 _ rfl) ?_)
  refine (C61.out w2 q2).mono ?_
  rintro e w3 ⟨rfl, hb3⟩
  have q3 : Below w.heap.size w w3 := q2.trans (hb3.mono q2.size)
  have a3 := (hb3.block w.heap.size (by omega)).trans a2
  have b3 := (hb3.block (w.heap.size + 1) (by omega)).trans b2
  have c3 := (hb3.block (w.heap.size + 2) (by omega)).trans c2
  have g3 := (hb3.block g (by omega)).trans g2
  have P3 : Aside0 (Below g w1 w3) := ⟨P2.out.trans (hb3.mono (by omega))⟩
  have s3 : g < w3.heap.size := by have := hb3.size; omega
  clear q2 a2 b2 c2 g2 s2 hb3 C61 P2
  have k0 : w3.cell? ⟨w.heap.size + 1, 0, none⟩ = some (.int .i64 2) := cell_hp b3 (by rw [List.getElem?_toArray]; exact T0)
  have k3 : w3.cell? ⟨w.heap.size + 1, 3, none⟩ = some (.int .i64 y.1) := by
    have := HT3.out w3 b3 0 _ hy0
    simpa using this
  have k7s : w3.cell? ⟨w.heap.size, 7, none⟩ = some (.slice A n cap) := cell_hp a3 rfl
  obtain ⟨y1, yr⟩ := y
  dsimp only at *
  have w1' : wrap64 (y1 - 1) = si + (n : Int) := by rw [wr64 _ (by omega), hy]
  have hn9' : ¬ (n : Int) ≥ 9000 := by omega
  by_cases gf : y1 > 900000000
  · have GF := decide_eq_true gf
    go_wp2_with fail
    refine (far_c y1 w3).mono ?_
    rintro e w4 ⟨rfl, hb4⟩
    rw [GF]
    have q4 : Below w.heap.size w w4 := q3.trans (hb4.mono q3.size)
    have c4 := (hb4.block (w.heap.size + 2) (by omega)).trans c3
    have hs4 := hb4.size
    clear hb4 q3 a3 b3 c3 g3
    go_wp2_with fail
    refine (no_c 110 w4).mono ?_
    rintro e w5 ⟨rfl, hb5⟩
    have q5 : Below w.heap.size w w5 := q4.trans (hb5.mono q4.size)
    have c5 := (hb5.block (w.heap.size + 2) (by omega)).trans c4
    clear hb5 q4 c4 k0 k3 k7s
    go_wp2_with (refine wpList_store_row rfl 30 (.tmp 4) (.tmp 91) rfl (w.heap.size + 2) _ rfl rfl 30 _ c5 (hi30 _ rfl) rfl (sound_cells_one Sv.none) ?_)
    have hgr := setRow_heap w5 (w.heap.size + 2) _ Sv.none.cells 30 (0, 0) c5
    refine bodyPost_ret (results_ct rfl _ _ (w.heap.size + 2) 30 _ (0, 0) _ rfl hgr Try.underlying30 rfl (hi30 _ rfl)) rfl ?_
    exact ⟨Sv.none, .inl ⟨gf, rfl⟩, below_setRow q5 _ (by omega) _⟩
  · have GF := decide_eq_false gf
    go_wp2_with fail
    refine (far_c y1 w3).mono ?_
    rintro e w4 ⟨rfl, hb4⟩
    rw [GF]
    have q4 : Below w.heap.size w w4 := q3.trans (hb4.mono q3.size)
    have a4 := (hb4.block w.heap.size (by omega)).trans a3
    have b4 := (hb4.block (w.heap.size + 1) (by omega)).trans b3
    have c4 := (hb4.block (w.heap.size + 2) (by omega)).trans c3
    have g4 := (hb4.block g (by omega)).trans g3
    have P4 : Aside0 (Below g w1 w4) := ⟨P3.out.trans (hb4.mono (by omega))⟩
    have s4 : g < w4.heap.size := by have := hb4.size; omega
    have k7s : w4.cell? ⟨w.heap.size, 7, none⟩ = some (.slice A n cap) := cell_hp a4 rfl
    clear hb4 q3 a3 b3 c3 g3 k0 k3 P3 s3
    go_upto_region 20 with (fail)
    obtain ⟨t', v', si', st', Va', Vn', Vc', La', Ln', Lc', d', A', n', cap', Ga', Gn', Gc'⟩ := s'
    dsimp only at *
    have hOW : OwnedIn w4 (w.heap.size + 3) ⟨t', v', si', st', Va', Vn', Vc', La', Ln', Lc', d', A', n', cap', Ga', Gn', Gc'⟩ x := SK1.out.moved (fun k h1 h2 => P4.out.block k (by rw [← HGW.out]; exact h2))
    have bnd : ∀ {α : Type} {dd : Kd α} {e : Nat} {u : Value} {ys : List α}, dd.R e w1 (w.heap.size + 3) (fun _ => True) u ys → dd.R e w4 (w.heap.size + 3) (fun k => k ≠ g) u ys := fun h =>
      Kd.R_mono (Kd.R_step (Kd.R_bound h) (fun k hk h2 => P4.out.block k (by rw [← HGW.out]; exact h2))) (fun k hk => by have h3 := hk.2.2.1; rw [HGW.out] at h3; exact Nat.ne_of_lt h3)
    have RV := Aside0.mk (bnd SK1.out.V)
    have RL := Aside0.mk (bnd SK1.out.L)
    have RE := Aside0.mk (bnd SK1.out.E)
    have RG := Aside0.mk (bnd SK1.out.G)
    have HX := Aside0.mk SK1.out.h
    have hxl : x.2.2.2.1.length < 9000 := by rw [← HSn.out]; exact hn9
    obtain ⟨xs, hxs⟩ : ∃ xs, x.2.2.2.1 = xs := ⟨_, rfl⟩
    obtain ⟨E, hE⟩ : ∃ E, Value.slice A' n' cap' = E := ⟨_, rfl⟩
    have g4 : w4.heap[g]? = some (.cells #[.int .i64 t', .int .i64 v', .int .i64 si', .int .i64 st', .slice Va' Vn' Vc', .slice La' Ln' Lc', .string d', E, .slice Ga' Gn' Gc'] 30 (0, 0)) := by rw [← hE]; exact g4
    rw [hxs] at RE hxl
    dsimp only at RE
    rw [hE] at RE
    have cE : w4.cell? ⟨g, 7, none⟩ = some E := by simp [World.cell?, g4]
    have hvb : ∀ k, E.ownBlock = some k → k < w4.heap.size := fun k hk => by
      obtain ⟨inner, ho⟩ := Kd.R_own RE.out
      exact own_lt ho k hk
    have HVB := Aside0.mk hvb
    have B4 : Below (w.heap.size + 3) w4 w4 := Below.refl _ _
    have HG : w.heap.size + 3 ≤ (⟨g, 7, none⟩ : Addr).block := hg
    have rg : ∀ W, Below (w.heap.size + 3) w4 W → W.rangeAt (w.heap.size + 1) 3 ecs := fun W hW => HT3.out W ((hW.block _ (by omega)).trans b4)
    have HB : Aside0 (∀ W, Below (w.heap.size + 3) w4 W → Calls Try.prog 44 #[.agg ecs.toArray] W fun e w' => ∃ cs', e = .returned (.agg cs'.toArray) ∧ kEnt.M w' W.heap.size (fun _ => True) (y1, yr) cs' ∧ Below W.heap.size W w') :=
      ⟨fun W hW => C44.out W (q4.trans (hW.mono (by omega)))⟩
    clear hvb a4 b4 hOW SK1 P4 k7s SKW C44 HT3
    refine wp_region_held_drew (S := (fun W => Below (w.heap.size + 3) w4 W)) (by kernel_rfl) (by exact B4.drew) (fun hHeld => ?_)
    refine wpAnyH_take (i := 0) (oi := _) (v := ?_) rfl (by kernel_rfl) (by kernel_rfl) (by kernel_rfl) (fun _ _ _ h => h) (Or.inl ⟨by rfl, ?_⟩) (by assumption) ?_
    rotate_left
    · (intro w hSw; (try dsimp only at hSw); go_simp; (try with_reducible rfl))
    (try simp only [Act.put, List.getElem_toArray, List.getElem_cons_zero, List.getElem_cons_succ, List.setIfInBounds_toArray, List.set_cons_zero, List.set_cons_succ])
    refine wpAnyH_take (i := 2) (oi := _) (v := ?_) rfl (by kernel_rfl) (by kernel_rfl) (by kernel_rfl) (fun _ _ _ h => h) (Or.inl ⟨by rfl, ?_⟩) (by assumption) ?_
    rotate_left
    · (intro w hSw; (try dsimp only at hSw); go_simp; (try with_reducible rfl))
    (try simp only [Act.put, List.getElem_toArray, List.getElem_cons_zero, List.getElem_cons_succ, List.setIfInBounds_toArray, List.set_cons_zero, List.set_cons_succ])
    refine wpAnyH_take (i := 3) (oi := _) (v := _) rfl (by kernel_rfl) (by kernel_rfl) (by kernel_rfl) (fun _ _ _ h => h) (yieldsIf_load_mid (by rfl) 59 (.tmp 102) rfl (w.heap.size + 1) 3 rfl ecs _ rg Try.underlying59 rfl hi59) (by assumption) ?_
    (try simp only [Act.put, List.getElem_toArray, List.getElem_cons_zero, List.getElem_cons_succ, List.setIfInBounds_toArray, List.set_cons_zero, List.set_cons_succ])
    refine wpAnyH_ready (rs := [1, 4]) (by kernel_rfl) (by decide) (AllReadyH.cons rfl (fun K' hK => ?_) (AllReadyH.cons rfl (fun K' hK => ?_) AllReadyH.nil))
    · rw [if_pos (by rfl)]
      have cEw := cE
      go_simp
      refine hK.out _ _ (by assumption) (fun hHeld => ?_)
      clear hK
      (try simp only [Act.put, List.getElem_toArray, List.getElem_cons_zero, List.getElem_cons_succ, List.setIfInBounds_toArray, List.set_cons_zero, List.set_cons_succ])
      refine wpAnyH_ready (rs := [4]) (by kernel_rfl) (by decide) (AllReadyH.cons rfl (fun K' hK => ?_) AllReadyH.nil)
      rw [if_pos (by rfl)]
      go_simp
      refine (HB.out _ (by assumption)).mono ?_
      rintro e w' ⟨cs', rfl, hM, hb'⟩
      have hb2 : Below w4.heap.size w4 w' := (Below.refl w4.heap.size w4).drew.trans (hb'.mono (Nat.le_refl _))
      have hcl : cs'.length = 43 := kEnt.K_len (kEnt.K_of_M hM)
      have hM2 : kEnt.M w' w4.heap.size (fun _ => True) (y1, yr) cs' := hM
      have hbW : Below (w.heap.size + 3) w4 w' := B4.trans (hb2.mono (show w.heap.size + 3 ≤ w4.heap.size by omega))
      have cE' : w'.cell? ⟨g, 7, none⟩ = some E := by have := (hb2.block g s4).trans g4; simp [World.cell?, this]
      (try dsimp only)
      refine hK.out _ _ (by exact hbW) (fun hHeld => ?_)
      clear hK hM hb'
      (try simp only [Act.put, List.getElem_toArray, List.getElem_cons_zero, List.getElem_cons_succ, List.setIfInBounds_toArray, List.set_cons_zero, List.set_cons_succ])
      refine wpAnyH_ready (rs := [5]) (by kernel_rfl) (by decide) (AllReadyH.cons rfl (fun K' hK => ?_) AllReadyH.nil)
      rw [if_pos (by rfl)]
      go_simp
      refine hK.out _ _ (by exact hbW.alloc (show w.heap.size + 3 ≤ w'.heap.size by have := hb2.size; omega) _) (fun hHeld => ?_)
      clear hK
      (try simp only [Act.put, List.getElem_toArray, List.getElem_cons_zero, List.getElem_cons_succ, List.setIfInBounds_toArray, List.set_cons_zero, List.set_cons_succ])
      refine wpAnyH_ready (rs := [6]) (by kernel_rfl) (by decide) (AllReadyH.cons rfl (fun K' hK => ?_) AllReadyH.nil)
      refine Kd.R_append_step kEnt (w0 := w4) (w.heap.size + 3) rfl (.tmp 101) (.tmp 105) 27 59 z59 168 rfl Try.underlying27 info59 z59_size (by decide) (by omega) E xs (y1, yr) cs' (fun k => k ≠ g) (fun k => w4.heap.size ≤ k) rfl rfl (kEnt.M_lower (by omega) (kEnt.M_mono (ok' := fun k => w4.heap.size ≤ k) (fun k hk => by have := hk.2.1; omega) (kEnt.M_bound hM2))) (fun k hk => ⟨by omega, fun e => by have := HVB.out k e.symm; omega⟩) (fun k hk => by have := hb2.size; omega) (Kd.R_below RE.out hb2) hbW (show w.heap.size + 3 ≤ w'.heap.size by have := hb2.size; omega) (by omega) ?_
      intro v1 w1 ho hb hgr hat
      obtain ⟨A1, cp1, hv1⟩ := Kd.R_slice ho
      obtain ⟨nl, hnl⟩ : ∃ m, (xs ++ [(y1, yr)]).length = m := ⟨_, rfl⟩
      rw [hnl] at hv1
      subst hv1
      have hg1 : w1.heap[g]? = w'.heap[g]? := hgr.block _ (Nat.lt_of_lt_of_le s4 hb2.size) (fun e => RE.out.1 _ e.symm rfl)
      have K1 : w1.heap[g]? = some (.cells #[.int .i64 t', .int .i64 v', .int .i64 si', .int .i64 st', .slice Va' Vn' Vc', .slice La' Ln' Lc', .string d', E, .slice Ga' Gn' Gc'] 30 (0, 0)) := hg1.trans ((hb2.block g s4).trans g4)
      have cE1 : w1.cell? ⟨g, 7, none⟩ = some E := by simp [World.cell?, K1]
      have fE1 : w1.frozen? ⟨g, 7, none⟩ = false := by simp [World.frozen?, K1]
      have hokE : ∀ k, k ≠ g → some k ≠ E.ownBlock → True := fun _ _ _ => trivial
      have RV1 : Aside0 ((Kd.int .i64).R 3 w1 (w.heap.size + 3) (fun k => k ≠ g) (.slice Va' Vn' Vc') x.2.2.1.2.2.1.1) := ⟨R_beside (Kd.R_below RV.out hb2) (Kd.R_below RE.out hb2) hgr⟩
      have RL1 : Aside0 ((Kd.int .i64).R 3 w1 (w.heap.size + 3) (fun k => k ≠ g) (.slice La' Ln' Lc') x.2.2.1.2.2.1.2) := ⟨R_beside (Kd.R_below RL.out hb2) (Kd.R_below RE.out hb2) hgr⟩
      have RG1 : Aside0 (kSgn.R 69 w1 (w.heap.size + 3) (fun k => k ≠ g) (.slice Ga' Gn' Gc') x.2.2.2.2) := ⟨S_beside (Kd.R_below RG.out hb2) (Kd.R_below RE.out hb2) hgr⟩
      have HO := Aside0.mk ho
      have KK1 := Aside0.mk K1
      refine hK.out _ _ (by exact hb) (fun hHeld => ?_)
      clear hK ho hgr hat hg1 K1
      (try simp only [Act.put, List.getElem_toArray, List.getElem_cons_zero, List.getElem_cons_succ, List.setIfInBounds_toArray, List.set_cons_zero, List.set_cons_succ])
      refine wpAnyH_take (i := 7) (oi := _) (v := ?_) rfl (by kernel_rfl) (by kernel_rfl) (by kernel_rfl) (fun _ _ _ h => h) (Or.inl ⟨by rfl, ?_⟩) (by assumption) ?_
      rotate_left
      · (intro w hSw; (try dsimp only at hSw); go_simp; (try with_reducible rfl))
      (try simp only [Act.put, List.getElem_toArray, List.getElem_cons_zero, List.getElem_cons_succ, List.setIfInBounds_toArray, List.set_cons_zero, List.set_cons_succ])
      refine wpAnyH_ready (rs := [8]) (by kernel_rfl) (by decide) (AllReadyH.cons rfl (fun K' hK => ?_) AllReadyH.nil)
      rw [if_pos (by rfl)]
      go_simp
      refine hK.out _ _ (by exact hb.setCell (p := ⟨g, 7, none⟩) HG _) (fun hHeld => ?_)
      clear hK
      (try simp only [Act.put, List.getElem_toArray, List.getElem_cons_zero, List.getElem_cons_succ, List.setIfInBounds_toArray, List.set_cons_zero, List.set_cons_succ])
      refine wpAnyH_done (by kernel_rfl) ?_ _
      have hfin := Aside0.mk (hb.setCell (p := ⟨g, 7, none⟩) HG (.slice A1 nl cp1))
      have HBW := Aside0.mk (show w1.heap[w.heap.size + 2]? = w4.heap[w.heap.size + 2]? from hb.block _ (by omega))
      clear hb cE1 fE1 hHeld
      have k9 : (w1.setCell ⟨g, 7, none⟩ (.slice A1 nl cp1)).heap[g]? = some (.cells #[.int .i64 t', .int .i64 v', .int .i64 si', .int .i64 st', .slice Va' Vn' Vc', .slice La' Ln' Lc', .string d', .slice A1 nl cp1, .slice Ga' Gn' Gc'] 30 (0, 0)) := by simp [World.setCell, Array.getElem?_modify, KK1.out]
      have r9 : (w1.setCell ⟨g, 7, none⟩ (.slice A1 nl cp1)).heap[w.heap.size + 2]? = _ := (Below.heap_setCell w1 ⟨g, 7, none⟩ _ _ (show w.heap.size + 2 ≠ g by omega)).trans (HBW.out.trans c4)
      go_wp2_with (first | (refine wpList_load_row rfl 30 (.tmp 6) rfl g rfl 30 _ (0, 0) _ k9 Try.underlying30 rfl (hi30 _ rfl) ?_) | (refine wpList_store_row rfl 30 (.tmp 4) (.tmp 163) rfl (w.heap.size + 2) _ rfl rfl 30 _ r9 (hi30 _ rfl) rfl (by simp [Value.oneCell']) ?_))
      have hgr := setRow_heap (w1.setCell ⟨g, 7, none⟩ (.slice A1 nl cp1)) (w.heap.size + 2) _ (#[.int .i64 t', .int .i64 v', .int .i64 si', .int .i64 st', .slice Va' Vn' Vc', .slice La' Ln' Lc', .string d', .slice A1 nl cp1, .slice Ga' Gn' Gc'] : Array Value) 30 (0, 0) r9
      refine bodyPost_ret (results_ct rfl _ _ (w.heap.size + 2) 30 _ (0, 0) _ rfl hgr Try.underlying30 rfl (hi30 _ rfl)) rfl ?_
      have mv : ∀ {α : Type} {dd : Kd α} {e : Nat} {u : Value} {ys : List α}, dd.R e w1 (w.heap.size + 3) (fun k => k ≠ g) u ys → dd.R e ((w1.setCell ⟨g, 7, none⟩ (.slice A1 nl cp1)).setRow (w.heap.size + 2) #[.int .i64 t', .int .i64 v', .int .i64 si', .int .i64 st', .slice Va' Vn' Vc', .slice La' Ln' Lc', .string d', .slice A1 nl cp1, .slice Ga' Gn' Gc']) (w.heap.size + 3) (fun _ => True) u ys := fun h => by
        have h2 := Kd.R_far (p := ⟨g, 7, none⟩) h (fun k hk => hk) (.slice A1 nl cp1)
        exact Kd.R_mono (Kd.R_step (Kd.R_bound h2) (fun k hk _ => setRow_other _ (w.heap.size + 2) k _ (by have := hk.2.1; omega))) (fun _ _ => trivial)
      have hx := HX.out
      refine ⟨⟨t', v', si', st', Va', Vn', Vc', La', Ln', Lc', d', A1, nl, cp1, Ga', Gn', Gc'⟩, .inr ⟨by omega, rfl, OwnedIn.kept (base := w.heap.size + 3) (by omega) (x := (x.1, x.2.1, x.2.2.1, x.2.2.2.1 ++ [(y1, yr)], x.2.2.2.2)) ⟨hx, mv RV1.out, mv RL1.out, by rw [hxs]; exact mv HO.out, mv RG1.out⟩⟩, ?_⟩
      exact below_setRow (q4.trans (hfin.out.mono (by omega))) _ (by omega) _
    · rw [if_pos (by rfl)]
      go_simp
      refine (HB.out _ (by assumption)).mono ?_
      rintro e w' ⟨cs', rfl, hM, hb'⟩
      have hb2 : Below w4.heap.size w4 w' := (Below.refl w4.heap.size w4).drew.trans (hb'.mono (Nat.le_refl _))
      have hcl : cs'.length = 43 := kEnt.K_len (kEnt.K_of_M hM)
      have hM2 : kEnt.M w' w4.heap.size (fun _ => True) (y1, yr) cs' := hM
      have hbW : Below (w.heap.size + 3) w4 w' := B4.trans (hb2.mono (show w.heap.size + 3 ≤ w4.heap.size by omega))
      have cE' : w'.cell? ⟨g, 7, none⟩ = some E := by have := (hb2.block g s4).trans g4; simp [World.cell?, this]
      (try dsimp only)
      refine hK.out _ _ (by exact hbW) (fun hHeld => ?_)
      clear hK hM hb'
      (try simp only [Act.put, List.getElem_toArray, List.getElem_cons_zero, List.getElem_cons_succ, List.setIfInBounds_toArray, List.set_cons_zero, List.set_cons_succ])
      refine wpAnyH_ready (rs := [1, 5]) (by kernel_rfl) (by decide) (AllReadyH.cons rfl (fun K' hK => ?_) (AllReadyH.cons rfl (fun K' hK => ?_) AllReadyH.nil))
      · rw [if_pos (by rfl)]
        have cEw := cE'
        go_simp
        refine hK.out _ _ (by assumption) (fun hHeld => ?_)
        clear hK
        (try simp only [Act.put, List.getElem_toArray, List.getElem_cons_zero, List.getElem_cons_succ, List.setIfInBounds_toArray, List.set_cons_zero, List.set_cons_succ])
        refine wpAnyH_ready (rs := [5]) (by kernel_rfl) (by decide) (AllReadyH.cons rfl (fun K' hK => ?_) AllReadyH.nil)
        rw [if_pos (by rfl)]
        go_simp
        refine hK.out _ _ (by exact hbW.alloc (show w.heap.size + 3 ≤ w'.heap.size by have := hb2.size; omega) _) (fun hHeld => ?_)
        clear hK
        (try simp only [Act.put, List.getElem_toArray, List.getElem_cons_zero, List.getElem_cons_succ, List.setIfInBounds_toArray, List.set_cons_zero, List.set_cons_succ])
        refine wpAnyH_ready (rs := [6]) (by kernel_rfl) (by decide) (AllReadyH.cons rfl (fun K' hK => ?_) AllReadyH.nil)
        refine Kd.R_append_step kEnt (w0 := w4) (w.heap.size + 3) rfl (.tmp 101) (.tmp 105) 27 59 z59 168 rfl Try.underlying27 info59 z59_size (by decide) (by omega) E xs (y1, yr) cs' (fun k => k ≠ g) (fun k => w4.heap.size ≤ k) rfl rfl (kEnt.M_lower (by omega) (kEnt.M_mono (ok' := fun k => w4.heap.size ≤ k) (fun k hk => by have := hk.2.1; omega) (kEnt.M_bound hM2))) (fun k hk => ⟨by omega, fun e => by have := HVB.out k e.symm; omega⟩) (fun k hk => by have := hb2.size; omega) (Kd.R_below RE.out hb2) hbW (show w.heap.size + 3 ≤ w'.heap.size by have := hb2.size; omega) (by omega) ?_
        intro v1 w1 ho hb hgr hat
        obtain ⟨A1, cp1, hv1⟩ := Kd.R_slice ho
        obtain ⟨nl, hnl⟩ : ∃ m, (xs ++ [(y1, yr)]).length = m := ⟨_, rfl⟩
        rw [hnl] at hv1
        subst hv1
        have hg1 : w1.heap[g]? = w'.heap[g]? := hgr.block _ (Nat.lt_of_lt_of_le s4 hb2.size) (fun e => RE.out.1 _ e.symm rfl)
        have K1 : w1.heap[g]? = some (.cells #[.int .i64 t', .int .i64 v', .int .i64 si', .int .i64 st', .slice Va' Vn' Vc', .slice La' Ln' Lc', .string d', E, .slice Ga' Gn' Gc'] 30 (0, 0)) := hg1.trans ((hb2.block g s4).trans g4)
        have cE1 : w1.cell? ⟨g, 7, none⟩ = some E := by simp [World.cell?, K1]
        have fE1 : w1.frozen? ⟨g, 7, none⟩ = false := by simp [World.frozen?, K1]
        have hokE : ∀ k, k ≠ g → some k ≠ E.ownBlock → True := fun _ _ _ => trivial
        have RV1 : Aside0 ((Kd.int .i64).R 3 w1 (w.heap.size + 3) (fun k => k ≠ g) (.slice Va' Vn' Vc') x.2.2.1.2.2.1.1) := ⟨R_beside (Kd.R_below RV.out hb2) (Kd.R_below RE.out hb2) hgr⟩
        have RL1 : Aside0 ((Kd.int .i64).R 3 w1 (w.heap.size + 3) (fun k => k ≠ g) (.slice La' Ln' Lc') x.2.2.1.2.2.1.2) := ⟨R_beside (Kd.R_below RL.out hb2) (Kd.R_below RE.out hb2) hgr⟩
        have RG1 : Aside0 (kSgn.R 69 w1 (w.heap.size + 3) (fun k => k ≠ g) (.slice Ga' Gn' Gc') x.2.2.2.2) := ⟨S_beside (Kd.R_below RG.out hb2) (Kd.R_below RE.out hb2) hgr⟩
        have HO := Aside0.mk ho
        have KK1 := Aside0.mk K1
        refine hK.out _ _ (by exact hb) (fun hHeld => ?_)
        clear hK ho hgr hat hg1 K1
        (try simp only [Act.put, List.getElem_toArray, List.getElem_cons_zero, List.getElem_cons_succ, List.setIfInBounds_toArray, List.set_cons_zero, List.set_cons_succ])
        refine wpAnyH_take (i := 7) (oi := _) (v := ?_) rfl (by kernel_rfl) (by kernel_rfl) (by kernel_rfl) (fun _ _ _ h => h) (Or.inl ⟨by rfl, ?_⟩) (by assumption) ?_
        rotate_left
        · (intro w hSw; (try dsimp only at hSw); go_simp; (try with_reducible rfl))
        (try simp only [Act.put, List.getElem_toArray, List.getElem_cons_zero, List.getElem_cons_succ, List.setIfInBounds_toArray, List.set_cons_zero, List.set_cons_succ])
        refine wpAnyH_ready (rs := [8]) (by kernel_rfl) (by decide) (AllReadyH.cons rfl (fun K' hK => ?_) AllReadyH.nil)
        rw [if_pos (by rfl)]
        go_simp
        refine hK.out _ _ (by exact hb.setCell (p := ⟨g, 7, none⟩) HG _) (fun hHeld => ?_)
        clear hK
        (try simp only [Act.put, List.getElem_toArray, List.getElem_cons_zero, List.getElem_cons_succ, List.setIfInBounds_toArray, List.set_cons_zero, List.set_cons_succ])
        refine wpAnyH_done (by kernel_rfl) ?_ _
        have hfin := Aside0.mk (hb.setCell (p := ⟨g, 7, none⟩) HG (.slice A1 nl cp1))
        have HBW := Aside0.mk (show w1.heap[w.heap.size + 2]? = w4.heap[w.heap.size + 2]? from hb.block _ (by omega))
        clear hb cE1 fE1 hHeld
        have k9 : (w1.setCell ⟨g, 7, none⟩ (.slice A1 nl cp1)).heap[g]? = some (.cells #[.int .i64 t', .int .i64 v', .int .i64 si', .int .i64 st', .slice Va' Vn' Vc', .slice La' Ln' Lc', .string d', .slice A1 nl cp1, .slice Ga' Gn' Gc'] 30 (0, 0)) := by simp [World.setCell, Array.getElem?_modify, KK1.out]
        have r9 : (w1.setCell ⟨g, 7, none⟩ (.slice A1 nl cp1)).heap[w.heap.size + 2]? = _ := (Below.heap_setCell w1 ⟨g, 7, none⟩ _ _ (show w.heap.size + 2 ≠ g by omega)).trans (HBW.out.trans c4)
        go_wp2_with (first | (refine wpList_load_row rfl 30 (.tmp 6) rfl g rfl 30 _ (0, 0) _ k9 Try.underlying30 rfl (hi30 _ rfl) ?_) | (refine wpList_store_row rfl 30 (.tmp 4) (.tmp 163) rfl (w.heap.size + 2) _ rfl rfl 30 _ r9 (hi30 _ rfl) rfl (by simp [Value.oneCell']) ?_))
        have hgr := setRow_heap (w1.setCell ⟨g, 7, none⟩ (.slice A1 nl cp1)) (w.heap.size + 2) _ (#[.int .i64 t', .int .i64 v', .int .i64 si', .int .i64 st', .slice Va' Vn' Vc', .slice La' Ln' Lc', .string d', .slice A1 nl cp1, .slice Ga' Gn' Gc'] : Array Value) 30 (0, 0) r9
        refine bodyPost_ret (results_ct rfl _ _ (w.heap.size + 2) 30 _ (0, 0) _ rfl hgr Try.underlying30 rfl (hi30 _ rfl)) rfl ?_
        have mv : ∀ {α : Type} {dd : Kd α} {e : Nat} {u : Value} {ys : List α}, dd.R e w1 (w.heap.size + 3) (fun k => k ≠ g) u ys → dd.R e ((w1.setCell ⟨g, 7, none⟩ (.slice A1 nl cp1)).setRow (w.heap.size + 2) #[.int .i64 t', .int .i64 v', .int .i64 si', .int .i64 st', .slice Va' Vn' Vc', .slice La' Ln' Lc', .string d', .slice A1 nl cp1, .slice Ga' Gn' Gc']) (w.heap.size + 3) (fun _ => True) u ys := fun h => by
          have h2 := Kd.R_far (p := ⟨g, 7, none⟩) h (fun k hk => hk) (.slice A1 nl cp1)
          exact Kd.R_mono (Kd.R_step (Kd.R_bound h2) (fun k hk _ => setRow_other _ (w.heap.size + 2) k _ (by have := hk.2.1; omega))) (fun _ _ => trivial)
        have hx := HX.out
        refine ⟨⟨t', v', si', st', Va', Vn', Vc', La', Ln', Lc', d', A1, nl, cp1, Ga', Gn', Gc'⟩, .inr ⟨by omega, rfl, OwnedIn.kept (base := w.heap.size + 3) (by omega) (x := (x.1, x.2.1, x.2.2.1, x.2.2.2.1 ++ [(y1, yr)], x.2.2.2.2)) ⟨hx, mv RV1.out, mv RL1.out, by rw [hxs]; exact mv HO.out, mv RG1.out⟩⟩, ?_⟩
        exact below_setRow (q4.trans (hfin.out.mono (by omega))) _ (by omega) _
      · rw [if_pos (by rfl)]
        go_simp
        refine hK.out _ _ (by exact hbW.alloc (show w.heap.size + 3 ≤ w'.heap.size by have := hb2.size; omega) _) (fun hHeld => ?_)
        clear hK
        (try simp only [Act.put, List.getElem_toArray, List.getElem_cons_zero, List.getElem_cons_succ, List.setIfInBounds_toArray, List.set_cons_zero, List.set_cons_succ])
        refine wpAnyH_ready (rs := [1]) (by kernel_rfl) (by decide) (AllReadyH.cons rfl (fun K' hK => ?_) AllReadyH.nil)
        rw [if_pos (by rfl)]
        have cEw := (World.cell?_alloc_some w' ⟨g, 7, none⟩ (.cells cs'.toArray 59) (by rw [cE']; rfl)).trans cE'
        go_simp
        refine hK.out _ _ (by assumption) (fun hHeld => ?_)
        clear hK
        (try simp only [Act.put, List.getElem_toArray, List.getElem_cons_zero, List.getElem_cons_succ, List.setIfInBounds_toArray, List.set_cons_zero, List.set_cons_succ])
        refine wpAnyH_ready (rs := [6]) (by kernel_rfl) (by decide) (AllReadyH.cons rfl (fun K' hK => ?_) AllReadyH.nil)
        refine Kd.R_append_step kEnt (w0 := w4) (w.heap.size + 3) rfl (.tmp 101) (.tmp 105) 27 59 z59 168 rfl Try.underlying27 info59 z59_size (by decide) (by omega) E xs (y1, yr) cs' (fun k => k ≠ g) (fun k => w4.heap.size ≤ k) rfl rfl (kEnt.M_lower (by omega) (kEnt.M_mono (ok' := fun k => w4.heap.size ≤ k) (fun k hk => by have := hk.2.1; omega) (kEnt.M_bound hM2))) (fun k hk => ⟨by omega, fun e => by have := HVB.out k e.symm; omega⟩) (fun k hk => by have := hb2.size; omega) (Kd.R_below RE.out hb2) hbW (show w.heap.size + 3 ≤ w'.heap.size by have := hb2.size; omega) (by omega) ?_
        intro v1 w1 ho hb hgr hat
        obtain ⟨A1, cp1, hv1⟩ := Kd.R_slice ho
        obtain ⟨nl, hnl⟩ : ∃ m, (xs ++ [(y1, yr)]).length = m := ⟨_, rfl⟩
        rw [hnl] at hv1
        subst hv1
        have hg1 : w1.heap[g]? = w'.heap[g]? := hgr.block _ (Nat.lt_of_lt_of_le s4 hb2.size) (fun e => RE.out.1 _ e.symm rfl)
        have K1 : w1.heap[g]? = some (.cells #[.int .i64 t', .int .i64 v', .int .i64 si', .int .i64 st', .slice Va' Vn' Vc', .slice La' Ln' Lc', .string d', E, .slice Ga' Gn' Gc'] 30 (0, 0)) := hg1.trans ((hb2.block g s4).trans g4)
        have cE1 : w1.cell? ⟨g, 7, none⟩ = some E := by simp [World.cell?, K1]
        have fE1 : w1.frozen? ⟨g, 7, none⟩ = false := by simp [World.frozen?, K1]
        have hokE : ∀ k, k ≠ g → some k ≠ E.ownBlock → True := fun _ _ _ => trivial
        have RV1 : Aside0 ((Kd.int .i64).R 3 w1 (w.heap.size + 3) (fun k => k ≠ g) (.slice Va' Vn' Vc') x.2.2.1.2.2.1.1) := ⟨R_beside (Kd.R_below RV.out hb2) (Kd.R_below RE.out hb2) hgr⟩
        have RL1 : Aside0 ((Kd.int .i64).R 3 w1 (w.heap.size + 3) (fun k => k ≠ g) (.slice La' Ln' Lc') x.2.2.1.2.2.1.2) := ⟨R_beside (Kd.R_below RL.out hb2) (Kd.R_below RE.out hb2) hgr⟩
        have RG1 : Aside0 (kSgn.R 69 w1 (w.heap.size + 3) (fun k => k ≠ g) (.slice Ga' Gn' Gc') x.2.2.2.2) := ⟨S_beside (Kd.R_below RG.out hb2) (Kd.R_below RE.out hb2) hgr⟩
        have HO := Aside0.mk ho
        have KK1 := Aside0.mk K1
        refine hK.out _ _ (by exact hb) (fun hHeld => ?_)
        clear hK ho hgr hat hg1 K1
        (try simp only [Act.put, List.getElem_toArray, List.getElem_cons_zero, List.getElem_cons_succ, List.setIfInBounds_toArray, List.set_cons_zero, List.set_cons_succ])
        refine wpAnyH_take (i := 7) (oi := _) (v := ?_) rfl (by kernel_rfl) (by kernel_rfl) (by kernel_rfl) (fun _ _ _ h => h) (Or.inl ⟨by rfl, ?_⟩) (by assumption) ?_
        rotate_left
        · (intro w hSw; (try dsimp only at hSw); go_simp; (try with_reducible rfl))
        (try simp only [Act.put, List.getElem_toArray, List.getElem_cons_zero, List.getElem_cons_succ, List.setIfInBounds_toArray, List.set_cons_zero, List.set_cons_succ])
        refine wpAnyH_ready (rs := [8]) (by kernel_rfl) (by decide) (AllReadyH.cons rfl (fun K' hK => ?_) AllReadyH.nil)
        rw [if_pos (by rfl)]
        go_simp
        refine hK.out _ _ (by exact hb.setCell (p := ⟨g, 7, none⟩) HG _) (fun hHeld => ?_)
        clear hK
        (try simp only [Act.put, List.getElem_toArray, List.getElem_cons_zero, List.getElem_cons_succ, List.setIfInBounds_toArray, List.set_cons_zero, List.set_cons_succ])
        refine wpAnyH_done (by kernel_rfl) ?_ _
        have hfin := Aside0.mk (hb.setCell (p := ⟨g, 7, none⟩) HG (.slice A1 nl cp1))
        have HBW := Aside0.mk (show w1.heap[w.heap.size + 2]? = w4.heap[w.heap.size + 2]? from hb.block _ (by omega))
        clear hb cE1 fE1 hHeld
        have k9 : (w1.setCell ⟨g, 7, none⟩ (.slice A1 nl cp1)).heap[g]? = some (.cells #[.int .i64 t', .int .i64 v', .int .i64 si', .int .i64 st', .slice Va' Vn' Vc', .slice La' Ln' Lc', .string d', .slice A1 nl cp1, .slice Ga' Gn' Gc'] 30 (0, 0)) := by simp [World.setCell, Array.getElem?_modify, KK1.out]
        have r9 : (w1.setCell ⟨g, 7, none⟩ (.slice A1 nl cp1)).heap[w.heap.size + 2]? = _ := (Below.heap_setCell w1 ⟨g, 7, none⟩ _ _ (show w.heap.size + 2 ≠ g by omega)).trans (HBW.out.trans c4)
        go_wp2_with (first | (refine wpList_load_row rfl 30 (.tmp 6) rfl g rfl 30 _ (0, 0) _ k9 Try.underlying30 rfl (hi30 _ rfl) ?_) | (refine wpList_store_row rfl 30 (.tmp 4) (.tmp 163) rfl (w.heap.size + 2) _ rfl rfl 30 _ r9 (hi30 _ rfl) rfl (by simp [Value.oneCell']) ?_))
        have hgr := setRow_heap (w1.setCell ⟨g, 7, none⟩ (.slice A1 nl cp1)) (w.heap.size + 2) _ (#[.int .i64 t', .int .i64 v', .int .i64 si', .int .i64 st', .slice Va' Vn' Vc', .slice La' Ln' Lc', .string d', .slice A1 nl cp1, .slice Ga' Gn' Gc'] : Array Value) 30 (0, 0) r9
        refine bodyPost_ret (results_ct rfl _ _ (w.heap.size + 2) 30 _ (0, 0) _ rfl hgr Try.underlying30 rfl (hi30 _ rfl)) rfl ?_
        have mv : ∀ {α : Type} {dd : Kd α} {e : Nat} {u : Value} {ys : List α}, dd.R e w1 (w.heap.size + 3) (fun k => k ≠ g) u ys → dd.R e ((w1.setCell ⟨g, 7, none⟩ (.slice A1 nl cp1)).setRow (w.heap.size + 2) #[.int .i64 t', .int .i64 v', .int .i64 si', .int .i64 st', .slice Va' Vn' Vc', .slice La' Ln' Lc', .string d', .slice A1 nl cp1, .slice Ga' Gn' Gc']) (w.heap.size + 3) (fun _ => True) u ys := fun h => by
          have h2 := Kd.R_far (p := ⟨g, 7, none⟩) h (fun k hk => hk) (.slice A1 nl cp1)
          exact Kd.R_mono (Kd.R_step (Kd.R_bound h2) (fun k hk _ => setRow_other _ (w.heap.size + 2) k _ (by have := hk.2.1; omega))) (fun _ _ => trivial)
        have hx := HX.out
        refine ⟨⟨t', v', si', st', Va', Vn', Vc', La', Ln', Lc', d', A1, nl, cp1, Ga', Gn', Gc'⟩, .inr ⟨by omega, rfl, OwnedIn.kept (base := w.heap.size + 3) (by omega) (x := (x.1, x.2.1, x.2.2.1, x.2.2.2.1 ++ [(y1, yr)], x.2.2.2.2)) ⟨hx, mv RV1.out, mv RL1.out, by rw [hxs]; exact mv HO.out, mv RG1.out⟩⟩, ?_⟩
        exact below_setRow (q4.trans (hfin.out.mono (by omega))) _ (by omega) _
/-- What Folded tells. -/
def FoldedPost (w : World) (x : Saved) (r : Rec) (E' : List Ent) (e : Ending) (w' : World) : Prop := ∃ (s' : Sv) (code : Int), e = .returned (.tuple #[.agg s'.cells, .int .i64 code]) ∧
  ((code = 0 ∧ Kept w' w.heap.size s' (x.1, x.2.1, x.2.2.1, E', x.2.2.2.2)) ∨ (code = 110 ∧ r.2.2.2.1.1 > 900000000)) ∧ Below w.heap.size w w'
theorem fold_c (s : Sv) (x : Saved) (b off : Nat) (css : List (List Value)) (w : World) (hs : SK w s x) (hL : LX w s.A b off css x.2.2.2.1) (hsn : s.Gn ≤ 1000) (hvn : s.Vn ≤ 5000) (hln : s.Ln ≤ 5000)
    (r : Rec) (E' : List Ent) (rs : List Value) (hr : kRec.K w r rs) (hg : Good s.si x.2.2.2.1 r E') (hc : r.2.2.2.1.2.2.2.2.1.length < 17592186044416 ∧ r.2.2.2.1.2.2.2.2.2.length < 17592186044416) (hsi : 0 ≤ s.si ∧ s.si ≤ 900000000) :
    Calls Try.prog 36 #[.agg s.cells, .agg rs.toArray] w (FoldedPost w x r E') := by
  have hn := hs.n
  rcases hg with ⟨c, rfl, h1, h2, rfl⟩ | ⟨y, rfl, h1, h2, rfl⟩
  · refine (fold_cut s x b off css w hs hL hsn hvn hln c rs hr h1 (by omega) hsi).mono ?_
    rintro e w' ⟨s', rfl, hk, hb⟩
    exact ⟨s', 0, rfl, .inl ⟨rfl, hk⟩, hb⟩
  · refine (fold_ent s x b off css w hs hL hsn hvn hln y rs hr (by omega) (by omega) hc hsi).mono ?_
    rintro e w' ⟨s', h | h, hb⟩
    · obtain ⟨g, rfl⟩ := h
      exact ⟨s', 110, rfl, .inr ⟨rfl, g⟩, hb⟩
    · obtain ⟨g, rfl, hk⟩ := h
      exact ⟨s', 0, rfl, .inl ⟨rfl, hk⟩, hb⟩
end Go.Proofs.Ytpjachbmllklgaa.Rng
end
section
/- joins(): the document's example of Join. -/
namespace Go.Proofs.Ytpjachbmllklgaa.Rng
open Go.RowKit Go.Proofs.YtpjachbmllklgaaW.PrintWords Go.Proofs.Ytpjachbmllklgaa.Kinds Go.Proofs.Ytpjachbmllklgaa.PCou
set_option linter.unusedVariables false
set_option linter.unusedSimpArgs false
attribute [local go_sem] Oper.semAt_some
attribute [local go_sem] fold_zip

theorem one_its : its oneE = itX oneX := by decide
theorem jj_len (i t : Int) : ([entX i t] : List Ent).length = 1 := rfl
/-- One entry, in a block of its own. -/
theorem ent_lx {W : World} {b : Nat} {i t : Int} {ty : TypeId} {fr : Nat × Nat} (hi : -9223372036854775808 ≤ i ∧ i ≤ 9223372036854775807) (hb : W.heap[b]? = some (.cells (ent i t).toArray ty fr)) : LX W (some ⟨b, 0, none⟩) b 0 [ent i t] [entX i t] := by
  refine ⟨rfl, fun _ => rfl, ?_, ?_, ?_, ?_, .inl (Array.getElem?_eq_some_iff.1 hb).1, by simp⟩
  · exact row_flat (css := [ent i t]) (by simpa using hb) (fun c hc => by simp at hc; subst hc; rfl)
  · intro j hj
    obtain rfl : j = 0 := by simpa using hj
    exact kEnt.K_of_M (ent_M W 0 (fun _ => True) i t)
  · intro x hx
    simp at hx
    subst hx
    simp [entX]
  · intro x hx
    simp at hx
    subst hx
    exact hi

theorem jr1 : joinRecs (2 + (oneX.length : Int)) [entX 5 3] 0 = [recX 5, recE (entX 5 3)] := by rfl
theorem join_cut (W : World) (b g : Nat) (h : Lg W (oneSv b) b 0 oneE) {ty : TypeId} {fr : Nat × Nat} (hg : W.heap[g]? = some (.cells (ent 5 3).toArray ty fr)) :
    Calls Try.prog 33 #[.agg (oneSv b).cells, .int .i64 4, .int .i64 2, .slice (some ⟨g, 0, none⟩) 1 1] W fun e w' => ∃ (bl off c : Nat), e = .returned (.tuple #[.slice (some ⟨bl, off, none⟩) 2 c, .int .i64 5, .int .i64 0]) ∧ w'.cell? ⟨bl, off, none⟩ = some (.int .i64 3) ∧ w'.cell? ⟨bl, off + 46, none⟩ = some (.int .i64 5) ∧ Below W.heap.size W w' := by
  have J := join_c (oneSv b) b 0 oneE oneX W (one_lx h) rfl 4 2 (by decide) (some ⟨g, 0, none⟩) 1 1 g 0 [ent 5 3] [entX 5 3] (ent_lx (by decide) hg) rfl (Nat.le_refl _)
  refine J.mono ?_
  rintro e w' ⟨hb, h1 | ⟨h1, v, n, rfl, hn, h2⟩⟩
  · exact absurd (show jErr 2 1 (its oneE) 4 2 [entX 5 3] = 0 by decide +kernel) h1.1
  · have hn5 : n = 5 := hn.trans (show max (2 : Int) (wrap64 (4 + ((1 : Nat) : Int))) = 5 by decide +kernel)
    subst hn5
    rcases h2 with ⟨h2, _⟩ | ⟨k, h2, hk, hR⟩
    · exact absurd h2 (show findV (lacks 2 (termV 2 1 (its oneE))) [entX 5 3] ≠ -1 by decide)
    · obtain rfl : k = 0 := by simpa using hk
      have hR2 : kRec.R 71 w' W.heap.size (fun _ => True) v [recX 5, recE (entX 5 3)] := hR
      obtain ⟨A, c, bl, off, rfl, _, hA, hrow⟩ := recs_of_R hR2
      obtain rfl := hA (by decide)
      obtain ⟨cs, hK, hr⟩ := hrow w' (Below.refl _ _) 0 (by decide)
      have hK2 : kRec.K w' (recX 5) cs := hK
      obtain ⟨ecs, Va', vc', La', lc', hrs, hE, _⟩ := rec_K2 hK2
      have hel : ecs.length = 43 := kEnt.K_len hE
      refine ⟨bl, off, c, rfl, ?_, ?_, hb⟩
      · simpa using hr 0 _ (by rw [hrs]; rfl)
      · have T46 : cs[46]? = some (.int .i64 5) := by
          rw [hrs]
          have := rec_mid (recX 5).1 (recX 5).2.1 (recX 5).2.2.1 ecs (recX 5).2.2.2.2.1 (recX 5).2.2.2.2.2.1.1 (recX 5).2.2.2.2.2.1.2.1 (.slice Va' (recX 5).2.2.2.2.2.1.2.2.1.1.length vc') (.slice La' (recX 5).2.2.2.2.2.1.2.2.1.2.length lc') (recX 5).2.2.2.2.2.1.2.2.2 (sgnCells (recX 5).2.2.2.2.2.2) hel 0
          simp only [Nat.add_zero] at this
          exact this
        simpa using hr 46 _ T46
theorem join_same (W : World) (b g : Nat) (h : Lg W (oneSv b) b 0 oneE) {ty : TypeId} {fr : Nat × Nat} (hg : W.heap[g]? = some (.cells (ent 5 2).toArray ty fr)) :
    Calls Try.prog 33 #[.agg (oneSv b).cells, .int .i64 4, .int .i64 2, .slice (some ⟨g, 0, none⟩) 1 1] W fun e w' => ∃ n, e = .returned (.tuple #[.slice none 0 0, .int .i64 n, .int .i64 0]) ∧ Below W.heap.size W w' := by
  have J := join_c (oneSv b) b 0 oneE oneX W (one_lx h) rfl 4 2 (by decide) (some ⟨g, 0, none⟩) 1 1 g 0 [ent 5 2] [entX 5 2] (ent_lx (by decide) hg) rfl (Nat.le_refl _)
  refine J.mono ?_
  rintro e w' ⟨hb, h1 | ⟨h1, v, n, rfl, hn, h2⟩⟩
  · exact absurd (show jErr 2 1 (its oneE) 4 2 [entX 5 2] = 0 by decide +kernel) h1.1
  · rcases h2 with ⟨h2, rfl⟩ | ⟨k, h2, hk, hR⟩
    · exact ⟨n, rfl, hb⟩
    · have : findV (lacks 2 (termV 2 1 (its oneE))) [entX 5 2] = -1 := by decide
      have h3 : findV (lacks 2 (termV 2 1 (its oneE))) [entX 5 2] = k := h2
      omega
theorem join_bad (W : World) (b : Nat) (h : Lg W (oneSv b) b 0 oneE) :
    Calls Try.prog 33 #[.agg (oneSv b).cells, .int .i64 4, .int .i64 1, .slice none 0 0] W fun e w' => ∃ n, e = .returned (.tuple #[.slice none 0 0, .int .i64 n, .int .i64 120]) ∧ Below W.heap.size W w' := by
  have J := join_c (oneSv b) b 0 oneE oneX W (one_lx h) rfl 4 1 (by decide) none 0 0 0 0 [] [] ⟨rfl, fun g => absurd g (by decide), fun j hj => by simp at hj, fun j hj => by simp at hj, fun x hx => by simp at hx, fun x hx => by simp at hx, .inr rfl, by decide⟩ rfl (Nat.le_refl _)
  refine J.mono ?_
  have he : jErr 2 1 (its oneE) 4 1 [] = 120 := by decide
  rintro e w' ⟨hb, ⟨_, rfl⟩ | ⟨h1, _⟩⟩
  · exact ⟨0, by rw [show jErr (oneSv b).si (oneSv b).st (its oneE) 4 1 [] = 120 from he], hb⟩
  · exact absurd (he.symm.trans h1) (by decide)

set_option maxHeartbeats 1000000 in
set_option maxRecDepth 100000 in
theorem joins_c (w : World) : Calls Try.prog 34 #[] w fun e w' => e = .returned (.bool true) ∧ Below w.heap.size w w' := by
  have e42 : ∀ args w, (callFunc 42 args).run Try.prog w = .ok (.enter 42 args) w := enters_of Try.func42 (by kernel_rfl) rfl
  have e33 : ∀ args w, (callFunc 33 args).run Try.prog w = .ok (.enter 33 args) w := enters_of Try.func33 (by kernel_rfl) rfl
  go_enter Try.func34, Try.ntmps34
  go_wp2_with fail
  refine (one_c w).mono ?_
  rintro e w1 ⟨b1, rfl, q1, hL1⟩
  go_wp2_with fail
  obtain ⟨W2, hW2⟩ : ∃ W2, w1.alloc (.cells (ent 5 3).toArray 59) = W2 := ⟨_, rfl⟩
  have hg2 : W2.heap[w1.heap.size]? = some (.cells (ent 5 3).toArray 59 (0, 0)) := by rw [← hW2]; exact blk_new w1 _
  have b2 : Below w1.heap.size w1 W2 := by rw [← hW2]; exact (Below.refl _ w1).alloc (Nat.le_refl _) _
  have q2 : Below w.heap.size w W2 := q1.trans (b2.mono q1.size)
  have J := join_cut W2 b1 _ (hL1.below b2) hg2
  rw [← hW2] at J
  clear hg2 b2 hL1
  refine J.mono ?_
  rw [hW2]
  rintro e w3 ⟨bl, off, c, rfl, c0, c46, hb3⟩
  have q3 : Below w.heap.size w w3 := q2.trans (hb3.mono q2.size)
  have F0 : ∀ W, Below w3.heap.size w3 W → W.cell? ⟨bl, off, none⟩ = some (.int .i64 3) ∧ W.cell? ⟨bl, off + 46, none⟩ = some (.int .i64 5) := fun W hW => by
    have hlt : bl < w3.heap.size := by
      rcases Nat.lt_or_ge bl w3.heap.size with h | h
      · exact h
      · rw [World.cell?, Array.getElem?_eq_none (by simpa using h)] at c0
        simp at c0
    exact ⟨(hW.cell (p := ⟨bl, off, none⟩) hlt).trans c0, (hW.cell (p := ⟨bl, off + 46, none⟩) hlt).trans c46⟩
  have FF := Aside0.mk F0
  clear J hb3 q1 q2 c0 c46 F0 hW2
  go_wp2_with fail
  refine (one_c w3).mono ?_
  rintro e w4 ⟨b4, rfl, hb4, hL4⟩
  have q4 : Below w.heap.size w w4 := q3.trans (hb4.mono q3.size)
  go_wp2_with fail
  obtain ⟨W5, hW5⟩ : ∃ W5, w4.alloc (.cells (ent 5 2).toArray 59) = W5 := ⟨_, rfl⟩
  have hg5 : W5.heap[w4.heap.size]? = some (.cells (ent 5 2).toArray 59 (0, 0)) := by rw [← hW5]; exact blk_new w4 _
  have b5 : Below w4.heap.size w4 W5 := by rw [← hW5]; exact (Below.refl _ w4).alloc (Nat.le_refl _) _
  have q5 : Below w.heap.size w W5 := q4.trans (b5.mono q4.size)
  have p5 : Below w3.heap.size w3 W5 := hb4.trans (b5.mono hb4.size)
  have J := join_same W5 b4 _ (hL4.below b5) hg5
  rw [← hW5] at J
  clear hg5 b5 hL4 hb4
  refine J.mono ?_
  rw [hW5]
  rintro e w6 ⟨n6, rfl, hb6⟩
  have q6 : Below w.heap.size w w6 := q5.trans (hb6.mono q5.size)
  have p6 : Below w3.heap.size w3 w6 := p5.trans (hb6.mono p5.size)
  clear J hb6 q4 q5 p5 q3 hW5
  go_wp2_with fail
  refine (one_c w6).mono ?_
  rintro e w7 ⟨b7, rfl, hb7, hL7⟩
  have q7 : Below w.heap.size w w7 := q6.trans (hb7.mono q6.size)
  have p7 : Below w3.heap.size w3 w7 := p6.trans (hb7.mono p6.size)
  go_wp2_with fail
  refine (join_bad w7 b7 hL7).mono ?_
  rintro e w8 ⟨n8, rfl, hb8⟩
  have q8 : Below w.heap.size w w8 := q7.trans (hb8.mono q7.size)
  have p8 : Below w3.heap.size w3 w8 := p7.trans (hb8.mono p7.size)
  obtain ⟨c0, c46⟩ := FF.out w8 p8
  clear hb7 hL7 hb8 q6 p6 q7 p7 p8 FF
  go_wp2_with fail
  go_ret
  exact ⟨rfl, q8⟩
end Go.Proofs.Ytpjachbmllklgaa.Rng
end
section
/- Big, of a log and of entries. -/
namespace Go.Proofs.Ytpjachbmllklgaa.Rng
open Go.RowKit Go.Proofs.YtpjachbmllklgaaW.PrintWords Go.Proofs.Ytpjachbmllklgaa.Kinds Go.Proofs.Ytpjachbmllklgaa.PCou
set_option linter.unusedVariables false
set_option linter.unusedSimpArgs false
attribute [local go_sem] Oper.semAt_some

def BigPost3 (s : Sv) (xs : List Ent) (nl : Nat) (ys : List Ent) (e : Ending) : Prop := ∃ B, e = .returned (.bool B) ∧ (B = false → Small s xs ∧ (nl : Int) ≤ 1000 ∧ ∀ j, j < ys.length → ys[j]!.2.2.2.2.1.length ≤ 5000 ∧ ys[j]!.2.2.2.2.2.length ≤ 5000)
theorem bigPost3_true (s : Sv) (xs : List Ent) (nl : Nat) (ys : List Ent) : BigPost3 s xs nl ys (.returned (.bool true)) := ⟨true, rfl, fun h => by cases h⟩
theorem bigPost3_any (s : Sv) (xs : List Ent) (nl : Nat) (ys : List Ent) (B : Bool) (h : B = false → Small s xs ∧ (nl : Int) ≤ 1000 ∧ ∀ j, j < ys.length → ys[j]!.2.2.2.2.1.length ≤ 5000 ∧ ys[j]!.2.2.2.2.2.length ≤ 5000) : BigPost3 s xs nl ys (.returned (.bool B)) := ⟨B, rfl, h⟩

set_option maxHeartbeats 2000000 in
set_option maxRecDepth 100000 in
theorem big3_c (s : Sv) (b off : Nat) (css : List (List Value)) (xs : List Ent) (w : World) (h : (s.n : Int) ≤ 1000 → Lg w s b off css ∧ IsCX css xs)
    (AL : Option Addr) (nl cl bl ol : Nat) (cssl : List (List Value)) (ys : List Ent) (hl : (nl : Int) ≤ 1000 → nl = cssl.length ∧ LX0 w AL bl ol cssl ys) :
    Calls Try.prog 9 #[.agg s.cells, .slice AL nl cl] w fun e w' => BigPost3 s xs nl ys e ∧ Below w.heap.size w w' := by
  have H := Aside0.mk h
  have HLL := Aside0.mk hl
  clear h hl
  obtain ⟨t, v, si, st, Va, Vn, Vc, La, Ln, Lc, d, A, n, cap, Ga, Gn, Gc⟩ := s
  unfold Sv.cells
  dsimp only at H ⊢
  by_cases g1 : (n : Int) > 1000
  · go_enter Try.func9, Try.ntmps9
    go_wp2
    go_ret
    exact ⟨bigPost3_true _ _ _ _, (Below.refl _ w).alloc (Nat.le_refl _) _⟩
  by_cases g0 : (nl : Int) > 1000
  · go_enter Try.func9, Try.ntmps9
    go_wp2
    go_ret
    exact ⟨bigPost3_true _ _ _ _, (Below.refl _ w).alloc (Nat.le_refl _) _⟩
  by_cases g2 : (Gn : Int) > 1000
  · go_enter Try.func9, Try.ntmps9
    go_wp2
    go_ret
    exact ⟨bigPost3_true _ _ _ _, (Below.refl _ w).alloc (Nat.le_refl _) _⟩
  by_cases g3 : (Vn : Int) > 5000
  · go_enter Try.func9, Try.ntmps9
    go_wp2
    go_ret
    exact ⟨bigPost3_true _ _ _ _, ((Below.refl _ w).alloc (Nat.le_refl _) _).alloc (by simp) _⟩
  by_cases g4 : (Ln : Int) > 5000
  · go_enter Try.func9, Try.ntmps9
    go_wp2
    go_ret
    exact ⟨bigPost3_true _ _ _ _, ((Below.refl _ w).alloc (Nat.le_refl _) _).alloc (by simp) _⟩
  obtain ⟨hL, hC⟩ := H.out (by omega)
  obtain ⟨hnl, hLL⟩ := HLL.out (by omega)
  subst hnl
  have hn := hL.n
  dsimp only at hn
  subst hn
  clear H HLL
  have HLX := Aside0.mk hLL
  have HCL := Aside0.mk hLL.cx
  clear hLL
  have HL := Aside0.mk hL
  have HC := Aside0.mk hC
  clear hL hC
  have G1 : Aside0 ((css.length : Int) ≤ 1000 ∧ (Gn : Int) ≤ 1000 ∧ (Vn : Int) ≤ 5000 ∧ (Ln : Int) ≤ 5000) := ⟨by omega⟩
  have G0 : Aside0 ((cssl.length : Int) ≤ 1000) := ⟨by omega⟩
  go_enter Try.func9, Try.ntmps9
  go_wp2
  obtain ⟨W0, hW0⟩ : ∃ W0, ((w.alloc (.cells #[.int .i64 t, .int .i64 v, .int .i64 si, .int .i64 st, .slice Va Vn Vc, .slice La Ln Lc, .string d, .slice A css.length cap, .slice Ga Gn Gc] 30)).alloc (.cells #[.slice Va Vn Vc, .slice La Ln Lc] 24)) = W0 := ⟨_, rfl⟩
  have hb0 : Below w.heap.size w W0 := by rw [← hW0]; exact ((Below.refl _ w).alloc (Nat.le_refl _) _).alloc (by simp) _
  have hc7 : W0.cell? ⟨w.heap.size, 7, none⟩ = some (.slice A css.length cap) := by rw [← hW0]; simp
  have hs0 : w.heap.size < W0.heap.size := by rw [← hW0]; simp; omega
  rw [hW0]
  clear hW0
  go_loopg [5, 6] css.length (fun gg s5 s6 wr => ∃ (kk : Nat) (x : Int), kk ≤ css.length ∧ css.length - kk ≤ gg ∧ s5 = .int .i64 x ∧ s6 = .int .i64 kk ∧ Aside (Below W0.heap.size W0 wr) ∧ 0 ≤ x ∧ Aside (x ≤ 5000 → ∀ j, j < kk → xs[j]!.2.2.2.2.1.length ≤ 5000 ∧ xs[j]!.2.2.2.2.2.length ≤ 5000))
  case atStart => exact ⟨0, 0, by omega, by omega, rfl, rfl, Below.refl _ _, by omega, fun _ j hj => absurd hj (Nat.not_lt_zero _)⟩
  case round =>
    obtain ⟨kk, x, hk, hg, rfl, rfl, B, hx0, XC⟩ := hrel
    have hc7' : wr.cell? ⟨w.heap.size, 7, none⟩ = some (.slice A css.length cap) := (B.out.cell (p := ⟨w.heap.size, 7, none⟩) hs0).trans hc7
    by_cases hlt : kk < css.length ∧ x ≤ 5000
    · obtain ⟨hlt, hx5⟩ := hlt
      have hltz : (kk : Int) < (css.length : Int) := by omega
      obtain rfl := HL.out.A (by omega)
      have hrg := ((HL.out.below hb0).below B.out).row kk hlt
      obtain ⟨A1, c1, A2, c2, e1, e2⟩ := HC.out.2 kk hlt
      generalize hn1 : xs[kk]!.2.2.2.2.1.length = n1 at e1
      generalize hn2 : xs[kk]!.2.2.2.2.2.length = n2 at e2
      have N12 : Aside0 (xs[kk]!.2.2.2.2.1.length = n1 ∧ xs[kk]!.2.2.2.2.2.length = n2) := ⟨hn1, hn2⟩
      clear hn1 hn2
      have XS : Aside0 (∀ x', x' ≤ 5000 → x' ≥ x + (if 5001 < (n1 : Int) then 5001 else (n1 : Int)) + (if 5001 < (n2 : Int) then 5001 else (n2 : Int)) → ∀ j, j < kk + 1 → xs[j]!.2.2.2.2.1.length ≤ 5000 ∧ xs[j]!.2.2.2.2.2.length ≤ 5000) := ⟨fun x' h1 h2 j hj => by
        have hm1 : (0 : Int) ≤ (if 5001 < (n1 : Int) then 5001 else (n1 : Int)) := by split <;> omega
        have hm2 : (0 : Int) ≤ (if 5001 < (n2 : Int) then 5001 else (n2 : Int)) := by split <;> omega
        by_cases e : j = kk
        · subst e
          rw [N12.out.1, N12.out.2]
          constructor
          · split at h2 <;> omega
          · split at h2 <;> split at h2 <;> omega
        · exact XC.out hx5 j (by omega)⟩
      have k1 : wr.cell? ⟨b, off + kk * 43 + 41, none⟩ = some (.slice A1 n1 c1) := hrg 41 _ e1
      have k2 : wr.cell? ⟨b, off + kk * 43 + 42, none⟩ = some (.slice A2 n2 c2) := hrg 42 _ e2
      clear hrg e1 e2
      go_wp2
      go_region
      go_wp2
      all_goals go_roundg (css.length - (kk + 1))
      all_goals first | omega | exact ⟨kk + 1, _, by omega, by omega, rfl, by go_num, B.out.drew, by omega, fun h => XS.out _ h (by (repeat' split) <;> omega)⟩
    · have hb := hb0.trans (B.out.mono hb0.size)
      have hout : ¬ ((kk : Int) < (css.length : Int)) ∨ ((kk : Int) < (css.length : Int) ∧ ¬ x ≤ 5000) := by
        by_cases g : kk < css.length
        · exact .inr ⟨by omega, fun h => hlt ⟨g, h⟩⟩
        · exact .inl (by omega)
      clear hlt
      have FIN : Aside0 (x ≤ 5000 → ∀ j, j < xs.length → xs[j]!.2.2.2.2.1.length ≤ 5000 ∧ xs[j]!.2.2.2.2.2.length ≤ 5000) := ⟨fun hx j hj => by
        have := HC.out.1
        exact XC.out hx j (by omega)⟩
      rcases hout with g | ⟨g, g'⟩
      · go_wp2
        go_loopg [5, 7] cssl.length (fun gg s5 s7 wr2 => ∃ (kk : Nat) (x : Int), kk ≤ cssl.length ∧ cssl.length - kk ≤ gg ∧ s5 = .int .i64 x ∧ s7 = .int .i64 kk ∧ Aside (Below W0.heap.size W0 wr2) ∧ 0 ≤ x ∧ Aside (x ≤ 5000 → ∀ j, j < xs.length → xs[j]!.2.2.2.2.1.length ≤ 5000 ∧ xs[j]!.2.2.2.2.2.length ≤ 5000) ∧ Aside (x ≤ 5000 → ∀ j, j < kk → ys[j]!.2.2.2.2.1.length ≤ 5000 ∧ ys[j]!.2.2.2.2.2.length ≤ 5000))
        case atStart => exact ⟨0, x, by omega, by omega, rfl, rfl, B.out, hx0, FIN.out, fun _ j hj => absurd hj (Nat.not_lt_zero _)⟩
        clear FIN XC B hb hc7' hk hg
        case round =>
          obtain ⟨kk, x, hk, hg, rfl, rfl, B, hx0, FX, XC⟩ := hrel
          have hb := hb0.trans (B.out.mono hb0.size)
          by_cases hlt : kk < cssl.length ∧ x ≤ 5000
          · obtain ⟨hlt, hx5⟩ := hlt
            have hltz : (kk : Int) < (cssl.length : Int) := by omega
            obtain rfl := HLX.out.A (by omega)
            have hrg := ((HLX.out.below hb0).below B.out).row kk hlt
            obtain ⟨A1, c1, A2, c2, e1, e2⟩ := HCL.out.2 kk hlt
            generalize hn1 : ys[kk]!.2.2.2.2.1.length = n1 at e1
            generalize hn2 : ys[kk]!.2.2.2.2.2.length = n2 at e2
            have N12 : Aside0 (ys[kk]!.2.2.2.2.1.length = n1 ∧ ys[kk]!.2.2.2.2.2.length = n2) := ⟨hn1, hn2⟩
            clear hn1 hn2
            have XS : Aside0 (∀ x', x' ≤ 5000 → x' ≥ x + (if 5001 < (n1 : Int) then 5001 else (n1 : Int)) + (if 5001 < (n2 : Int) then 5001 else (n2 : Int)) → ∀ j, j < kk + 1 → ys[j]!.2.2.2.2.1.length ≤ 5000 ∧ ys[j]!.2.2.2.2.2.length ≤ 5000) := ⟨fun x' h1 h2 j hj => by
              have hm1 : (0 : Int) ≤ (if 5001 < (n1 : Int) then 5001 else (n1 : Int)) := by split <;> omega
              have hm2 : (0 : Int) ≤ (if 5001 < (n2 : Int) then 5001 else (n2 : Int)) := by split <;> omega
              by_cases e : j = kk
              · subst e
                rw [N12.out.1, N12.out.2]
                constructor
                · split at h2 <;> omega
                · split at h2 <;> split at h2 <;> omega
              · exact XC.out hx5 j (by omega)⟩
            have FS : Aside0 (∀ j, j < xs.length → xs[j]!.2.2.2.2.1.length ≤ 5000 ∧ xs[j]!.2.2.2.2.2.length ≤ 5000) := ⟨FX.out hx5⟩
            have k1 : wr.cell? ⟨bl, ol + kk * 43 + 41, none⟩ = some (.slice A1 n1 c1) := hrg 41 _ e1
            have k2 : wr.cell? ⟨bl, ol + kk * 43 + 42, none⟩ = some (.slice A2 n2 c2) := hrg 42 _ e2
            clear hrg e1 e2
            go_wp2
            go_region
            go_wp2
            all_goals go_roundg (cssl.length - (kk + 1))
            all_goals first | omega | exact ⟨kk + 1, _, by omega, by omega, rfl, by go_num, B.out.drew, by omega, fun _ => FS.out, fun h => XS.out _ h (by (repeat' split) <;> omega)⟩
          · have hout : ¬ ((kk : Int) < (cssl.length : Int)) ∨ ((kk : Int) < (cssl.length : Int) ∧ ¬ x ≤ 5000) := by
              by_cases g : kk < cssl.length
              · exact .inr ⟨by omega, fun h => hlt ⟨g, h⟩⟩
              · exact .inl (by omega)
            clear hlt
            have FIN : Aside0 (x ≤ 5000 → ¬ ((kk : Int) < (cssl.length : Int)) → ∀ j, j < ys.length → ys[j]!.2.2.2.2.1.length ≤ 5000 ∧ ys[j]!.2.2.2.2.2.length ≤ 5000) := ⟨fun hx g j hj => by
              have := HCL.out.1
              exact XC.out hx j (by omega)⟩
            rcases hout with g | ⟨g, g'⟩
            · go_wp2
              go_ret
              exact ⟨bigPost3_any _ _ _ _ _ (fun hB => ⟨⟨G1.out.1, G1.out.2.1, G1.out.2.2.1, G1.out.2.2.2, fun j hj => FX.out (by (simp at hB) <;> omega) j hj⟩, G0.out, fun j hj => FIN.out (by (simp at hB) <;> omega) (by omega) j hj⟩), hb⟩
            · go_wp2
              go_ret
              exact ⟨bigPost3_any _ _ _ _ _ (fun hB => absurd hB (by simp)), hb⟩
      · go_wp2
        go_loopg [5, 7] cssl.length (fun gg s5 s7 wr2 => ∃ (kk : Nat) (x : Int), kk ≤ cssl.length ∧ cssl.length - kk ≤ gg ∧ s5 = .int .i64 x ∧ s7 = .int .i64 kk ∧ Aside (Below W0.heap.size W0 wr2) ∧ 0 ≤ x ∧ Aside (x ≤ 5000 → ∀ j, j < xs.length → xs[j]!.2.2.2.2.1.length ≤ 5000 ∧ xs[j]!.2.2.2.2.2.length ≤ 5000) ∧ Aside (x ≤ 5000 → ∀ j, j < kk → ys[j]!.2.2.2.2.1.length ≤ 5000 ∧ ys[j]!.2.2.2.2.2.length ≤ 5000))
        case atStart => exact ⟨0, x, by omega, by omega, rfl, rfl, B.out, hx0, FIN.out, fun _ j hj => absurd hj (Nat.not_lt_zero _)⟩
        clear FIN XC B hb hc7' hk hg
        case round =>
          obtain ⟨kk, x, hk, hg, rfl, rfl, B, hx0, FX, XC⟩ := hrel
          have hb := hb0.trans (B.out.mono hb0.size)
          by_cases hlt : kk < cssl.length ∧ x ≤ 5000
          · obtain ⟨hlt, hx5⟩ := hlt
            have hltz : (kk : Int) < (cssl.length : Int) := by omega
            obtain rfl := HLX.out.A (by omega)
            have hrg := ((HLX.out.below hb0).below B.out).row kk hlt
            obtain ⟨A1, c1, A2, c2, e1, e2⟩ := HCL.out.2 kk hlt
            generalize hn1 : ys[kk]!.2.2.2.2.1.length = n1 at e1
            generalize hn2 : ys[kk]!.2.2.2.2.2.length = n2 at e2
            have N12 : Aside0 (ys[kk]!.2.2.2.2.1.length = n1 ∧ ys[kk]!.2.2.2.2.2.length = n2) := ⟨hn1, hn2⟩
            clear hn1 hn2
            have XS : Aside0 (∀ x', x' ≤ 5000 → x' ≥ x + (if 5001 < (n1 : Int) then 5001 else (n1 : Int)) + (if 5001 < (n2 : Int) then 5001 else (n2 : Int)) → ∀ j, j < kk + 1 → ys[j]!.2.2.2.2.1.length ≤ 5000 ∧ ys[j]!.2.2.2.2.2.length ≤ 5000) := ⟨fun x' h1 h2 j hj => by
              have hm1 : (0 : Int) ≤ (if 5001 < (n1 : Int) then 5001 else (n1 : Int)) := by split <;> omega
              have hm2 : (0 : Int) ≤ (if 5001 < (n2 : Int) then 5001 else (n2 : Int)) := by split <;> omega
              by_cases e : j = kk
              · subst e
                rw [N12.out.1, N12.out.2]
                constructor
                · split at h2 <;> omega
                · split at h2 <;> split at h2 <;> omega
              · exact XC.out hx5 j (by omega)⟩
            have FS : Aside0 (∀ j, j < xs.length → xs[j]!.2.2.2.2.1.length ≤ 5000 ∧ xs[j]!.2.2.2.2.2.length ≤ 5000) := ⟨FX.out hx5⟩
            have k1 : wr.cell? ⟨bl, ol + kk * 43 + 41, none⟩ = some (.slice A1 n1 c1) := hrg 41 _ e1
            have k2 : wr.cell? ⟨bl, ol + kk * 43 + 42, none⟩ = some (.slice A2 n2 c2) := hrg 42 _ e2
            clear hrg e1 e2
            go_wp2
            go_region
            go_wp2
            all_goals go_roundg (cssl.length - (kk + 1))
            all_goals first | omega | exact ⟨kk + 1, _, by omega, by omega, rfl, by go_num, B.out.drew, by omega, fun _ => FS.out, fun h => XS.out _ h (by (repeat' split) <;> omega)⟩
          · have hout : ¬ ((kk : Int) < (cssl.length : Int)) ∨ ((kk : Int) < (cssl.length : Int) ∧ ¬ x ≤ 5000) := by
              by_cases g : kk < cssl.length
              · exact .inr ⟨by omega, fun h => hlt ⟨g, h⟩⟩
              · exact .inl (by omega)
            clear hlt
            have FIN : Aside0 (x ≤ 5000 → ¬ ((kk : Int) < (cssl.length : Int)) → ∀ j, j < ys.length → ys[j]!.2.2.2.2.1.length ≤ 5000 ∧ ys[j]!.2.2.2.2.2.length ≤ 5000) := ⟨fun hx g j hj => by
              have := HCL.out.1
              exact XC.out hx j (by omega)⟩
            rcases hout with g | ⟨g, g'⟩
            · go_wp2
              go_ret
              exact ⟨bigPost3_any _ _ _ _ _ (fun hB => ⟨⟨G1.out.1, G1.out.2.1, G1.out.2.2.1, G1.out.2.2.2, fun j hj => FX.out (by (simp at hB) <;> omega) j hj⟩, G0.out, fun j hj => FIN.out (by (simp at hB) <;> omega) (by omega) j hj⟩), hb⟩
            · go_wp2
              go_ret
              exact ⟨bigPost3_any _ _ _ _ _ (fun hB => absurd hB (by simp)), hb⟩
end Go.Proofs.Ytpjachbmllklgaa.Rng
end
