/- Several texts in one. -/
import Derived.Test.YtpjachbmllklgaaJdB
import Derived.Test.YtpjachbmllklgaaOwn
import Derived.Deep.DeepCutAuto
import Derived.Test.YtpjachbmllklgaaPOctx5
import Derived.Great.Walk
section
/- The reference's Records. -/
namespace Go.Proofs.Ytpjachbmllklgaa.Rng
open Go.RowKit Go.Proofs.YtpjachbmllklgaaW.PrintWords Go.Proofs.Ytpjachbmllklgaa.Kinds Go.Proofs.Ytpjachbmllklgaa.PCou
set_option linter.unusedVariables false
set_option linter.unusedSimpArgs false
attribute [local go_sem] Oper.semAt_some
attribute [local go_sem] fold_zip

def zR71 : Value := .agg zRec.toArray
set_option maxRecDepth 1000000 in
theorem info71 : (Try.prog.info? 71).map (fun i => (i.zero, i.size, i.bytes)) = some (some zR71, 149, 384) := by kernel_rfl
theorem zR71_size : zR71.cells.size = 149 := zRec_len
theorem recCells_len (k t v : Int) (ecs : List Value) (i si st : Int) (V L : Value) (d : ByteArray) (sg : List Value) (h : ecs.length = 43) (h2 : sg.length = 97) : (recCells k t v ecs i si st V L d sg).length = 149 := by simp [recCells, h, h2]
/-- A fresh row of one. -/
theorem R_single {α : Type} {dd : Kd α} {e : Nat} {W : World} {base g : Nat} {ok : Nat → Prop} {r : α} {cs : List Value} (hg : W.heap[g]? = some (.cells cs.toArray e (0, 0))) (hb : base ≤ g) (hok : ok g) (hl : cs.length = dd.sz) (hM : dd.M W base (fun k => ok k ∧ some k ≠ some g) r cs) : dd.R e W base ok (.slice (some ⟨g, 0, none⟩) 1 1) [r] := by
  refine ⟨fun k hk => ?_, cs, ⟨by simp [hl], .inr ⟨g, 1, cs.toArray, rfl, hb, hg, Nat.le_refl _, by decide, by simp [hl], by simp; exact List.take_of_length_le (by omega)⟩⟩, by simp [hl], fun j p hj => ?_⟩
  · have : g = k := by simpa [Value.ownBlock] using hk
    subst this
    exact hok
  · have hj0 : j = 0 := by have : j < 1 := (List.getElem?_eq_some_iff.1 hj).1; omega
    subst hj0
    have hp : r = p := by simpa using hj
    subst hp
    rw [Nat.zero_mul, List.drop_zero, List.take_of_length_le (by omega)]
    exact hM
/-- The councils of records are short. -/
def Short (l : List Rec) : Prop := ∀ r ∈ l, r.2.2.2.1.2.2.2.2.1.length ≤ 1000000000 ∧ r.2.2.2.1.2.2.2.2.2.length ≤ 1000000000 ∧ r.2.2.2.2.2.1.2.2.1.1.length ≤ 1000000000 ∧ r.2.2.2.2.2.1.2.2.1.2.length ≤ 1000000000
theorem Short.snoc {l : List Rec} {r : Rec} (h : Short l) (h1 : r.2.2.2.1.2.2.2.2.1.length ≤ 1000000000 ∧ r.2.2.2.1.2.2.2.2.2.length ≤ 1000000000 ∧ r.2.2.2.2.2.1.2.2.1.1.length ≤ 1000000000 ∧ r.2.2.2.2.2.1.2.2.1.2.length ≤ 1000000000) : Short (l ++ [r]) := fun x hx => by
  rw [List.mem_append, List.mem_singleton] at hx
  rcases hx with hx | rfl
  · exact h x hx
  · exact h1
def zEnt : Ent := entX 0 0
def zSnap : Snap := (0, 0, ([], []), ⟨#[]⟩)

set_option maxHeartbeats 1000000 in
set_option maxRecDepth 100000 in
theorem records_c (s : Sv) (x : Saved) (b off : Nat) (css : List (List Value)) (w : World) (hs : SK w s x) (h : LX w s.A b off css x.2.2.2.1) (hv : x.2.2.1.2.2.1.1.length ≤ 1000000) (hl : x.2.2.1.2.2.1.2.length ≤ 1000000)
    (hc : ∀ y ∈ x.2.2.2.1, y.2.2.2.2.1.length ≤ 1000000000 ∧ y.2.2.2.2.2.length ≤ 1000000000) (hgn : x.2.2.2.2.length ≤ 1000000) :
    Calls Try.prog 56 #[.agg s.cells] w fun e w' => ∃ (v : Value) (rl : List Rec), e = .returned v ∧ kRec.R 71 w' w.heap.size (fun _ => True) v rl ∧ Short rl ∧ rl.length ≤ 3000000 ∧ Below w.heap.size w w' := by
  have e55 : ∀ args w, (callFunc 55 args).run Try.prog w = .ok (.enter 55 args) w := enters_of Try.func55 (by kernel_rfl) rfl
  have e43 : ∀ args w, (callFunc 43 args).run Try.prog w = .ok (.enter 43 args) w := enters_of Try.func43 (by kernel_rfl) rfl
  have e44 : ∀ args w, (callFunc 44 args).run Try.prog w = .ok (.enter 44 args) w := enters_of Try.func44 (by kernel_rfl) rfl
  obtain ⟨x1, x2, ⟨x3, x4, ⟨vs, ls⟩, x5⟩, xs, gs⟩ := x
  obtain ⟨t, v, si, st, Va, Vn, Vc, La, Ln, Lc, d, A, n, cap, Ga, Gn, Gc⟩ := s
  obtain ⟨k1, k2, k3, k4, k5, k6, k7, k8, k9, k10, k11, k12, k13, k14, k15, k16, k17⟩ := hs
  dsimp only at *
  obtain rfl := k1
  obtain rfl := k2
  obtain rfl := k3
  obtain rfl := k4
  obtain rfl := k11
  unfold Sv.cells
  dsimp only
  obtain ⟨gb, go, HGX⟩ := gx_of_C k17
  have HG := Aside0.mk HGX
  have HL := Aside0.mk h
  have HC := Aside0.mk hc
  have H43 : Aside0 (∀ W, Below w.heap.size w W → Calls Try.prog 43 #[.agg #[.int .i64 si, .int .i64 st, .slice Va Vn Vc, .slice La Ln Lc, .string d]] W fun e w' => ∃ V L : Value, e = .returned (.agg #[.int .i64 si, .int .i64 st, V, L, .string d]) ∧ (Kd.int .i64).R 3 w' W.heap.size (fun _ => True) V vs ∧ (Kd.int .i64).R 3 w' W.heap.size (fun _ => True) L ls ∧ Below W.heap.size W w') :=
    ⟨fun W hW => by
      have := r08_OwnSnap.calls si st Va Vc vs La Lc ls d si st vs ls d W (Kd.C_below k7 hW) k6 (Kd.C_below k10 hW) k9 (by unfold r08_OwnSnap.f r08_OwnCouncil.f r08_numbers.f; rw [if_pos (by simp; omega), if_pos (by simp; omega)]; rfl)
      rw [← k5, ← k8] at this
      refine this.mono ?_
      rintro e w' ⟨V, L, rfl, hV, hL, hb⟩
      exact ⟨V, L, rfl, Kd.R_mono hV (fun _ _ => trivial), Kd.R_mono hL (fun _ _ => trivial), hb⟩⟩
  have C55 : Aside0 (∀ W, Below w.heap.size w W → Calls Try.prog 55 #[.agg #[.int .i64 si, .int .i64 st, .slice Va Vn Vc, .slice La Ln Lc, .string d]] W fun e w' => ∃ Q, e = .returned (.bool Q) ∧ Below W.heap.size W w') :=
    ⟨fun W hW => by
      have := bare_c si st Va Vc vs La Lc ls d W (Kd.C_below k7 hW) k6 (Kd.C_below k10 hW) k9 (by omega) (by omega)
      rw [← k5, ← k8] at this
      exact this⟩
  have KN := Aside0.mk k12
  have KG := Aside0.mk k15
  have HVL := Aside0.mk (And.intro hv hl)
  have hn6 : n ≤ 1000000 := by have := h.small; have := h.len; omega
  have hg6 : Gn ≤ 1000000 := by omega
  clear k5 k6 k7 k8 k9 k10 k12 k13 k14 k15 k16 k17 h hc hgn hv hl HGX
  have kb := blk_new w (.cells #[.int .i64 t, .int .i64 v, .int .i64 si, .int .i64 st, .slice Va Vn Vc, .slice La Ln Lc, .string d, .slice A n cap, .slice Ga Gn Gc] 30)
  have q0 : Below w.heap.size w (w.alloc (.cells #[.int .i64 t, .int .i64 v, .int .i64 si, .int .i64 st, .slice Va Vn Vc, .slice La Ln Lc, .string d, .slice A n cap, .slice Ga Gn Gc] 30)) := (Below.refl _ w).alloc (Nat.le_refl _) _
  have hrl := recCells_len 1 t v (ent 0 0) 0 0 0 (.slice none 0 0) (.slice none 0 0) ⟨#[]⟩ (sgnCells zSgn) rfl rfl
  obtain ⟨rc, hrc⟩ : ∃ rc, recCells 1 t v (ent 0 0) 0 0 0 (.slice none 0 0) (.slice none 0 0) ⟨#[]⟩ (sgnCells zSgn) = rc := ⟨_, rfl⟩
  have hbt := built_term t v
  rw [hrc] at hrl hbt
  have HRC := Aside0.mk hrc
  clear hrc
  go_enter Try.func56, Try.ntmps56
  go_upto_region 2 with (first | (refine wpList_build2 rfl 71 _ rfl [(0, .int .i64 1), (1, .int .i64 t), (2, .int .i64 v)] (by simp only [List.map_toArray, List.map_cons, List.map_nil, List.toList_toArray]; rfl) _ hbt ?_) | (refine wpList_buildOne rfl 61 71 (.tmp 10) rfl rc rfl Try.underlying61 zR71 149 384 info71 hrl (by decide) (by decide) ?_))
  have q1 : Below w.heap.size w ((w.alloc (.cells #[.int .i64 t, .int .i64 v, .int .i64 si, .int .i64 st, .slice Va Vn Vc, .slice La Ln Lc, .string d, .slice A n cap, .slice Ga Gn Gc] 30)).alloc (.cells rc.toArray 71)) := q0.alloc q0.size _
  have kb1 := blk_alloc kb (.cells rc.toArray 71)
  have r1 := blk_new (w.alloc (.cells #[.int .i64 t, .int .i64 v, .int .i64 si, .int .i64 st, .slice Va Vn Vc, .slice La Ln Lc, .string d, .slice A n cap, .slice Ga Gn Gc] 30)) (.cells rc.toArray 71)
  rw [World.size_alloc] at r1
  have hs1 : ((w.alloc (.cells #[.int .i64 t, .int .i64 v, .int .i64 si, .int .i64 st, .slice Va Vn Vc, .slice La Ln Lc, .string d, .slice A n cap, .slice Ga Gn Gc] 30)).alloc (.cells rc.toArray 71)).heap.size = w.heap.size + 2 := by simp
  generalize ((w.alloc (.cells #[.int .i64 t, .int .i64 v, .int .i64 si, .int .i64 st, .slice Va Vn Vc, .slice La Ln Lc, .string d, .slice A n cap, .slice Ga Gn Gc] 30)).alloc (.cells rc.toArray 71)) = W1 at q1 kb1 r1 hs1 ⊢
  have hRow : kRec.R 71 W1 w.heap.size (fun k => k ≠ w.heap.size) (.slice (some ⟨w.heap.size + 1, 0, none⟩) 1 1) [(1, t, v, zEnt, 0, zSnap, zSgn)] := by
    refine R_single r1 (by omega) (by omega) (hrl.trans rfl) ?_
    rw [← HRC.out]
    exact rec_M (ent_M W1 _ _ 0 0) (Kd.R_nil _ _ _ _ _) (Kd.R_nil _ _ _ _ _) (by decide) (by decide) (by decide)
  have HR1 := Aside0.mk hRow
  have HSh1 : Aside0 (Short [(1, t, v, zEnt, 0, zSnap, zSgn)]) := ⟨fun r hr => by
    rw [List.mem_singleton] at hr
    subst hr
    exact ⟨(show 0 ≤ 1000000000 by decide), (show 0 ≤ 1000000000 by decide), (show 0 ≤ 1000000000 by decide), (show 0 ≤ 1000000000 by decide)⟩⟩
  have K1 := Aside0.mk kb1
  have Q1 := Aside0.mk q1
  clear hRow kb r1 q0 hrl hbt HRC
  have C55a := Aside0.mk (C55.out W1 q1)
  have f2 : W1.rangeAt w.heap.size 2 [.int .i64 si, .int .i64 st, .slice Va Vn Vc, .slice La Ln Lc, .string d] := range_sub (cs := [.int .i64 t, .int .i64 v, .int .i64 si, .int .i64 st, .slice Va Vn Vc, .slice La Ln Lc, .string d, .slice A n cap, .slice Ga Gn Gc]) kb1 2 _ rfl
  have hi26 : (Try.prog.info? 26).map (·.size) = some [Value.int .i64 si, .int .i64 st, .slice Va Vn Vc, .slice La Ln Lc, .string d].length := size26
  go_wp2_with (refine wpList_load_mid rfl 26 (.tmp 12) rfl w.heap.size 2 rfl _ _ f2 Try.underlying26 rfl hi26 ?_)
  refine C55a.out.mono ?_
  rintro e w2 ⟨Q, rfl, hb2⟩
  have k2 := (hb2.block w.heap.size (by omega)).trans kb1
  have q2 : Below w.heap.size w w2 := q1.trans (hb2.mono q1.size)
  have HR2 := Aside0.mk (Kd.R_below HR1.out hb2)
  go_upto_if 15 with (fail)
  go_cut [3] (fun s3 wx => ∃ (vv : Value) (rl : List Rec), s3 = vv ∧ Aside (Below w.heap.size w wx) ∧ Aside (wx.heap[w.heap.size]? = some (.cells #[.int .i64 t, .int .i64 v, .int .i64 si, .int .i64 st, .slice Va Vn Vc, .slice La Ln Lc, .string d, .slice A n cap, .slice Ga Gn Gc] 30 (0, 0))) ∧ Aside (kRec.R 71 wx w.heap.size (fun k => k ≠ w.heap.size) vv rl) ∧ Aside (Short rl) ∧ Aside (rl.length ≤ 2))
  case first =>
    cases Q with
    | true =>
      clear hb2
      go_wp2_with fail
      go_meet
      exact ⟨_, _, rfl, q2, k2, HR2.out, HSh1.out, (show 1 ≤ 2 by decide)⟩
    | false =>
      have hs2 : w.heap.size + 2 ≤ w2.heap.size := by have := hb2.size; omega
      have H43a := Aside0.mk (H43.out w2 q2)
      clear hb2
      have g2 : w2.rangeAt w.heap.size 2 [.int .i64 si, .int .i64 st, .slice Va Vn Vc, .slice La Ln Lc, .string d] := range_sub (cs := [.int .i64 t, .int .i64 v, .int .i64 si, .int .i64 st, .slice Va Vn Vc, .slice La Ln Lc, .string d, .slice A n cap, .slice Ga Gn Gc]) k2 2 _ rfl
      go_wp2_with (refine wpList_load_mid rfl 26 (.tmp 17) rfl w.heap.size 2 rfl _ _ g2 Try.underlying26 rfl hi26 ?_)
      refine H43a.out.mono ?_
      rintro e w3 ⟨V, L, rfl, hV, hL, hb3⟩
      have q3 : Below w.heap.size w w3 := q2.trans (hb3.mono q2.size)
      have k3 := (hb3.block w.heap.size (by omega)).trans k2
      have HR3 := Aside0.mk (Kd.R_below HR2.out hb3)
      have hV2 : (Kd.int .i64).R 3 w3 w.heap.size (fun k => w2.heap.size ≤ k) V vs := Kd.R_mono (Kd.R_lower (Kd.R_bound hV) (by omega)) (fun k hk => hk.2.1)
      have hL2 : (Kd.int .i64).R 3 w3 w.heap.size (fun k => w2.heap.size ≤ k) L ls := Kd.R_mono (Kd.R_lower (Kd.R_bound hL) (by omega)) (fun k hk => hk.2.1)
      have HM := Aside0.mk (rec_M (k := 4) (t := 0) (v := 0) (i := 0) (si := si) (st := st) (d := d) (g := zSgn) (ent_M w3 w.heap.size (fun k => w2.heap.size ≤ k) 0 0) hV2 hL2 (by decide) (by decide) (by decide))
      have hb4 := built_snap si st V L d
      have hrl2 := recCells_len 4 0 0 (ent 0 0) 0 si st V L d (sgnCells zSgn) rfl rfl
      obtain ⟨rc2, hrc2⟩ : ∃ rc, recCells 4 0 0 (ent 0 0) 0 si st V L d (sgnCells zSgn) = rc := ⟨_, rfl⟩
      rw [hrc2] at HM hb4 hrl2
      have h3s := hb3.size
      have q3s := q3.size
      clear hV hL hb3 hV2 hL2 hrc2 f2 g2 k2
      go_wp2_with (first | (refine wpList_build2 rfl 71 _ rfl [(0, .int .i64 4), (5, .agg #[.int .i64 si, .int .i64 st, V, L, .string d])] (by simp only [List.map_toArray, List.map_cons, List.map_nil, List.toList_toArray]; rfl) _ hb4 ?_) | (refine wpList_buildOne rfl 61 71 (.tmp 20) rfl rc2 rfl Try.underlying61 zR71 149 384 info71 hrl2 (by decide) (by decide) ?_) | (at_builtin; refine Kd.R_append kRec (w0 := w) w.heap.size rfl (.tmp 16) (.tmp 21) 61 71 zR71 384 rfl Try.underlying61 info71 zR71_size (by decide) (by decide) (.slice (some ⟨w.heap.size + 1, 0, none⟩) 1 1) [(1, t, v, zEnt, 0, zSnap, zSgn)] (4, 0, 0, entX 0 0, 0, (si, st, (vs, ls), d), zSgn) rc2 (fun k => k ≠ w.heap.size) (fun k => w2.heap.size ≤ k) rfl rfl HM.out ?okp (fun k hk => by omega) HR3.out q3 q3s ?aL ?_))
      case okp => exact fun k hk => ⟨by omega, fun e => by
        have e' : k = w.heap.size + 1 := by injection e
        omega⟩
      case aL => show (1 + 1) * 384 ≤ 140737488355328; decide
      intro v1 w5 ho hb hg hat
      have k5 := (hg.block w.heap.size (by omega) (fun e => by
        have e' : w.heap.size = w.heap.size + 1 := by injection e
        omega)).trans k3
      have HO := Aside0.mk ho
      have HQ := Aside0.mk (show Below w.heap.size w w5 from hb)
      have K5 := Aside0.mk k5
      clear ho hb hg hat k5 k3 q3
      go_wp2_with fail
      go_meet
      exact ⟨_, _, rfl, HQ.out, K5.out, HO.out, HSh1.out.snoc ⟨(show 0 ≤ 1000000000 by decide), (show 0 ≤ 1000000000 by decide), (show vs.length ≤ 1000000000 by have := HVL.out; omega), (show ls.length ≤ 1000000000 by have := HVL.out; omega)⟩, (show 2 ≤ 2 by decide)⟩
  case rest =>
    obtain ⟨vv, rl, rfl, B, K, R, S, L⟩ := hcut
    clear HR2 k2 q2 hb2 HR1 HSh1 H43 C55 C55a K1 Q1 q1 hs1 f2 hi26
    go_wp2_with fail
    go_loopg [3, 4] n (fun gg s3 s4 wr => ∃ kk : Nat, kk ≤ n ∧ n - kk ≤ gg ∧ s4 = .int .i64 kk ∧ Aside (Below w.heap.size w wr) ∧ Aside (wr.heap[w.heap.size]? = some (.cells #[.int .i64 t, .int .i64 v, .int .i64 si, .int .i64 st, .slice Va Vn Vc, .slice La Ln Lc, .string d, .slice A n cap, .slice Ga Gn Gc] 30 (0, 0))) ∧ ∃ (vv : Value) (l : List Rec), s3 = vv ∧ Aside (kRec.R 71 wr w.heap.size (fun k => k ≠ w.heap.size) vv l) ∧ Aside (Short l) ∧ Aside (l.length ≤ 2 + kk))
    case atStart => exact ⟨0, by omega, by omega, rfl, B, K, _, rl, rfl, R, S, L⟩
    clear B K R S L
    case round =>
      obtain ⟨kk, hk, hgg, rfl, B, K, _, l, rfl, R, S, L⟩ := hrel
      have c7 : wr.cell? ⟨w.heap.size, 7, none⟩ = some (.slice A n cap) := by simp [World.cell?, K.out]
      have c8 : wr.cell? ⟨w.heap.size, 8, none⟩ = some (.slice Ga Gn Gc) := by simp [World.cell?, K.out]
      have hlw : w.heap.size < wr.heap.size := (Array.getElem?_eq_some_iff.1 K.out).1
      have hL2 := L.out
      by_cases hlt : kk < n
      · have hltz : (kk : Int) < (n : Int) := by omega
        have hLr := HL.out.below B.out
        have hk1 : kk < css.length := by rw [hLr.len, ← KN.out]; exact hlt
        obtain rfl := hLr.A (by omega)
        have hrg := hLr.row kk hk1
        obtain ⟨hE, hit, _⟩ := hLr.isE kk hk1
        have hKk := hLr.K kk hk1
        have hmem := hLr.mem kk hk1
        have hcou := hLr.cou _ hmem
        have hcc := HC.out _ hmem
        have HB := Aside0.mk (ownEntry_c xs[kk]! css[kk]! wr hKk hcou.1 hcou.2)
        have HCC := Aside0.mk hcc
        generalize xs[kk]! = xk at *
        generalize css[kk]! = cs at *
        have hi59 : (Try.prog.info? 59).map (·.size) = some cs.length := by rw [hE.len]; exact size59
        have hvb : ∀ k, u3.ownBlock = some k → k < wr.heap.size := fun k hk => by
          obtain ⟨inner, ho⟩ := Kd.R_own R.out
          exact own_lt ho k hk
        have HVB := Aside0.mk hvb
        clear hLr hE hit hKk hmem hcou hcc hvb c8
        go_wp2_with (refine wpList_load_mid rfl 59 (.tmp 34) rfl b (off + kk * 43) rfl cs _ hrg Try.underlying59 rfl hi59 ?_)
        refine HB.out.mono ?_
        rintro e w4 ⟨cs', rfl, hM, hb4⟩
        have hsz := B.out.size
        have B4 : Below w.heap.size w w4 := B.out.trans (hb4.mono hsz)
        have K4 := Aside0.mk ((hb4.block w.heap.size hlw).trans K.out)
        have HR : Aside0 (kRec.R 71 w4 w.heap.size (fun k => k ≠ w.heap.size) u3 l) := ⟨Kd.R_below R.out hb4⟩
        have hcl : cs'.length = 43 := kEnt.K_len (kEnt.K_of_M hM)
        have HM0 : kEnt.M w4 w.heap.size (fun k => wr.heap.size ≤ k) xk cs' := kEnt.M_lower (by omega) (kEnt.M_mono (ok' := fun k => wr.heap.size ≤ k) (fun k hk => by have := hk.2.1; omega) (kEnt.M_bound hM))
        have HM := Aside0.mk (rec_M (k := 2) (t := 0) (v := 0) (i := 0) (si := 0) (st := 0) (V := .slice none 0 0) (L := .slice none 0 0) (d := ⟨#[]⟩) (g := zSgn) HM0 (Kd.R_nil _ _ _ _ _) (Kd.R_nil _ _ _ _ _) (by decide) (by decide) (by decide))
        have hb2 := built_ent cs' hcl
        have hrl := recCells_len 2 0 0 cs' 0 0 0 (.slice none 0 0) (.slice none 0 0) ⟨#[]⟩ (sgnCells zSgn) hcl rfl
        obtain ⟨rc2, hrc2⟩ : ∃ rc, recCells 2 0 0 cs' 0 0 0 (.slice none 0 0) (.slice none 0 0) ⟨#[]⟩ (sgnCells zSgn) = rc := ⟨_, rfl⟩
        rw [hrc2] at HM hb2 hrl
        have hsz4 := hb4.size
        clear hM HM0 hb4 R c7 hrg hrc2 HB
        go_wp2_with (first | (refine wpList_build2 rfl 71 _ rfl [(0, .int .i64 2), (3, .agg cs'.toArray)] (by simp only [List.map_toArray, List.map_cons, List.map_nil, List.toList_toArray]; rfl) _ hb2 ?_) | (refine wpList_buildOne rfl 61 71 (.tmp 37) rfl rc2 rfl Try.underlying61 zR71 149 384 info71 hrl (by decide) (by decide) ?_) | (at_builtin; refine Kd.R_append kRec (w0 := w) w.heap.size rfl (.tmp 30) (.tmp 38) 61 71 zR71 384 rfl Try.underlying61 info71 zR71_size (by decide) (by decide) u3 l (2, 0, 0, xk, 0, zSnap, zSgn) rc2 (fun k => k ≠ w.heap.size) (fun k => wr.heap.size ≤ k) rfl rfl HM.out ?okp (fun k hk => by omega) HR.out B4 B4.size ?aL ?_))
        case okp => exact fun k hk => ⟨by omega, fun e => by have := HVB.out k e.symm; omega⟩
        case aL => have := L.out; omega
        intro v1 w1 ho hb hg hat
        have hb' : Below w.heap.size w w1 := hb
        have hk1 : w1.heap[w.heap.size]? = w4.heap[w.heap.size]? := hg.block _ (by omega) (fun e => HR.out.1 _ e.symm rfl)
        have K1 := Aside0.mk (hk1.trans K4.out)
        have HO := Aside0.mk ho
        clear ho hg hat hb hk1
        go_wp2_with fail
        go_roundg (n - (kk + 1))
        case measure => omega
        case rel => exact ⟨kk + 1, by omega, by omega, by go_num, hb', K1.out, _, _, rfl, HO.out, S.out.snoc ⟨HCC.out.1, HCC.out.2, (show 0 ≤ 1000000000 by decide), (show 0 ≤ 1000000000 by decide)⟩, (show List.length _ ≤ _ by rw [List.length_append, List.length_singleton]; have := L.out; omega)⟩
      · have hltz : ¬ (kk : Int) < (n : Int) := by omega
        have hkn : kk = n := by omega
        have LN := Aside0.mk (show l.length ≤ 1000002 by have := L.out; omega)
        clear hL2
        go_wp2_with fail
        go_loopg [3, 5] Gn (fun gg s3 s5 wr => ∃ kk : Nat, kk ≤ Gn ∧ Gn - kk ≤ gg ∧ s5 = .int .i64 kk ∧ Aside (Below w.heap.size w wr) ∧ Aside (wr.heap[w.heap.size]? = some (.cells #[.int .i64 t, .int .i64 v, .int .i64 si, .int .i64 st, .slice Va Vn Vc, .slice La Ln Lc, .string d, .slice A n cap, .slice Ga Gn Gc] 30 (0, 0))) ∧ ∃ (vv : Value) (l : List Rec), s3 = vv ∧ Aside (kRec.R 71 wr w.heap.size (fun k => k ≠ w.heap.size) vv l) ∧ Aside (Short l) ∧ Aside (l.length ≤ 1000002 + kk))
        case atStart => exact ⟨0, by omega, by omega, rfl, B.out, K.out, _, l, rfl, R.out, S.out, LN.out⟩
        clear B K R S L LN hlw c8 c7
        case round =>
          obtain ⟨kk, hk, hgg, rfl, B, K, _, l, rfl, R, S, L⟩ := hrel
          have c8 : wr.cell? ⟨w.heap.size, 8, none⟩ = some (.slice Ga Gn Gc) := by simp [World.cell?, K.out]
          have hlw : w.heap.size < wr.heap.size := (Array.getElem?_eq_some_iff.1 K.out).1
          by_cases hlt : kk < Gn
          · have hltz : (kk : Int) < (Gn : Int) := by omega
            have hG := HG.out wr B.out
            have hk1 : kk < gs.length := by rw [← KG.out]; exact hlt
            obtain rfl := hG.A (by omega)
            have hrg := hG.row kk hk1
            obtain ⟨l1, l2, l3⟩ := hG.len kk hk1
            generalize gs[kk]! = gk at *
            have hgl := sgnCells_length gk l1 l2 l3
            have hi69 : (Try.prog.info? 69).map (·.size) = some (sgnCells gk).length := by rw [hgl]; exact size69
            have hvb : ∀ k, u3.ownBlock = some k → k < wr.heap.size := fun k hk => by
              obtain ⟨inner, ho⟩ := Kd.R_own R.out
              exact own_lt ho k hk
            have HVB := Aside0.mk hvb
            have HM := Aside0.mk (rec_M (k := 5) (t := 0) (v := 0) (i := 0) (si := 0) (st := 0) (V := .slice none 0 0) (L := .slice none 0 0) (d := ⟨#[]⟩) (g := gk) (ent_M wr w.heap.size (fun k => wr.heap.size ≤ k) 0 0) (Kd.R_nil _ _ _ _ _) (Kd.R_nil _ _ _ _ _) l1 l2 l3)
            have hb2 := built_sgn (sgnCells gk) hgl
            have hrl := recCells_len 5 0 0 (ent 0 0) 0 0 0 (.slice none 0 0) (.slice none 0 0) ⟨#[]⟩ (sgnCells gk) rfl hgl
            obtain ⟨sc, hsc⟩ : ∃ sc, sgnCells gk = sc := ⟨_, rfl⟩
            rw [hsc] at HM hb2 hrl hrg hi69
            obtain ⟨rc2, hrc2⟩ : ∃ rc, recCells 5 0 0 (ent 0 0) 0 0 0 (.slice none 0 0) (.slice none 0 0) ⟨#[]⟩ sc = rc := ⟨_, rfl⟩
            rw [hrc2] at HM hb2 hrl
            have B4 := B.out
            clear hG hvb hgl hsc hrc2 l1 l2 l3
            go_wp2_with (first | (refine wpList_load_mid rfl 69 (.tmp 51) rfl gb (go + kk * 97) rfl sc _ hrg Try.underlying69 rfl hi69 ?_) | (refine wpList_build2 rfl 71 _ rfl [(0, .int .i64 5), (6, .agg sc.toArray)] (by simp only [List.map_toArray, List.map_cons, List.map_nil, List.toList_toArray]; rfl) _ hb2 ?_) | (refine wpList_buildOne rfl 61 71 (.tmp 53) rfl rc2 rfl Try.underlying61 zR71 149 384 info71 hrl (by decide) (by decide) ?_) | (at_builtin; refine Kd.R_append kRec (w0 := w) w.heap.size rfl (.tmp 47) (.tmp 54) 61 71 zR71 384 rfl Try.underlying61 info71 zR71_size (by decide) (by decide) u3 l (5, 0, 0, entX 0 0, 0, zSnap, gk) rc2 (fun k => k ≠ w.heap.size) (fun k => wr.heap.size ≤ k) rfl rfl HM.out ?okp (fun k hk => by omega) R.out B4 B4.size ?aL ?_))
            case okp => exact fun k hk => ⟨by omega, fun e => by have := HVB.out k e.symm; omega⟩
            case aL => have := L.out; omega
            intro v1 w1 ho hb hg hat
            have hb' : Below w.heap.size w w1 := hb
            have hk1 : w1.heap[w.heap.size]? = wr.heap[w.heap.size]? := hg.block _ (by omega) (fun e => R.out.1 _ e.symm rfl)
            have K1 := Aside0.mk (hk1.trans K.out)
            have HO := Aside0.mk ho
            clear ho hg hat hb hk1
            go_wp2_with fail
            go_roundg (Gn - (kk + 1))
            case measure => omega
            case rel => exact ⟨kk + 1, by omega, by omega, by go_num, hb', K1.out, _, _, rfl, HO.out, S.out.snoc ⟨(show 0 ≤ 1000000000 by decide), (show 0 ≤ 1000000000 by decide), (show 0 ≤ 1000000000 by decide), (show 0 ≤ 1000000000 by decide)⟩, (show List.length _ ≤ _ by rw [List.length_append, List.length_singleton]; have := L.out; omega)⟩
          · have hltz : ¬ (kk : Int) < (Gn : Int) := by omega
            go_wp2_with fail
            go_ret
            exact ⟨_, rfl, l, Kd.R_mono R.out (fun _ _ => trivial), S.out, (show l.length ≤ 3000000 by have := L.out; omega), B.out⟩
end Go.Proofs.Ytpjachbmllklgaa.Rng
end
section
/- The reference's Right: some truth. -/
namespace Go.Proofs.Ytpjachbmllklgaa.Rng
open Go.RowKit Go.Proofs.YtpjachbmllklgaaW.PrintWords Go.Proofs.Ytpjachbmllklgaa.Kinds Go.Proofs.Ytpjachbmllklgaa.PCou Go.Proofs.Ytpjachbmllklgaa.POct
set_option linter.unusedVariables false
set_option linter.unusedSimpArgs false
attribute [local go_sem] Oper.semAt_some
attribute [local go_sem] fold_zip

theorem far_c (a : Int) (w : World) : Calls Try.prog 54 #[.int .i64 a] w fun e w' => e = .returned (.bool (decide (a > 900000000))) ∧ Below w.heap.size w w' :=
  (r13_far.calls a (decide (a > 900000000)) w rfl).mono (by
    rintro e w' ⟨rfl, hd⟩
    exact ⟨rfl, hd.below⟩)
/-- Records in a row, as they lie. -/
theorem recs_of_R {w : World} {base : Nat} {ok : Nat → Prop} {v : Value} {rl : List Rec} (h : kRec.R 71 w base ok v rl) : ∃ (A : Option Addr) (c b off : Nat), v = .slice A rl.length c ∧ rl.length ≤ c ∧ (0 < rl.length → A = some ⟨b, off, none⟩) ∧ ∀ W, Below w.heap.size w W → ∀ j, j < rl.length → ∃ cs, kRec.K W rl[j]! cs ∧ W.rangeAt b (off + j * 149) cs := by
  obtain ⟨A, c, hv, hcap, hC⟩ := Kd.R_reads h
  by_cases h0 : 0 < rl.length
  · obtain ⟨ad, rfl, hcell⟩ := hC.2.2 h0
    obtain ⟨b, off, spot⟩ := ad
    have hspot : spot = none := by
      obtain ⟨c0, _, hK0, hd3⟩ := hcell 0 rl[0]! (by rw [getElem!_pos rl 0 h0]; exact List.getElem?_eq_getElem h0)
      obtain ⟨ecs, Va, vc, La, lc, hrs, _⟩ := rec_K2 hK0
      have hd4 := hd3 0 (.int .i64 rl[0]!.1) (by rw [hrs]; rfl)
      simpa [Addr.add] using World.cell?_spot hd4
    subst hspot
    refine ⟨_, c, b, off, hv, hcap, fun _ => rfl, fun W hW j hj => ?_⟩
    obtain ⟨ad2, e2, hcell2⟩ := (Kd.C_below hC hW).2.2 h0
    obtain rfl : (⟨b, off, none⟩ : Addr) = ad2 := by injection e2
    obtain ⟨cs, _, hK, hc⟩ := hcell2 j rl[j]! (by rw [getElem!_pos rl j hj]; exact List.getElem?_eq_getElem hj)
    refine ⟨cs, hK, fun i u hi => ?_⟩
    have := hc i u hi
    rw [Addr.add_mid] at this
    rw [show off + j * 149 + i = off + (j * 149 + i) by omega]
    exact this
  · exact ⟨A, c, 0, 0, hv, hcap, fun g => absurd g h0, fun W hW j hj => absurd hj (by omega)⟩
set_option maxHeartbeats 1000000 in
set_option maxRecDepth 100000 in
theorem right_c (s : Sv) (x : Saved) (b off : Nat) (css : List (List Value)) (w : World) (hs : SK w s x) (h : LX w s.A b off css x.2.2.2.1) (hv : x.2.2.1.2.2.1.1.length ≤ 1000000) (hl : x.2.2.1.2.2.1.2.length ≤ 1000000)
    (hc : ∀ y ∈ x.2.2.2.1, y.2.2.2.2.1.length ≤ 1000000000 ∧ y.2.2.2.2.2.length ≤ 1000000000) (hgn : x.2.2.2.2.length ≤ 1000000) (hn9 : s.n ≤ 9000) :
    Calls Try.prog 32 #[.agg s.cells] w fun e w' => ∃ B, e = .returned (.bool B) ∧ Below w.heap.size w w' := by
  have e54 : ∀ args w, (callFunc 54 args).run Try.prog w = .ok (.enter 54 args) w := enters_of Try.func54 (by kernel_rfl) rfl
  have e55 : ∀ args w, (callFunc 55 args).run Try.prog w = .ok (.enter 55 args) w := enters_of Try.func55 (by kernel_rfl) rfl
  have e56 : ∀ args w, (callFunc 56 args).run Try.prog w = .ok (.enter 56 args) w := enters_of Try.func56 (by kernel_rfl) rfl
  have e57 : ∀ args w, (callFunc 57 args).run Try.prog w = .ok (.enter 57 args) w := enters_of Try.func57 (by kernel_rfl) rfl
  have C56 : Aside0 (∀ W, Below w.heap.size w W → Calls Try.prog 56 #[.agg s.cells] W fun e w' => ∃ (v : Value) (rl : List Rec), e = .returned v ∧ kRec.R 71 w' W.heap.size (fun _ => True) v rl ∧ Short rl ∧ rl.length ≤ 3000000 ∧ Below W.heap.size W w') :=
    ⟨fun W hW => records_c s x b off css W (hs.below hW) (h.below hW) hv hl hc hgn⟩
  obtain ⟨x1, x2, ⟨x3, x4, ⟨vs, ls⟩, x5⟩, xs, gs⟩ := x
  obtain ⟨t, v, si, st, Va, Vn, Vc, La, Ln, Lc, d, A, n, cap, Ga, Gn, Gc⟩ := s
  obtain ⟨k1, k2, k3, k4, k5, k6, k7, k8, k9, k10, k11, k12, k13, k14, k15, k16, k17⟩ := hs
  dsimp only at *
  obtain rfl := k1
  obtain rfl := k2
  obtain rfl := k3
  obtain rfl := k4
  obtain rfl := k11
  unfold Sv.cells at *
  dsimp only at *
  obtain ⟨gb, go, HGX⟩ := gx_of_C k17
  have HG := Aside0.mk HGX
  have HL := Aside0.mk h
  have C55 : Aside0 (∀ W, Below w.heap.size w W → Calls Try.prog 55 #[.agg #[.int .i64 si, .int .i64 st, .slice Va Vn Vc, .slice La Ln Lc, .string d]] W fun e w' => ∃ Q, e = .returned (.bool Q) ∧ Below W.heap.size W w') :=
    ⟨fun W hW => by
      have := bare_c si st Va Vc vs La Lc ls d W (Kd.C_below k7 hW) k6 (Kd.C_below k10 hW) k9 (by omega) (by omega)
      rw [← k5, ← k8] at this
      exact this⟩
  have KN := Aside0.mk k12
  have KG := Aside0.mk k15
  have hg6 : Gn ≤ 1000000 := by omega
  have q0 : Below w.heap.size w (w.alloc (.cells #[.int .i64 t, .int .i64 v, .int .i64 si, .int .i64 st, .slice Va Vn Vc, .slice La Ln Lc, .string d, .slice A n cap, .slice Ga Gn Gc] 30)) := (Below.refl _ w).alloc (Nat.le_refl _) _
  have kb := blk_new w (.cells #[.int .i64 t, .int .i64 v, .int .i64 si, .int .i64 st, .slice Va Vn Vc, .slice La Ln Lc, .string d, .slice A n cap, .slice Ga Gn Gc] 30)
  have hs0 : (w.alloc (.cells #[.int .i64 t, .int .i64 v, .int .i64 si, .int .i64 st, .slice Va Vn Vc, .slice La Ln Lc, .string d, .slice A n cap, .slice Ga Gn Gc] 30)).heap.size = w.heap.size + 1 := by simp
  have hi30 : (Try.prog.info? 30).map (·.size) = some (#[.int .i64 t, .int .i64 v, .int .i64 si, .int .i64 st, .slice Va Vn Vc, .slice La Ln Lc, .string d, .slice A n cap, .slice Ga Gn Gc] : Array Value).size := size30
  clear k5 k6 k7 k8 k9 k10 k12 k13 k14 k15 k16 k17 h hc hgn hv hl HGX
  go_enter Try.func32, Try.ntmps32
  go_upto_region 1 with (fail)
  generalize (w.alloc (.cells #[.int .i64 t, .int .i64 v, .int .i64 si, .int .i64 st, .slice Va Vn Vc, .slice La Ln Lc, .string d, .slice A n cap, .slice Ga Gn Gc] 30)) = W0 at q0 kb hs0 ⊢
  have hsz0 : w.heap.size < W0.heap.size := by omega
  have c0 : W0.cell? ⟨w.heap.size, 0, none⟩ = some (.int .i64 t) := by simp [World.cell?, kb]
  have hn9' : ¬ (n : Int) > 9000 := by omega
  go_cut [46] (fun s46 wx => (∃ B46, s46 = .bool B46) ∧ Aside (Below w.heap.size w wx) ∧ Aside (wx.heap[w.heap.size]? = some (.cells #[.int .i64 t, .int .i64 v, .int .i64 si, .int .i64 st, .slice Va Vn Vc, .slice La Ln Lc, .string d, .slice A n cap, .slice Ga Gn Gc] 30 (0, 0))))
  case first =>
    have q_W0 := q0
    have k_W0 := kb
    have s_W0 := hsz0
    have a7 : W0.cell? ⟨w.heap.size, 7, none⟩ = some (.slice A n cap) := by simp [World.cell?, kb]
    have a8 : W0.cell? ⟨w.heap.size, 8, none⟩ = some (.slice Ga Gn Gc) := by simp [World.cell?, kb]
    clear q0 kb hs0 hsz0 c0
    have a0_W0 : W0.cell? ⟨w.heap.size, 0, none⟩ = some (.int .i64 t) := by simp [World.cell?, k_W0]
    have a1_W0 : W0.cell? ⟨w.heap.size, 1, none⟩ = some (.int .i64 v) := by simp [World.cell?, k_W0]
    have a2_W0 : W0.cell? ⟨w.heap.size, 2, none⟩ = some (.int .i64 si) := by simp [World.cell?, k_W0]
    by_cases g0 : (Gn : Int) > 200
    · go_wp2_with fail
      go_meet
      exact ⟨⟨_, rfl⟩, q_W0, k_W0⟩
    by_cases g1 : t > 900000000
    · have d1 : decide (t > 900000000) = true := decide_eq_true g1
      go_wp2_with fail
      refine (far_c t W0).mono ?_
      rintro e wa ⟨rfl, hb_wa⟩
      rw [d1]
      have q_wa : Below w.heap.size w wa := q_W0.trans (hb_wa.mono q_W0.size)
      have k_wa := (hb_wa.block w.heap.size (by have := q_W0.size; have := s_W0; omega)).trans k_W0
      have s_wa : w.heap.size < wa.heap.size := by have := hb_wa.size; omega
      go_wp2_with fail
      go_meet
      exact ⟨⟨_, rfl⟩, q_wa, k_wa⟩
    have d1 : decide (t > 900000000) = false := decide_eq_false g1
    go_wp2_with fail
    refine (far_c t W0).mono ?_
    rintro e wa ⟨rfl, hb_wa⟩
    rw [d1]
    have q_wa : Below w.heap.size w wa := q_W0.trans (hb_wa.mono q_W0.size)
    have k_wa := (hb_wa.block w.heap.size (by have := q_W0.size; have := s_W0; omega)).trans k_W0
    have s_wa : w.heap.size < wa.heap.size := by have := hb_wa.size; omega
    have a0_wa : wa.cell? ⟨w.heap.size, 0, none⟩ = some (.int .i64 t) := by simp [World.cell?, k_wa]
    have a1_wa : wa.cell? ⟨w.heap.size, 1, none⟩ = some (.int .i64 v) := by simp [World.cell?, k_wa]
    have a2_wa : wa.cell? ⟨w.heap.size, 2, none⟩ = some (.int .i64 si) := by simp [World.cell?, k_wa]
    clear a0_W0 a1_W0 a2_W0 a7 a8
    by_cases g2 : v > 900000000
    · have d2 : decide (v > 900000000) = true := decide_eq_true g2
      go_wp2_with fail
      refine (far_c v wa).mono ?_
      rintro e wb ⟨rfl, hb_wb⟩
      rw [d2]
      have q_wb : Below w.heap.size w wb := q_wa.trans (hb_wb.mono q_wa.size)
      have k_wb := (hb_wb.block w.heap.size (by have := q_wa.size; have := s_wa; omega)).trans k_wa
      have s_wb : w.heap.size < wb.heap.size := by have := hb_wb.size; omega
      go_wp2_with fail
      go_meet
      exact ⟨⟨_, rfl⟩, q_wb, k_wb⟩
    have d2 : decide (v > 900000000) = false := decide_eq_false g2
    go_wp2_with fail
    refine (far_c v wa).mono ?_
    rintro e wb ⟨rfl, hb_wb⟩
    rw [d2]
    have q_wb : Below w.heap.size w wb := q_wa.trans (hb_wb.mono q_wa.size)
    have k_wb := (hb_wb.block w.heap.size (by have := q_wa.size; have := s_wa; omega)).trans k_wa
    have s_wb : w.heap.size < wb.heap.size := by have := hb_wb.size; omega
    have a0_wb : wb.cell? ⟨w.heap.size, 0, none⟩ = some (.int .i64 t) := by simp [World.cell?, k_wb]
    have a1_wb : wb.cell? ⟨w.heap.size, 1, none⟩ = some (.int .i64 v) := by simp [World.cell?, k_wb]
    have a2_wb : wb.cell? ⟨w.heap.size, 2, none⟩ = some (.int .i64 si) := by simp [World.cell?, k_wb]
    clear a0_wa a1_wa a2_wa
    by_cases g3 : si > 900000000
    · have d3 : decide (si > 900000000) = true := decide_eq_true g3
      go_wp2_with fail
      refine (far_c si wb).mono ?_
      rintro e wd ⟨rfl, hb_wd⟩
      rw [d3]
      have q_wd : Below w.heap.size w wd := q_wb.trans (hb_wd.mono q_wb.size)
      have k_wd := (hb_wd.block w.heap.size (by have := q_wb.size; have := s_wb; omega)).trans k_wb
      have s_wd : w.heap.size < wd.heap.size := by have := hb_wd.size; omega
      go_wp2_with fail
      go_meet
      exact ⟨⟨_, rfl⟩, q_wd, k_wd⟩
    have d3 : decide (si > 900000000) = false := decide_eq_false g3
    go_wp2_with fail
    refine (far_c si wb).mono ?_
    rintro e wd ⟨rfl, hb_wd⟩
    rw [d3]
    have q_wd : Below w.heap.size w wd := q_wb.trans (hb_wd.mono q_wb.size)
    have k_wd := (hb_wd.block w.heap.size (by have := q_wb.size; have := s_wb; omega)).trans k_wb
    have s_wd : w.heap.size < wd.heap.size := by have := hb_wd.size; omega
    have a0_wd : wd.cell? ⟨w.heap.size, 0, none⟩ = some (.int .i64 t) := by simp [World.cell?, k_wd]
    have a1_wd : wd.cell? ⟨w.heap.size, 1, none⟩ = some (.int .i64 v) := by simp [World.cell?, k_wd]
    have a2_wd : wd.cell? ⟨w.heap.size, 2, none⟩ = some (.int .i64 si) := by simp [World.cell?, k_wd]
    clear a0_wb a1_wb a2_wb
    by_cases g4 : si < 1
    · have f2 : wd.rangeAt w.heap.size 2 [.int .i64 si, .int .i64 st, .slice Va Vn Vc, .slice La Ln Lc, .string d] := range_sub (cs := [.int .i64 t, .int .i64 v, .int .i64 si, .int .i64 st, .slice Va Vn Vc, .slice La Ln Lc, .string d, .slice A n cap, .slice Ga Gn Gc]) k_wd 2 _ rfl
      have hi26 : (Try.prog.info? 26).map (·.size) = some [Value.int .i64 si, .int .i64 st, .slice Va Vn Vc, .slice La Ln Lc, .string d].length := size26
      go_wp2_with (refine wpList_load_mid_if rfl 26 (.tmp 41) rfl w.heap.size 2 rfl _ _ f2 Try.underlying26 rfl hi26 ?_)
      refine (C55.out wd q_wd).mono ?_
      rintro e we ⟨Q, rfl, hb_we⟩
      have q_we : Below w.heap.size w we := q_wd.trans (hb_we.mono q_wd.size)
      have k_we := (hb_we.block w.heap.size s_wd).trans k_wd
      go_wp2_with fail
      go_meet
      exact ⟨⟨_, rfl⟩, q_we, k_we⟩
    · go_wp2_with fail
      go_meet
      exact ⟨⟨_, rfl⟩, q_wd, k_wd⟩
  case rest =>
    obtain ⟨⟨B46, rfl⟩, B, K⟩ := hcut
    clear q0 kb hs0 hsz0 c0 hn9'
    cases B46 with
    | true =>
      go_wp2_with fail
      go_ret
      exact ⟨_, rfl, B.out⟩
    | false =>
      go_wp2_with fail
      go_loopg [3] n (fun gg s3 wr => ∃ kk : Nat, kk ≤ n ∧ n - kk ≤ gg ∧ s3 = .int .i64 kk ∧ Aside (Below w.heap.size w wr) ∧ Aside (wr.heap[w.heap.size]? = some (.cells #[.int .i64 t, .int .i64 v, .int .i64 si, .int .i64 st, .slice Va Vn Vc, .slice La Ln Lc, .string d, .slice A n cap, .slice Ga Gn Gc] 30 (0, 0))))
      case atStart => exact ⟨0, by omega, by omega, rfl, B, K⟩
      clear B K
      case round =>
        obtain ⟨kk, hk, hgg, rfl, B, K⟩ := hrel
        have c7 : wr.cell? ⟨w.heap.size, 7, none⟩ = some (.slice A n cap) := by simp [World.cell?, K.out]
        by_cases hlt : kk < n
        · have hltz : (kk : Int) < (n : Int) := by omega
          have hLr := HL.out.below B.out
          have hk1 : kk < css.length := by rw [hLr.len, ← KN.out]; exact hlt
          obtain rfl := hLr.A (by omega)
          have hrg := hLr.row kk hk1
          obtain ⟨hE, hit, _⟩ := hLr.isE kk hk1
          have ce : wr.cell? ⟨b, off + kk * 43, none⟩ = some (.int .i64 xs[kk]!.1) := by
            have := hrg 0 _ hE.i0
            rw [hit] at this
            simpa using this
          have c2 : wr.cell? ⟨w.heap.size, 2, none⟩ = some (.int .i64 si) := by simp [World.cell?, K.out]
          generalize xs[kk]! = xk at *
          clear hLr hrg hE hit
          go_wp2_with fail
          go_region
          go_upto_if 66 with (fail)
          generalize (wrap64 (wrap64 (xk.1 - 1) - (kk : Int)) != si) = B66
          cases B66 with
          | true =>
            go_wp2_with fail
            go_ret
            exact ⟨_, rfl, B.out.drew⟩
          | false =>
            clear ce c2 c7
            go_wp2_with fail
            go_roundg (n - (kk + 1))
            case measure => omega
            case rel => exact ⟨kk + 1, by omega, by omega, by go_num, B.out.drew, K.out⟩
        · have hltz : ¬ (kk : Int) < (n : Int) := by omega
          go_wp2_with fail
          go_loopg [4] Gn (fun gg s4 wr => ∃ kk : Nat, 1 ≤ kk ∧ (kk ≤ Gn ∨ kk = 1) ∧ Gn - kk ≤ gg ∧ s4 = .int .i64 kk ∧ Aside (Below w.heap.size w wr) ∧ Aside (wr.heap[w.heap.size]? = some (.cells #[.int .i64 t, .int .i64 v, .int .i64 si, .int .i64 st, .slice Va Vn Vc, .slice La Ln Lc, .string d, .slice A n cap, .slice Ga Gn Gc] 30 (0, 0))))
          case atStart => exact ⟨1, by omega, by omega, by omega, rfl, B.out, K.out⟩
          clear B K c7
          case round =>
            obtain ⟨kk, hk1, hk, hgg, rfl, B, K⟩ := hrel
            have c8 : wr.cell? ⟨w.heap.size, 8, none⟩ = some (.slice Ga Gn Gc) := by simp [World.cell?, K.out]
            by_cases hlt : kk < Gn
            · have hltz : (kk : Int) < (Gn : Int) := by omega
              have hG := HG.out wr B.out
              have hkg : kk < gs.length := by rw [← KG.out]; exact hlt
              obtain rfl := hG.A (by omega)
              obtain ⟨j, rfl⟩ : ∃ j, kk = j + 1 := ⟨kk - 1, by omega⟩
              have c1 : wr.cell? ⟨gb, go + j * 97, none⟩ = some (.int .i64 gs[j]!.1.1) := by simpa using hG.row j (by omega) 0 _ rfl
              have c2 : wr.cell? ⟨gb, go + (j + 1) * 97, none⟩ = some (.int .i64 gs[j + 1]!.1.1) := by simpa using hG.row (j + 1) (by omega) 0 _ rfl
              generalize gs[j]!.1.1 = ga at *
              generalize gs[j + 1]!.1.1 = gc at *
              clear hG
              go_wp2_with fail
              go_region
              go_upto_if 89 with (fail)
              generalize (decide (gc ≤ ga)) = B89
              cases B89 with
              | true =>
                go_wp2_with fail
                go_ret
                exact ⟨_, rfl, B.out.drew⟩
              | false =>
                clear c1 c2 c8
                go_wp2_with fail
                go_roundg (Gn - (j + 1 + 1))
                case measure => omega
                case rel => exact ⟨j + 1 + 1, by omega, by omega, by omega, by go_num, B.out.drew, K.out⟩
            · have hltz : ¬ (kk : Int) < (Gn : Int) := by omega
              have hi30' := hi30
              go_wp2_with (refine wpList_load_row rfl 30 (.tmp 1) rfl w.heap.size rfl 30 _ (0, 0) _ K.out Try.underlying30 rfl hi30' ?_)
              refine (C56.out wr B.out).mono ?_
              rintro e w5 ⟨v5, rl, rfl, hR, hsh, hlen, hb5⟩
              obtain ⟨A5, cc5, b5, o5, rfl, hc5, hA5, hrec⟩ := recs_of_R hR
              have B5 : Below w.heap.size w w5 := B.out.trans (hb5.mono B.out.size)
              have HA5 := Aside0.mk hA5
              have HR5 := Aside0.mk hrec
              generalize rl.length = m at *
              have hm6 : m ≤ 3000000 := hlen
              clear hR hsh hlen hb5 hc5 hA5 hrec K c8 hi30'
              go_wp2_with fail
              go_loopg [6] m (fun gg s6 wr => ∃ kk : Nat, kk ≤ m ∧ m - kk ≤ gg ∧ s6 = .int .i64 kk ∧ Aside (Below w5.heap.size w5 wr))
              case atStart => exact ⟨0, by omega, by omega, rfl, Below.refl _ _⟩
              case round =>
                obtain ⟨kk, hk, hgg, rfl, B⟩ := hrel
                by_cases hlt : kk < m
                · have hltz : (kk : Int) < (m : Int) := by omega
                  obtain rfl := HA5.out (by omega)
                  obtain ⟨cs, hK, hrg⟩ := HR5.out wr B.out kk hlt
                  have hi71 : (Try.prog.info? 71).map (·.size) = some cs.length := by rw [kRec.K_len hK]; exact size71
                  have C57 := Aside0.mk (putrec_c _ cs wr hK)
                  clear hK
                  go_wp2_with (refine wpList_load_mid rfl 71 (.tmp 101) rfl b5 (o5 + kk * 149) rfl cs _ hrg Try.underlying71 rfl hi71 ?_)
                  refine C57.out.mono ?_
                  rintro e w6 ⟨v6, er, rfl, hb6⟩
                  have B6 : Below w5.heap.size w5 w6 := B.out.trans (hb6.mono B.out.size)
                  clear hrg hb6 C57
                  by_cases he : er = 0
                  · subst he
                    go_wp2_with fail
                    go_roundg (m - (kk + 1))
                    case measure => omega
                    case rel => exact ⟨kk + 1, by omega, by omega, by go_num, B6⟩
                  · have he' : (er == 0) = false := by simpa using he
                    go_wp2_with fail
                    go_ret
                    exact ⟨_, rfl, B5.trans (B6.mono B5.size)⟩
                · have hltz : ¬ (kk : Int) < (m : Int) := by omega
                  go_wp2_with fail
                  go_ret
                  exact ⟨.inr rfl, B5.trans (B.out.mono B5.size)⟩
end Go.Proofs.Ytpjachbmllklgaa.Rng
end
section
/- The parts of ledger.Join: the closures, the search, the list of records. -/
namespace Go.Proofs.Ytpjachbmllklgaa.Rng
open Go.RowKit Go.Proofs.YtpjachbmllklgaaW.PrintWords Go.Proofs.Ytpjachbmllklgaa.Kinds Go.Proofs.Ytpjachbmllklgaa.PCou
set_option linter.unusedVariables false
set_option linter.unusedSimpArgs false
attribute [local go_sem] Oper.semAt_some
attribute [local go_sem] fold_zip

theorem wpList_alloc71 {ops : Array Oper} {rest : List Oper} {o : Oper} {a : Act} {w : World} {Q : Exit → Act → World → Prop} (hg : o.guard = none) (ho : o.op = .alloc 71)
    (h : wpList Try.prog ops Q rest (a.put o.dst (.pointer (some ⟨w.heap.size, 0, none⟩))) (w.alloc (.cells zRec.toArray 71))) : wpList Try.prog ops Q (o :: rest) a w := by
  refine Go.Great.wpList_runTo hg o.dst rfl (.pointer (some ⟨w.heap.size, 0, none⟩)) (w.alloc (.cells zRec.toArray 71)) ?_ h
  obtain ⟨it, hi, hz⟩ := Option.map_eq_some_iff.1 zero71
  simp only [execOp, ho, Instr.alloc, zeroValue, newVar, newRow, typeInfo]
  simp [hi, hz, Value.cells]
/-- Where the first one of a kind is; -1: none. -/
def findV (p : Ent → Bool) (xs : List Ent) : Int := match xs.findIdx? p with
  | some i => i
  | none => -1
theorem findV_hit (p : Ent → Bool) (xs : List Ent) (k : Nat) (hk : k < xs.length) (h : p xs[k]! = true) (hj : ∀ j, j < k → p (xs[j]!) = false) : findV p xs = k := by
  have : xs.findIdx? p = some k := by
    rw [List.findIdx?_eq_some_iff_getElem]
    refine ⟨hk, by rw [getElem!_pos xs k hk] at h; exact h, fun j hjk => ?_⟩
    have := hj j hjk
    rw [getElem!_pos xs j (by omega)] at this
    simp [this]
  unfold findV
  rw [this]
theorem findV_none (p : Ent → Bool) (xs : List Ent) (hj : ∀ j, j < xs.length → p (xs[j]!) = false) : findV p xs = -1 := by
  have : xs.findIdx? p = none := by
    rw [List.findIdx?_eq_none_iff]
    intro x hx
    obtain ⟨j, hj1, rfl⟩ := List.getElem_of_mem hx
    have := hj j hj1
    rw [getElem!_pos xs j hj1] at this
    exact this
  unfold findV
  rw [this]
theorem findV_cases (p : Ent → Bool) (xs : List Ent) : (findV p xs = -1 ∧ ∀ j, j < xs.length → p (xs[j]!) = false) ∨ ∃ k : Nat, findV p xs = k ∧ k < xs.length ∧ p xs[k]! = true ∧ ∀ j, j < k → p (xs[j]!) = false := by
  unfold findV
  cases h : xs.findIdx? p with
  | none =>
    refine .inl ⟨rfl, fun j hj => ?_⟩
    rw [List.findIdx?_eq_none_iff] at h
    rw [getElem!_pos xs j hj]
    exact h _ (List.getElem_mem hj)
  | some k =>
    rw [List.findIdx?_eq_some_iff_getElem] at h
    obtain ⟨hk, h1, h2⟩ := h
    refine .inr ⟨k, rfl, hk, by rw [getElem!_pos xs k hk]; exact h1, fun j hj => ?_⟩
    rw [getElem!_pos xs j (by omega)]
    simpa using h2 j hj
/-- An entry that a log doesn't have. -/
def lacks (si : Int) (T : Int → Int × Bool) (y : Ent) : Bool := decide (y.1 > si) && (!(T y.1).2 || ((T y.1).1 != y.2.1))

set_option maxHeartbeats 1000000 in
set_option maxRecDepth 100000 in
theorem lacks_c (s : Sv) (b off : Nat) (css : List (List Value)) (g : Nat) (w : World) (h : Lg w s b off css) (hg : w.heap[g]? = some (.cells s.cells 30 (0, 0))) (y : Ent) (cs : List Value) (hE : IsE cs) (hit : itOf cs = (y.1, y.2.1)) (hr : -9223372036854775808 ≤ y.1 ∧ y.1 ≤ 9223372036854775807) :
    Calls Try.prog 58 #[.agg cs.toArray, .pointer (some ⟨g, 0, none⟩)] w fun e w' => e = .returned (.bool (lacks s.si (termV (s.sound css).si (s.sound css).st (its (soundE s css))) y)) ∧ Below w.heap.size w w' := by
  have e13 : ∀ args w, (callFunc 13 args).run Try.prog w = .ok (.enter 13 args) w := enters_of Try.func13 (by kernel_rfl) rfl
  have hi30 : ∀ cells : Array Value, cells.size = 9 → (Try.prog.info? 30).map (·.size) = some cells.size := fun c hc => by rw [hc]; exact size30
  have q0 : Below w.heap.size w (w.alloc (.cells cs.toArray 59)) := (Below.refl _ w).alloc (Nat.le_refl _) _
  have hgl : g < w.heap.size := (Array.getElem?_eq_some_iff.1 hg).1
  have kb := blk_new w (.cells cs.toArray 59)
  have hs0 : (w.alloc (.cells cs.toArray 59)).heap.size = w.heap.size + 1 := by simp
  have kg := (q0.block g hgl).trans hg
  have C13 := Aside0.mk (term_c s b off css _ (h.below q0) y.1 hr)
  unfold lacks
  generalize termV (s.sound css).si (s.sound css).st (its (soundE s css)) y.1 = T at *
  obtain ⟨T1, T2⟩ := T
  obtain ⟨y1, y2, yr⟩ := y
  dsimp only at *
  have e0 : cs[0]? = some (.int .i64 y1) := by have := hE.i0; rw [hit] at this; exact this
  have e1 : cs[1]? = some (.int .i64 y2) := by have := hE.i1; rw [hit] at this; exact this
  clear h hE hit hg
  go_enter Try.func58, Try.ntmps58
  go_upto_region 1 with (fail)
  generalize w.alloc (.cells cs.toArray 59) = W0 at q0 kb hs0 kg C13 ⊢
  have c0 : W0.cell? ⟨w.heap.size, 0, none⟩ = some (.int .i64 y1) := by simp [World.cell?, kb, e0]
  go_wp2_with (refine wpList_load_row rfl 30 (.tmp 1) rfl g rfl 30 _ (0, 0) _ kg Try.underlying30 rfl (hi30 _ rfl) ?_)
  refine C13.out.mono ?_
  rintro e w2 ⟨rfl, hb2⟩
  have q2 : Below w.heap.size w w2 := q0.trans (hb2.mono q0.size)
  have kb2 := (hb2.block w.heap.size (by omega)).trans kb
  have kg2 := (hb2.block g (by omega)).trans kg
  have d0 : w2.cell? ⟨w.heap.size, 0, none⟩ = some (.int .i64 y1) := by simp [World.cell?, kb2, e0]
  have d1 : w2.cell? ⟨w.heap.size, 1, none⟩ = some (.int .i64 y2) := by simp [World.cell?, kb2, e1]
  have dg : w2.cell? ⟨g, 2, none⟩ = some (.int .i64 s.si) := by simp [World.cell?, kg2, Sv.cells]
  clear hb2 kb kg kb2 kg2 c0 C13 e0 e1
  by_cases g1 : y1 > s.si
  · have G1 : Aside0 (decide (y1 > s.si) = true) := ⟨decide_eq_true g1⟩
    cases T2 with
    | false =>
      go_wp2_with fail
      go_ret
      refine ⟨?_, q2⟩
      rw [G1.out]
      rfl
    | true =>
      go_wp2_with fail
      go_ret
      refine ⟨?_, q2⟩
      rw [G1.out]
      rfl
  · have G1 : Aside0 (decide (y1 > s.si) = false) := ⟨decide_eq_false g1⟩
    go_wp2_with fail
    go_ret
    refine ⟨?_, q2⟩
    rw [G1.out]
    rfl

set_option maxHeartbeats 1000000 in
set_option maxRecDepth 100000 in
/-- The search, by a truth that a function tells. -/
theorem find_c (A : Option Addr) (n c b off : Nat) (css : List (List Value)) (xs : List Ent) (w : World) (h : LX w A b off css xs) (hn : n = css.length) (g : Nat) (p : Ent → Bool)
    (hp : ∀ W, Below w.heap.size w W → ∀ j, j < css.length → Calls Try.prog 58 #[.agg css[j]!.toArray, .pointer (some ⟨g, 0, none⟩)] W fun e w' => e = .returned (.bool (p xs[j]!)) ∧ Below W.heap.size W w') :
    Calls Try.prog 50 #[.slice A n c, .func (.func 58) #[] #[.pointer (some ⟨g, 0, none⟩)]] w fun e w' => e = .returned (.int .i64 (findV p xs)) ∧ Below w.heap.size w w' := by
  have e58 : ∀ args w, (callFunc 58 args).run Try.prog w = .ok (.enter 58 args) w := enters_of Try.func58 (by kernel_rfl) rfl
  subst hn
  have H := Aside0.mk h
  have HP := Aside0.mk hp
  have hsm := h.small
  clear h hp
  generalize hrv : findV p xs = rv
  have RV := Aside0.mk hrv
  clear hrv
  go_enter Try.func50, Try.ntmps50
  go_wp2_with fail
  go_loopg [8] css.length (fun gg s8 wr => ∃ kk : Nat, kk ≤ css.length ∧ css.length - kk ≤ gg ∧ s8 = .int .i64 kk ∧ Aside (Below w.heap.size w wr) ∧ Aside (∀ j, j < kk → p (xs[j]!) = false))
  case atStart => exact ⟨0, by omega, by omega, rfl, Below.refl _ _, fun j hj => absurd hj (Nat.not_lt_zero _)⟩
  case round =>
    obtain ⟨kk, hk, hgg, rfl, B, G⟩ := hrel
    by_cases hlt : kk < css.length
    · have hltz : (kk : Int) < (css.length : Int) := by omega
      obtain rfl := H.out.A (by omega)
      have hL := H.out.below B.out
      have hrg := hL.row kk hlt
      obtain ⟨hE, hit, _⟩ := hL.isE kk hlt
      clear hL
      have HB := Aside0.mk (HP.out wr B.out kk hlt)
      generalize css[kk]! = cs at *
      have hi59 : (Try.prog.info? 59).map (·.size) = some cs.length := by rw [hE.len]; exact size59
      have hsz := B.out.size
      clear hE hit
      go_wp2_with (first | (refine wpList_load_mid rfl 59 (.tmp 14) rfl b (off + kk * 43) rfl cs _ hrg Try.underlying59 rfl hi59 ?_))
      refine HB.out.mono ?_
      rintro e w2 ⟨rfl, hb2⟩
      have B2 : Below w.heap.size w w2 := B.out.trans (hb2.mono hsz)
      have HXL := Aside0.mk H.out.len
      cases hgt : p xs[kk]! with
      | true =>
        go_wp2_with fail
        go_ret
        refine ⟨?_, B2⟩
        rw [← RV.out, findV_hit p xs kk (by rw [← HXL.out]; exact hlt) hgt G.out]
        rfl
      | false =>
        have HGT := Aside0.mk hgt
        clear hgt
        go_wp2_with fail
        go_roundg (css.length - (kk + 1))
        case measure => omega
        case rel =>
          refine ⟨kk + 1, by omega, by omega, by go_num, B2, (show Aside _ from fun j hj => ?_)⟩
          by_cases e : j = kk
          · subst e; exact HGT.out
          · exact G.out j (by omega)
    · have hltz : ¬ (kk : Int) < (css.length : Int) := by omega
      have hxl := H.out.len
      have : kk = css.length := by omega
      subst this
      go_wp2_with fail
      go_ret
      refine ⟨?_, B.out⟩
      rw [← RV.out, findV_none p xs (fun j hj => G.out j (by omega))]
      rfl
/-- The record of an entry. -/
def recE (y : Ent) : Rec := (2, 0, 0, y, 0, zSnap, zSgn)
def recX (i : Int) : Rec := (3, 0, 0, zEnt, i, zSnap, zSgn)

set_option maxHeartbeats 1000000 in
set_option maxRecDepth 100000 in
theorem reco_c (y : Ent) (cs : List Value) (w : World) (h : kEnt.K w y cs) (h1 : y.2.2.2.2.1.length < 17592186044416) (h2 : y.2.2.2.2.2.length < 17592186044416) :
    Calls Try.prog 60 #[.agg cs.toArray] w fun e w' => ∃ rs, e = .returned (.agg rs.toArray) ∧ kRec.M w' w.heap.size (fun _ => True) (recE y) rs ∧ Below w.heap.size w w' := by
  have e53 : ∀ args w, (callFunc 53 args).run Try.prog w = .ok (.enter 53 args) w := enters_of Try.func53 (by kernel_rfl) rfl
  have hcl0 : cs.length = 43 := kEnt.K_len h
  have hi59 : (Try.prog.info? 59).map (·.size) = some cs.toArray.size := by rw [List.size_toArray, hcl0]; exact size59
  have q0 : Below w.heap.size w ((w.alloc (.cells cs.toArray 59)).alloc (.cells zRec.toArray 71)) := ((Below.refl _ w).alloc (Nat.le_refl _) _).alloc (by simp) _
  have hs0 : ((w.alloc (.cells cs.toArray 59)).alloc (.cells zRec.toArray 71)).heap.size = w.heap.size + 2 := by simp
  have k0 := blk_alloc (blk_new w (.cells cs.toArray 59)) (.cells zRec.toArray 71)
  have z0 := blk_new (w.alloc (.cells cs.toArray 59)) (.cells zRec.toArray 71)
  rw [World.size_alloc] at z0
  have HB := Aside0.mk (copied_c y cs _ (kEnt.K_below q0 h) h1 h2)
  clear h h1 h2
  go_enter Try.func60, Try.ntmps60
  go_upto_region 1 with (refine wpList_alloc71 rfl rfl ?_)
  generalize ((w.alloc (.cells cs.toArray 59)).alloc (.cells zRec.toArray 71)) = W0 at q0 hs0 k0 z0 HB ⊢
  go_wp2_with (refine wpList_load_row rfl 59 (.tmp 1) rfl w.heap.size rfl 59 _ (0, 0) _ k0 Try.underlying59 rfl hi59 ?_)
  refine HB.out.mono ?_
  rintro e w2 ⟨cs', rfl, hM, hb2⟩
  have q2 : Below w.heap.size w w2 := q0.trans (hb2.mono q0.size)
  have z2 := (hb2.block (w.heap.size + 1) (by omega)).trans z0
  have hcl : cs'.length = 43 := kEnt.K_len (kEnt.K_of_M hM)
  have hb := built_ent cs' hcl
  have hrl := recCells_len 2 0 0 cs' 0 0 0 (.slice none 0 0) (.slice none 0 0) ⟨#[]⟩ (sgnCells zSgn) hcl rfl
  have hsz2 := hb2.size
  have HM := Aside0.mk hM
  have hone : ∀ u ∈ recCells 2 0 0 cs' 0 0 0 (.slice none 0 0) (.slice none 0 0) ⟨#[]⟩ (sgnCells zSgn), u.oneCell' = true := kRec.K_one (kRec.K_of_M (rec_M (W := w2) (base := W0.heap.size) (ok := fun _ => True) (k := 2) (t := 0) (v := 0) (i := 0) (si := 0) (st := 0) (V := .slice none 0 0) (L := .slice none 0 0) (d := ⟨#[]⟩) (g := zSgn) hM (Kd.R_nil _ _ _ _ _) (Kd.R_nil _ _ _ _ _) (by decide) (by decide) (by decide)))
  obtain ⟨rc, hrc⟩ : ∃ rc, recCells 2 0 0 cs' 0 0 0 (.slice none 0 0) (.slice none 0 0) ⟨#[]⟩ (sgnCells zSgn) = rc := ⟨_, rfl⟩
  rw [hrc] at hb hrl hone
  have HRC := Aside0.mk hrc
  have hi71 : (Try.prog.info? 71).map (·.size) = some rc.toArray.size := by rw [List.size_toArray, hrl]; exact size71
  have hzl : zRec.toArray.size = rc.toArray.size := by rw [List.size_toArray, List.size_toArray, hrl, zRec_len]
  have h1c := all_one hone
  clear hM hrc hb2 k0 z0 HB hone
  go_wp2_with (first | (refine wpList_build2 rfl 71 _ rfl [(0, .int .i64 2), (3, .agg cs'.toArray)] (by simp only [List.map_toArray, List.map_cons, List.map_nil, List.toList_toArray]; rfl) _ hb ?_) | (refine wpList_store_row rfl 71 (.tmp 2) (.tmp 5) rfl (w.heap.size + 1) _ rfl rfl 71 zRec.toArray z2 hi71 hzl h1c ?_))
  have hg := setRow_heap _ (w.heap.size + 1) zRec.toArray rc.toArray 71 (0, 0) z2
  refine bodyPost_ret (results_cell_row rfl _ _ (w.heap.size + 1) 71 _ (0, 0) _ rfl hg Try.underlying71 rfl hi71) rfl ?_
  refine ⟨rc, rfl, ?_, below_setRow q2 _ (by omega) _⟩
  rw [← HRC.out]
  refine rec_M (M_new2 HM.out (fun k h1 h2 => setRow_other _ _ k _ (by omega)) (by omega)) (Kd.R_nil _ _ _ _ _) (Kd.R_nil _ _ _ _ _) (by decide) (by decide) (by decide)

set_option maxHeartbeats 1000000 in
set_option maxRecDepth 100000 in
theorem eachr_c (A : Option Addr) (n c b off : Nat) (css : List (List Value)) (xs : List Ent) (w : World) (h : LX w A b off css xs) (hn : n = css.length) :
    Calls Try.prog 59 #[.slice A n c, .func (.func 60) #[] #[]] w fun e w' => ∃ v, e = .returned v ∧ kRec.R 71 w' w.heap.size (fun _ => True) v (xs.map recE) ∧ Below w.heap.size w w' := by
  have e60 : ∀ args w, (callFunc 60 args).run Try.prog w = .ok (.enter 60 args) w := enters_of Try.func60 (by kernel_rfl) rfl
  subst hn
  have H := Aside0.mk h
  have hsm := h.small
  clear h
  go_enter Try.func59, Try.ntmps59
  go_wp2_with fail
  go_loopg [5, 10] css.length (fun gg s5 s10 wr => ∃ kk : Nat, kk ≤ css.length ∧ css.length - kk ≤ gg ∧ s10 = .int .i64 kk ∧ Aside (Below w.heap.size w wr) ∧ Aside (kRec.R 71 wr w.heap.size (fun _ => True) s5 ((xs.map recE).take kk)))
  case atStart => exact ⟨0, by omega, by omega, rfl, Below.refl _ _, Kd.R_nil _ _ _ _ _⟩
  case round =>
    obtain ⟨kk, hk, hgg, rfl, B, G⟩ := hrel
    by_cases hlt : kk < css.length
    · have hltz : (kk : Int) < (css.length : Int) := by omega
      obtain rfl := H.out.A (by omega)
      have hL := H.out.below B.out
      have hrg := hL.row kk hlt
      obtain ⟨hE, hit, _⟩ := hL.isE kk hlt
      have hKk := hL.K kk hlt
      have hcou := hL.cou _ (hL.mem kk hlt)
      clear hL
      generalize hxk : xs[kk]! = xk at hKk hcou hit
      have XK := Aside0.mk hxk
      clear hxk
      generalize hcs : css[kk]! = cs at hrg hE hit hKk
      clear hcs hit
      have hi59 : (Try.prog.info? 59).map (·.size) = some cs.length := by rw [hE.len]; exact size59
      have hi59' : (Try.prog.info? 59).map (·.size) = some cs.toArray.size := by rw [List.size_toArray, hE.len]; exact size59
      have h1c := all_one hE.one
      have hl43 : cs.length = 43 := hE.len
      have hsz := B.out.size
      have hK2 : kEnt.K (wr.alloc (.cells cs.toArray 59)) xk cs := kEnt.K_below ((Below.refl _ wr).alloc (Nat.le_refl _) _) hKk
      have HB := Aside0.mk (reco_c xk cs (wr.alloc (.cells cs.toArray 59)) hK2 hcou.1 hcou.2)
      have hnew := blk_new wr (.cells cs.toArray 59)
      clear hE hKk hK2
      go_wp2_with (first | (refine wpList_load_mid rfl 59 (.tmp 12) rfl b (off + kk * 43) rfl cs _ hrg Try.underlying59 rfl hi59 ?_) | (refine wpList_store_new rfl 59 (.tmp 7) (.tmp 13) rfl cs.toArray _ 59 rfl rfl hi59' ?hold h1c ?_) | (refine wpList_load_row rfl 59 (.tmp 7) rfl wr.heap.size rfl 59 _ (0, 0) _ hnew Try.underlying59 rfl hi59' ?_))
      case hold => simp [hl43]
      refine HB.out.mono ?_
      rintro e w2 ⟨rs, rfl, hM, hb2⟩
      have hszA : (wr.alloc (.cells cs.toArray 59)).heap.size = wr.heap.size + 1 := by simp
      have hbA : Below wr.heap.size wr w2 := ((Below.refl _ wr).alloc (Nat.le_refl _) _).trans (hb2.mono (by omega))
      have B2 : Below w.heap.size w w2 := B.out.trans (hbA.mono hsz)
      have HR : Aside0 (kRec.R 71 w2 w.heap.size (fun _ => True) u5 ((xs.map recE).take kk)) := ⟨Kd.R_below G.out hbA⟩
      have hrl : rs.length = 149 := kRec.K_len (kRec.K_of_M hM)
      have hvb : ∀ k, u5.ownBlock = some k → k < wr.heap.size := fun k hk => by
        obtain ⟨inner, ho⟩ := Kd.R_own G.out
        exact own_lt ho k hk
      have HM : Aside0 (kRec.M w2 w.heap.size (fun k => wr.heap.size ≤ k) (recE xk) rs) := ⟨kRec.M_lower (by omega) (kRec.M_mono (ok' := fun k => wr.heap.size ≤ k) (fun k hk => by have := hk.2.1; omega) (kRec.M_bound hM))⟩
      have hxl := H.out.len
      have htk : (xs.map recE).take (kk + 1) = (xs.map recE).take kk ++ [recE xk] := by
        rw [← XK.out, List.take_add_one, List.getElem?_eq_getElem (by rw [List.length_map]; omega), getElem!_pos xs kk (by omega)]
        simp
      have hlen : ((xs.map recE).take kk).length ≤ 1000000 := by rw [List.length_take, List.length_map]; omega
      have TK := Aside0.mk htk
      clear htk hxl
      have HVB := Aside0.mk hvb
      clear hvb hM
      go_wp2_with (first | (refine wpList_buildOne rfl 61 71 (.tmp 17) rfl rs rfl Try.underlying61 zR71 149 384 info71 hrl (by decide) (by decide) ?_) | (at_builtin; refine Kd.R_append kRec (w0 := w) w.heap.size rfl (.tmp 14) (.tmp 18) 61 71 zR71 384 rfl Try.underlying61 info71 zR71_size (by decide) (by decide) u5 ((xs.map recE).take kk) (recE xk) rs (fun _ => True) (fun k => wr.heap.size ≤ k) rfl rfl HM.out ?okp (fun _ _ => trivial) HR.out B2 B2.size ?aL ?_))
      case okp => exact fun k hk => ⟨trivial, fun e => by have := HVB.out k e.symm; omega⟩
      case aL => omega
      intro v1 w1 ho hb hg hat
      have hb' : Below w.heap.size w w1 := hb
      rw [← TK.out] at ho
      have HO := Aside0.mk ho
      clear ho hg hat hb
      go_wp2_with fail
      go_roundg (css.length - (kk + 1))
      case measure => omega
      case rel => exact ⟨kk + 1, by omega, by omega, by go_num, hb', HO.out⟩
    · have hltz : ¬ (kk : Int) < (css.length : Int) := by omega
      have hkk : kk = css.length := by omega
      have HT : Aside0 ((xs.map recE).take kk = xs.map recE) := ⟨by rw [List.take_of_length_le]; rw [List.length_map, hkk, H.out.len]; exact Nat.le_refl _⟩
      clear hkk
      go_wp2_with fail
      go_ret
      refine ⟨_, rfl, ?_, B.out⟩
      have := G.out
      rw [HT.out] at this
      exact this
end Go.Proofs.Ytpjachbmllklgaa.Rng
end
section
/- ledger.Join. -/
namespace Go.Proofs.Ytpjachbmllklgaa.Rng
open Go.RowKit Go.Proofs.YtpjachbmllklgaaW.PrintWords Go.Proofs.Ytpjachbmllklgaa.Kinds Go.Proofs.Ytpjachbmllklgaa.PCou
set_option linter.unusedVariables false
set_option linter.unusedSimpArgs false
attribute [local go_sem] Oper.semAt_some
attribute [local go_sem] fold_zip
attribute [local go_sem] Go.Proofs.YtpjachbmllklgaaW.PrintMore.max2_int Go.Proofs.YtpjachbmllklgaaW.PrintMore.max_two

/-- Numbers that go on from an index, as Join asks. -/
def okG (chk : Bool) (index : Int) (ys : List Ent) : Nat → Bool
  | 0 => chk
  | k + 1 => okG chk index ys k && !(decide (ys[k]!.1 ≤ index) || (wrap64 (wrap64 (ys[k]!.1 - 1) - (k : Int)) != index))
def jErr (si st : Int) (l : List (Int × Int)) (index term : Int) (ys : List Ent) : Int :=
  if okG (checkB si l) index ys ys.length = true ∧ ¬ index < 0 then (if index > si + l.length ∨ ((termV si st l index).2 = true ∧ (termV si st l index).1 ≠ term) then 120 else 0) else 1
def joinRecs (last : Int) (ys : List Ent) (k : Nat) : List Rec := (if ys[k]!.1 ≤ last then [recX ys[k]!.1] else []) ++ (ys.drop k).map recE
def JoinPost (si st : Int) (l : List (Int × Int)) (index term : Int) (ys : List Ent) (w : World) (e : Ending) (w' : World) : Prop :=
  Below w.heap.size w w' ∧
  ((jErr si st l index term ys ≠ 0 ∧ e = .returned (.tuple #[.slice none 0 0, .int .i64 0, .int .i64 (jErr si st l index term ys)])) ∨
   (jErr si st l index term ys = 0 ∧ ∃ (v : Value) (n : Int), e = .returned (.tuple #[v, .int .i64 n, .int .i64 0]) ∧ n = max si (wrap64 (index + (ys.length : Int))) ∧
      ((findV (lacks si (termV si st l)) ys = -1 ∧ v = .slice none 0 0) ∨ ∃ k : Nat, findV (lacks si (termV si st l)) ys = k ∧ k < ys.length ∧ kRec.R 71 w' w.heap.size (fun _ => True) v (joinRecs (si + l.length) ys k))))
theorem okG_chk {chk : Bool} {index : Int} {ys : List Ent} : ∀ k, okG chk index ys k = true → chk = true
  | 0, h => h
  | k + 1, h => by
    rw [okG, Bool.and_eq_true] at h
    exact okG_chk k h.1
theorem joinPost_err {si st : Int} {l : List (Int × Int)} {index term : Int} {ys : List Ent} {w w' : World} {n : Int} (hb : Below w.heap.size w w') (h : jErr si st l index term ys = n) (h0 : n ≠ 0) : JoinPost si st l index term ys w (.returned (.tuple #[.slice none 0 0, .int .i64 0, .int .i64 n])) w' :=
  ⟨hb, .inl ⟨by rw [h]; exact h0, by rw [h]⟩⟩

set_option maxHeartbeats 2000000 in
set_option maxRecDepth 100000 in
theorem join_c (s : Sv) (b off : Nat) (css : List (List Value)) (xs : List Ent) (w : World) (hL : LX w s.A b off css xs) (hn : s.n = css.length) (index term : Int) (hri : -9223372036854775808 ≤ index ∧ index ≤ 9223372036854775807)
    (AL : Option Addr) (nl cl bl ol : Nat) (cssl : List (List Value)) (ys : List Ent) (hY : LX w AL bl ol cssl ys) (hnl : nl = cssl.length) (hcl : nl ≤ cl) :
    Calls Try.prog 33 #[.agg s.cells, .int .i64 index, .int .i64 term, .slice AL nl cl] w (JoinPost s.si s.st (its css) index term ys w) := by
  have e10 : ∀ args w, (callFunc 10 args).run Try.prog w = .ok (.enter 10 args) w := enters_of Try.func10 (by kernel_rfl) rfl
  have e11 : ∀ args w, (callFunc 11 args).run Try.prog w = .ok (.enter 11 args) w := enters_of Try.func11 (by kernel_rfl) rfl
  have e13 : ∀ args w, (callFunc 13 args).run Try.prog w = .ok (.enter 13 args) w := enters_of Try.func13 (by kernel_rfl) rfl
  have e50 : ∀ args w, (callFunc 50 args).run Try.prog w = .ok (.enter 50 args) w := enters_of Try.func50 (by kernel_rfl) rfl
  have e59 : ∀ args w, (callFunc 59 args).run Try.prog w = .ok (.enter 59 args) w := enters_of Try.func59 (by kernel_rfl) rfl
  have hi30 : ∀ cells : Array Value, cells.size = 9 → (Try.prog.info? 30).map (·.size) = some cells.size := fun c hc => by rw [hc]; exact size30
  have HG0 : ∀ W, Below w.heap.size w W → Lg W s b off css := fun W hW => (hL.below hW).lg hn
  have C10 : Aside0 (∀ W, Below w.heap.size w W → Calls Try.prog 10 #[.agg s.cells] W fun e w' => e = .returned (.int .i64 (if checkB s.si (its css) then 0 else 1)) ∧ Below W.heap.size W w') := ⟨fun W hW => check_c s b off css W (HG0 W hW)⟩
  have C11 : Aside0 (∀ W, Below w.heap.size w W → Calls Try.prog 11 #[.agg s.cells] W fun e w' => e = .returned (.tuple #[.int .i64 (lastV (s.sound css) (soundE s css)).1, .int .i64 (lastV (s.sound css) (soundE s css)).2]) ∧ Below W.heap.size W w') := ⟨fun W hW => last_c s b off css W (HG0 W hW)⟩
  have C13 : Aside0 (∀ W, Below w.heap.size w W → Calls Try.prog 13 #[.agg s.cells, .int .i64 index] W fun e w' => e = .returned (.tuple #[.int .i64 (termV (s.sound css).si (s.sound css).st (its (soundE s css)) index).1, .bool (termV (s.sound css).si (s.sound css).st (its (soundE s css)) index).2]) ∧ Below W.heap.size W w') := ⟨fun W hW => term_c s b off css W (HG0 W hW) index hri⟩
  have HYA := Aside0.mk hY
  have C50 : Aside0 (∀ W, Below w.heap.size w W → w.heap.size < W.heap.size → W.heap[w.heap.size]? = some (.cells s.cells 30 (0, 0)) → Calls Try.prog 50 #[.slice AL nl cl, .func (.func 58) #[] #[.pointer (some ⟨w.heap.size, 0, none⟩)]] W fun e w' => e = .returned (.int .i64 (findV (lacks s.si (termV (s.sound css).si (s.sound css).st (its (soundE s css)))) ys)) ∧ Below W.heap.size W w') :=
    ⟨fun W hW hlt hk => find_c AL nl cl bl ol cssl ys W (HYA.out.below hW) hnl w.heap.size _ (fun W2 hW2 j hj => by
      have hY2 := (HYA.out.below hW).below hW2
      obtain ⟨hE, hit, _⟩ := hY2.isE j hj
      exact lacks_c s b off css w.heap.size W2 ((HG0 W hW).below hW2) ((hW2.block _ hlt).trans hk) ys[j]! cssl[j]! hE hit (hY2.wi _ (hY2.mem j hj)))⟩
  have C59 : Aside0 (∀ W, Below w.heap.size w W → ∀ k, k ≤ nl → Calls Try.prog 59 #[.slice (some ⟨bl, ol + k * 43, none⟩) (nl - k) (cl - k), .func (.func 60) #[] #[]] W fun e w' => ∃ v, e = .returned v ∧ kRec.R 71 w' W.heap.size (fun _ => True) v ((ys.drop k).map recE) ∧ Below W.heap.size W w') :=
    ⟨fun W hW k hk => eachr_c _ _ _ bl (ol + k * 43) (cssl.drop k) (ys.drop k) W ((HYA.out.below hW).drop k) (by rw [List.length_drop, hnl])⟩
  have CHK : Aside0 (checkB s.si (its css) = true → s.sound css = s ∧ soundE s css = css ∧ lastV s css = (s.si + css.length, (termV s.si s.st (its css) (s.si + css.length)).1)) :=
    ⟨fun hc => ⟨by unfold Sv.sound; rw [if_pos hc], by unfold soundE; rw [if_pos hc], last_term s css (by simp only [checkB, Bool.and_eq_true] at hc; exact hc.2)⟩⟩
  have hyl := hY.len
  have hys := hY.small
  have hIL := its_length css
  have HIL := Aside0.mk hIL
  have HYL := Aside0.mk hyl
  have HNL := Aside0.mk hnl
  have hn6 : nl ≤ 1000000 := by omega
  have HN := Aside0.mk hn
  clear HG0 hL hY hyl hys hIL hnl hn
  generalize hsd : s.sound css = sS at *
  generalize hse : soundE s css = cS at *
  have HSD := Aside0.mk hsd
  have HSE := Aside0.mk hse
  clear hsd hse
  obtain ⟨t, v, si, st, Va, Vn, Vc, La, Ln, Lc, d, A, n, cap, Ga, Gn, Gc⟩ := s
  dsimp only at *
  unfold Sv.cells at *
  dsimp only at *
  generalize hfin : JoinPost si st (its css) index term ys w = FIN
  have HF := Aside0.mk hfin
  clear hfin
  have q0 : Below w.heap.size w (w.alloc (.cells #[.int .i64 t, .int .i64 v, .int .i64 si, .int .i64 st, .slice Va Vn Vc, .slice La Ln Lc, .string d, .slice A n cap, .slice Ga Gn Gc] 30)) := (Below.refl _ w).alloc (Nat.le_refl _) _
  have k0 := blk_new w (.cells #[.int .i64 t, .int .i64 v, .int .i64 si, .int .i64 st, .slice Va Vn Vc, .slice La Ln Lc, .string d, .slice A n cap, .slice Ga Gn Gc] 30)
  have s0 : (w.alloc (.cells #[.int .i64 t, .int .i64 v, .int .i64 si, .int .i64 st, .slice Va Vn Vc, .slice La Ln Lc, .string d, .slice A n cap, .slice Ga Gn Gc] 30)).heap.size = w.heap.size + 1 := by simp
  go_enter Try.func33, Try.ntmps33
  go_upto_region 1 with (fail)
  generalize (w.alloc (.cells #[.int .i64 t, .int .i64 v, .int .i64 si, .int .i64 st, .slice Va Vn Vc, .slice La Ln Lc, .string d, .slice A n cap, .slice Ga Gn Gc] 30)) = W0 at q0 k0 s0 ⊢
  go_wp2_with (refine wpList_load_row rfl 30 (.tmp 4) rfl w.heap.size rfl 30 _ (0, 0) _ k0 Try.underlying30 rfl (hi30 _ rfl) ?_)
  have H10 := C10.out W0 q0
  refine H10.mono ?_
  intro e w1 hb1
  obtain ⟨he1, hb1⟩ := hb1
  subst he1
  have q1 : Below w.heap.size w w1 := q0.trans (hb1.mono q0.size)
  have k1 := (hb1.block w.heap.size (by omega)).trans k0
  obtain ⟨E0, hE0⟩ : ∃ E : Int, (if checkB si (its css) = true then (0 : Int) else 1) = E := ⟨_, rfl⟩
  rw [hE0]
  have CK : Aside0 (E0 = if okG (checkB si (its css)) index ys 0 = true then (0 : Int) else 1) := ⟨hE0.symm⟩
  clear hE0 hb1 k0 q0 s0 C10 H10
  go_wp2_with fail
  go_loopg [11, 25] nl (fun gg s11 s25 wr => ∃ (kk : Nat) (E : Int), kk ≤ nl ∧ nl - kk ≤ gg ∧ s25 = .int .i64 kk ∧ s11 = .int .i64 E ∧ Aside (E = if okG (checkB si (its css)) index ys kk = true then (0 : Int) else 1) ∧ Aside (Below w.heap.size w wr) ∧ Aside (wr.heap[w.heap.size]? = some (.cells #[.int .i64 t, .int .i64 v, .int .i64 si, .int .i64 st, .slice Va Vn Vc, .slice La Ln Lc, .string d, .slice A n cap, .slice Ga Gn Gc] 30 (0, 0))))
  case atStart => exact ⟨0, _, by omega, by omega, rfl, rfl, CK.out, q1, k1⟩
  clear q1 k1 CK
  case round =>
    obtain ⟨kk, E, hk, hgg, rfl, rfl, OE, B, K⟩ := hrel
    by_cases hlt : kk < nl
    · have hltz : (kk : Int) < (nl : Int) := by omega
      have hYr := HYA.out.below B.out
      have hk1 : kk < cssl.length := by rw [← HNL.out]; exact hlt
      obtain rfl := hYr.A (by omega)
      have hrg := hYr.row kk hk1
      obtain ⟨hE, hit, _⟩ := hYr.isE kk hk1
      have hsu : okG (checkB si (its css)) index ys (kk + 1) = (okG (checkB si (its css)) index ys kk && !(decide (ys[kk]!.1 ≤ index) || (wrap64 (wrap64 (ys[kk]!.1 - 1) - (kk : Int)) != index))) := rfl
      have HSU := Aside0.mk hsu
      clear hsu hYr
      generalize ys[kk]! = yk at *
      generalize okG (checkB si (its css)) index ys kk = ok at *
      generalize cssl[kk]! = cs at *
      have hi59 : (Try.prog.info? 59).map (·.size) = some cs.length := by rw [hE.len]; exact size59
      have hi59' : (Try.prog.info? 59).map (·.size) = some cs.toArray.size := by rw [List.size_toArray, hE.len]; exact size59
      have h1c := all_one hE.one
      have hl43 : cs.length = 43 := hE.len
      have B2 : Below w.heap.size w (wr.alloc (.cells cs.toArray 59)) := B.out.alloc B.out.size _
      have hlw : w.heap.size < wr.heap.size := (Array.getElem?_eq_some_iff.1 K.out).1
      have K2 := Aside0.mk (blk_alloc K.out (.cells cs.toArray 59))
      have hnew := blk_new wr (.cells cs.toArray 59)
      have e0 : cs[0]? = some (.int .i64 yk.1) := by have := hE.i0; rw [hit] at this; exact this
      have c0 : (wr.alloc (.cells cs.toArray 59)).cell? ⟨wr.heap.size, 0, none⟩ = some (.int .i64 yk.1) := by simp only [World.cell?]; rw [hnew]; simpa using e0
      clear hE hit
      by_cases g1 : yk.1 ≤ index
      · have hsu2 : okG (checkB si (its css)) index ys (kk + 1) = false := by rw [HSU.out, decide_eq_true g1]; simp
        have HS2 := Aside0.mk hsu2
        clear HSU hsu2
        go_wp2_with (first | (refine wpList_load_mid rfl 59 (.tmp 28) rfl bl (ol + kk * 43) rfl cs _ hrg Try.underlying59 rfl hi59 ?_) | (refine wpList_store_new rfl 59 (.tmp 13) (.tmp 29) rfl cs.toArray _ 59 rfl rfl hi59' ?hold h1c ?_))
        case hold => simp [hl43]
        go_wp2_with fail
        go_roundg (nl - (kk + 1))
        case measure => omega
        case rel => exact ⟨kk + 1, 1, by omega, by omega, by go_num, rfl, (show (1 : Int) = _ by rw [HS2.out]; rfl), B2, K2.out⟩
      · by_cases g2 : wrap64 (wrap64 (yk.1 - 1) - (kk : Int)) = index
        · have hsu2 : okG (checkB si (its css)) index ys (kk + 1) = ok := by rw [HSU.out, decide_eq_false g1, g2]; simp
          have HS2 := Aside0.mk hsu2
          clear HSU hsu2
          go_wp2_with (first | (refine wpList_load_mid rfl 59 (.tmp 28) rfl bl (ol + kk * 43) rfl cs _ hrg Try.underlying59 rfl hi59 ?_) | (refine wpList_store_new rfl 59 (.tmp 13) (.tmp 29) rfl cs.toArray _ 59 rfl rfl hi59' ?hold h1c ?_))
          go_roundg (nl - (kk + 1))
          case measure => omega
          case rel => exact ⟨kk + 1, _, by omega, by omega, by go_num, rfl, (show E = _ by rw [HS2.out]; exact OE.out), B2, K2.out⟩
        · have hsu2 : okG (checkB si (its css)) index ys (kk + 1) = false := by rw [HSU.out, decide_eq_false g1]; simp [g2]
          have g2' : (wrap64 (wrap64 (yk.1 - 1) - (kk : Int)) == index) = false := by simpa using g2
          have HS2 := Aside0.mk hsu2
          clear HSU hsu2
          go_wp2_with (first | (refine wpList_load_mid rfl 59 (.tmp 28) rfl bl (ol + kk * 43) rfl cs _ hrg Try.underlying59 rfl hi59 ?_) | (refine wpList_store_new rfl 59 (.tmp 13) (.tmp 29) rfl cs.toArray _ 59 rfl rfl hi59' ?hold h1c ?_))
          go_roundg (nl - (kk + 1))
          case measure => omega
          case rel => exact ⟨kk + 1, 1, by omega, by omega, by go_num, rfl, (show (1 : Int) = _ by rw [HS2.out]; rfl), B2, K2.out⟩
    · have hltz : ¬ (kk : Int) < (nl : Int) := by omega
      have hkn : kk = ys.length := by have := HYL.out; have := HNL.out; omega
      have JE : Aside0 (jErr si st (its css) index term ys = if okG (checkB si (its css)) index ys kk = true ∧ ¬ index < 0 then (if index > si + (its css).length ∨ ((termV si st (its css) index).2 = true ∧ (termV si st (its css) index).1 ≠ term) then 120 else 0) else 1) := ⟨by rw [hkn]; rfl⟩
      have OKC : Aside0 (okG (checkB si (its css)) index ys kk = true → checkB si (its css) = true) := ⟨okG_chk kk⟩
      generalize okG (checkB si (its css)) index ys kk = ok at *
      cases ok with
      | false =>
        obtain rfl : E = 1 := OE.out
        go_wp2_with fail
        refine bodyPost_ret (results_tmp3 rfl _ _ _) rfl ?_
        rw [← HF.out]
        exact joinPost_err B.out (JE.out.trans (if_neg (by simp))) (by decide)
      | true =>
        obtain rfl : E = 0 := OE.out
        by_cases gi : index < 0
        · go_wp2_with fail
          refine bodyPost_ret (results_tmp3 rfl _ _ _) rfl ?_
          rw [← HF.out]
          exact joinPost_err B.out (JE.out.trans (if_neg (by simp [gi]))) (by decide)
        · have hlw : w.heap.size < wr.heap.size := (Array.getElem?_eq_some_iff.1 K.out).1
          obtain ⟨u1, u2, u3⟩ := CHK.out (OKC.out rfl)
          subst u1
          subst u2
          dsimp only at *
          have H11 := C11.out wr B.out
          rw [u3] at H11
          dsimp only at H11
          have JE2 : Aside0 (jErr si st (its cS) index term ys = if index > si + (cS.length : Int) ∨ ((termV si st (its cS) index).2 = true ∧ (termV si st (its cS) index).1 ≠ term) then 120 else 0) := ⟨by
            rw [JE.out, if_pos ⟨rfl, gi⟩, HIL.out]⟩
          have k1 := K.out
          have q1 := B.out
          clear u3 JE OKC CHK C11 K B HSD HSE
          go_wp2_with (refine wpList_load_row rfl 30 (.tmp 4) rfl w.heap.size rfl 30 _ (0, 0) _ k1 Try.underlying30 rfl (hi30 _ rfl) ?_)
          refine H11.mono ?_
          rintro e w2 ⟨rfl, hb2⟩
          have k2 := (hb2.block w.heap.size hlw).trans k1
          have q2 : Below w.heap.size w w2 := q1.trans (hb2.mono q1.size)
          have s2 : w.heap.size < w2.heap.size := by have := hb2.size; omega
          clear hb2 H11 k1 q1 hlw
          go_wp2_with (refine wpList_load_row rfl 30 (.tmp 4) rfl w.heap.size rfl 30 _ (0, 0) _ k2 Try.underlying30 rfl (hi30 _ rfl) ?_)
          refine (C13.out w2 q2).mono ?_
          generalize hT : termV si st (its cS) index = T at *
          have HT := Aside0.mk hT
          clear hT
          obtain ⟨T1, T2⟩ := T
          rintro e w3 ⟨rfl, hb3⟩
          have k3 := (hb3.block w.heap.size s2).trans k2
          have q3 : Below w.heap.size w w3 := q2.trans (hb3.mono q2.size)
          have s3 : w.heap.size < w3.heap.size := by have := hb3.size; omega
          clear hb3 C13 k2 q2 s2
          generalize hla : si + (cS.length : Int) = last at *
          have HLA := Aside0.mk hla
          clear hla
          go_upto_region 12 with (fail)
          go_cut [71] (fun s71 wx => (∃ B71, s71 = .bool B71 ∧ Aside0 (B71 = decide (index > last ∨ (T2 = true ∧ T1 ≠ term)))) ∧ wx = w3)
          case first =>
            by_cases g1 : index > last
            · have G := Aside0.mk (decide_eq_true (p := (index > last ∨ (T2 = true ∧ T1 ≠ term))) (.inl g1)).symm
              go_wp2_with fail
              go_meet
              exact ⟨⟨_, rfl, ⟨G.out⟩⟩, rfl⟩
            · cases T2 with
              | false =>
                have G := Aside0.mk (decide_eq_false (p := (index > last ∨ (false = true ∧ T1 ≠ term))) (by simp [g1])).symm
                go_wp2_with fail
                go_meet
                exact ⟨⟨_, rfl, ⟨G.out⟩⟩, rfl⟩
              | true =>
                by_cases g2 : T1 = term
                · have G := Aside0.mk (decide_eq_false (p := (index > last ∨ (true = true ∧ T1 ≠ term))) (by simp [g1, g2])).symm
                  subst g2
                  go_wp2_with fail
                  go_meet
                  exact ⟨⟨_, rfl, ⟨G.out⟩⟩, rfl⟩
                · have GB := Aside0.mk (show (T1 != term) = true by simpa using g2)
                  have G := Aside0.mk (decide_eq_true (p := (index > last ∨ (true = true ∧ T1 ≠ term))) (.inr ⟨rfl, g2⟩)).symm
                  go_wp2_with fail
                  go_meet
                  exact ⟨⟨_, rfl, ⟨GB.out.trans G.out⟩⟩, rfl⟩
          case rest =>
            obtain ⟨⟨B71, rfl, HB71⟩, rfl⟩ := hcut
            by_cases gE : index > last ∨ (T2 = true ∧ T1 ≠ term)
            · have JE3 : Aside0 (jErr si st (its cS) index term ys = 120) := ⟨JE2.out.trans (if_pos gE)⟩
              obtain rfl : B71 = true := HB71.out.trans (decide_eq_true gE)
              clear gE JE2 HB71
              go_wp2_with fail
              refine bodyPost_ret (results_tmp3 rfl _ _ _) rfl ?_
              rw [← HF.out]
              exact joinPost_err q3 JE3.out (by decide)
            · have JE3 : Aside0 (jErr si st (its cS) index term ys = 0) := ⟨JE2.out.trans (if_neg gE)⟩
              obtain rfl : B71 = false := HB71.out.trans (decide_eq_false gE)
              clear gE JE2 HB71
              have c2 : wc.cell? ⟨w.heap.size, 2, none⟩ = some (.int .i64 si) := by simp [World.cell?, k3]
              go_upto_region 14 with (fail)
              go_cut [18] (fun s18 wx => (∃ N, s18 = .int .i64 N ∧ Aside0 (N = max si (wrap64 (index + (nl : Int))))) ∧ wx = wc)
              case first =>
                by_cases gm : si < wrap64 (index + (nl : Int))
                · go_wp2_with fail
                  go_meet
                  exact ⟨⟨_, rfl, ⟨by omega⟩⟩, rfl⟩
                · go_wp2_with fail
                  go_meet
                  exact ⟨⟨_, rfl, ⟨by omega⟩⟩, rfl⟩
              case rest =>
                obtain ⟨⟨N, rfl, HN18⟩, rfl⟩ := hcut
                clear c2
                have H50 := C50.out wc q3 s3 k3
                generalize hfv : findV (lacks si (termV si st (its cS))) ys = fv at *
                have HFV := Aside0.mk hfv
                clear hfv C50
                go_wp2_with fail
                refine H50.mono ?_
                rintro e w5 ⟨rfl, hb5⟩
                have k5 := (hb5.block w.heap.size s3).trans k3
                have q5 : Below w.heap.size w w5 := q3.trans (hb5.mono q3.size)
                clear hb5 H50 k3 q3 s3
                rcases findV_cases (lacks si (termV si st (its cS))) ys with ⟨f1, f2⟩ | ⟨k, f1, f2, f3, f4⟩
                · have hf : fv = -1 := HFV.out.symm.trans f1
                  subst hf
                  clear f1 f2
                  go_wp2_with fail
                  refine bodyPost_ret (results_tmp3 rfl _ _ _) rfl ?_
                  rw [← HF.out]
                  refine ⟨q5, .inr ⟨JE3.out, _, _, rfl, ?_, .inl ⟨HFV.out, rfl⟩⟩⟩
                  rw [HN18.out, HNL.out, HYL.out]
                · have hf : fv = k := HFV.out.symm.trans f1
                  subst hf
                  have FK := Aside0.mk f1
                  have H59 := Aside0.mk (C59.out)
                  have hks : k < cssl.length := by rw [HYL.out]; exact f2
                  have hkn : k < nl := by rw [HNL.out]; exact hks
                  have hYr := HYA.out.below q5
                  obtain rfl := hYr.A (by omega)
                  obtain ⟨hE, hit, _⟩ := hYr.isE k hks
                  have c0 : w5.cell? ⟨bl, ol + k * 43, none⟩ = some (.int .i64 ys[k]!.1) := by
                    have := hYr.row k hks 0 _ hE.i0
                    rw [hit] at this
                    simpa using this
                  have JR : Aside0 (joinRecs last ys k = (if ys[k]!.1 ≤ last then [recX ys[k]!.1] else []) ++ (ys.drop k).map recE) := ⟨rfl⟩
                  have HDL : Aside0 ((ys.drop k).length ≤ 1000000) := ⟨by rw [List.length_drop]; have := hYr.small; have := hYr.len; omega⟩
                  have hk0 : ¬ (k : Int) < 0 := by omega
                  have hkz : (k : Int) < (nl : Int) := by omega
                  clear f1 f2 f3 f4 hks hE hit hYr C59
                  generalize ys[k]!.1 = y0 at *
                  generalize hdk : ys.drop k = dk at *
                  have HDK := Aside0.mk hdk
                  clear hdk
                  go_upto_if 92 with (fail)
                  go_cut [20] (fun s20 wx => ∃ vv, s20 = vv ∧ Aside (Below w.heap.size w wx) ∧ Aside (kRec.R 71 wx w.heap.size (fun _ => True) vv (if y0 ≤ last then [recX y0] else [])))
                  case first =>
                    by_cases g9 : y0 ≤ last
                    · have HM := Aside0.mk (rec_M (k := 3) (t := 0) (v := 0) (i := y0) (si := 0) (st := 0) (V := .slice none 0 0) (L := .slice none 0 0) (d := ⟨#[]⟩) (g := zSgn) (ent_M w5 w.heap.size (fun _ => True) 0 0) (Kd.R_nil _ _ _ _ _) (Kd.R_nil _ _ _ _ _) (by decide) (by decide) (by decide))
                      have hb2 := built_cut y0
                      have hrl := recCells_len 3 0 0 (ent 0 0) y0 0 0 (.slice none 0 0) (.slice none 0 0) ⟨#[]⟩ (sgnCells zSgn) rfl rfl
                      obtain ⟨rc2, hrc2⟩ : ∃ rc, recCells 3 0 0 (ent 0 0) y0 0 0 (.slice none 0 0) (.slice none 0 0) ⟨#[]⟩ (sgnCells zSgn) = rc := ⟨_, rfl⟩
                      rw [hrc2] at HM hb2 hrl
                      have G9 := Aside0.mk (if_pos g9 : (if y0 ≤ last then [recX y0] else []) = [recX y0])
                      clear hrc2
                      go_wp2_with (first | (refine wpList_build2 rfl 71 _ rfl [(0, .int .i64 3), (4, .int .i64 y0)] (by simp only [List.map_toArray, List.map_cons, List.map_nil, List.toList_toArray]; rfl) _ hb2 ?_) | (refine wpList_buildOne rfl 61 71 (.tmp 99) rfl rc2 rfl Try.underlying61 zR71 149 384 info71 hrl (by decide) (by decide) ?_) | (at_builtin; refine Kd.R_append kRec (w0 := w) w.heap.size rfl (.tmp 93) (.tmp 100) 61 71 zR71 384 rfl Try.underlying61 info71 zR71_size (by decide) (by decide) (.slice none 0 0) ([] : List Rec) (recX y0) rc2 (fun _ => True) (fun _ => True) rfl rfl HM.out ?okp (fun _ _ => trivial) (Kd.R_nil _ _ _ _ _) q5 q5.size ?aL ?_))
                      case okp => exact fun k hk => ⟨trivial, fun e => by cases e⟩
                      case aL => decide
                      intro v1 w6 ho hb hg hat
                      have HO := Aside0.mk ho
                      have HB6 := Aside0.mk (show Below w.heap.size w w6 from hb)
                      clear ho hb hg hat
                      go_wp2_with fail
                      go_meet
                      exact ⟨_, rfl, HB6.out, (show kRec.R 71 w6 w.heap.size (fun _ => True) v1 _ by rw [G9.out]; exact HO.out)⟩
                    · have G9 := Aside0.mk (if_neg g9 : (if y0 ≤ last then [recX y0] else []) = [])
                      go_wp2_with fail
                      go_meet
                      exact ⟨_, rfl, q5, (show kRec.R 71 w5 w.heap.size (fun _ => True) (.slice none 0 0) _ by rw [G9.out]; exact Kd.R_nil _ _ _ _ _)⟩
                  case rest =>
                    obtain ⟨vv, rfl, B, R⟩ := hcut
                    have H9 := H59.out wc B.out k (by omega)
                    rw [HDK.out] at H9
                    have hll : (if y0 ≤ last then [recX y0] else ([] : List Rec)).length ≤ 1 := by split <;> simp
                    generalize (if y0 ≤ last then [recX y0] else ([] : List Rec)) = pre at *
                    have HLL := Aside0.mk hll
                    clear c0 hll q5 k5 H59
                    go_wp2_with fail
                    refine H9.mono ?_
                    rintro e w7 ⟨v7, rfl, hR7, hb7⟩
                    have B7 : Below w.heap.size w w7 := B.out.trans (hb7.mono B.out.size)
                    have R7 : Aside0 (kRec.R 71 w7 w.heap.size (fun _ => True) u20 pre) := ⟨Kd.R_below R.out hb7⟩
                    have hvb : ∀ k, u20.ownBlock = some k → k < wc.heap.size := fun k hk => by
                      obtain ⟨inner, ho⟩ := Kd.R_own R.out
                      exact own_lt ho k hk
                    have HVB := Aside0.mk hvb
                    have hRb := Kd.R_bound hR7
                    obtain ⟨A7, c7, hv7, hc7, hr7⟩ := OwnRow.reads hRb.2
                    have HR7 := Aside0.mk hr7
                    have h1k : (dk.map recE).length ≤ 1000000 := by rw [List.length_map]; exact HDL.out
                    subst hv7
                    have hsz7 := B.out.size
                    clear hvb hRb hR7 hr7 H9 hb7 R
                    generalize hm7 : (dk.map recE).length = m7 at *
                    have HLW := Aside0.mk hsz7
                    go_wp2_with (at_builtin; refine Kd.R_append_rows kRec (w0 := w) w.heap.size rfl (.tmp 102) (.tmp 106) 61 71 zR71 384 rfl Try.underlying61 info71 zR71_size (by decide) (by decide) u20 pre (dk.map recE) A7 m7 c7 (fun _ => True) (fun k => wc.heap.size ≤ k) rfl rfl R7.out HR7.out ?hKM ?okp (fun _ _ => trivial) B7 B7.size ?aL ?_)
                    case hKM => exact fun x cs hx => kRec.M_lower HLW.out (kRec.M_mono (ok' := fun k => wc.heap.size ≤ k) (fun k hk => hk.1.2.1) hx)
                    case okp => exact fun k hk => ⟨trivial, fun e => by have := HVB.out k e.symm; omega⟩
                    case aL => have := HLL.out; omega
                    intro v1 w8 ho hb hg hat
                    have HO := Aside0.mk ho
                    have HB8 := Aside0.mk (show Below w.heap.size w w8 from hb)
                    clear ho hb hg hat
                    go_wp2_with fail
                    refine bodyPost_ret (results_tmp3 rfl _ _ _) rfl ?_
                    rw [← HF.out]
                    refine ⟨HB8.out, .inr ⟨JE3.out, _, _, rfl, ?_, .inr ⟨k, FK.out, ?_, ?_⟩⟩⟩
                    · rw [HN18.out, HNL.out, HYL.out]
                    · have := HNL.out; have := HYL.out; omega
                    · rw [HIL.out, HLA.out, JR.out]
                      exact HO.out
end Go.Proofs.Ytpjachbmllklgaa.Rng
end
section
/- LedgerJoined, the plain law: behind the records there is nothing to be joined, and what stood ahead stays. -/
namespace Go.Proofs.Ytpjachbmllklgaa.Rng
open Go.RowKit Go.Proofs.YtpjachbmllklgaaW.PrintWords Go.Proofs.Ytpjachbmllklgaa.Kinds
set_option linter.unusedVariables false
set_option linter.unusedSimpArgs false

theorem okG_get {chk : Bool} {index : Int} {ys : List Ent} (h0 : 0 ≤ index) (hw : ∀ y ∈ ys, -9223372036854775808 ≤ y.1 ∧ y.1 ≤ 9223372036854775807) (hs : ys.length ≤ 1000000) :
    ∀ k, k ≤ ys.length → okG chk index ys k = true → ∀ j, j < k → (ys[j]!).1 = index + 1 + j
  | 0, _, _, j, hj => absurd hj (Nat.not_lt_zero _)
  | k + 1, hk, h, j, hj => by
    rw [okG, Bool.and_eq_true] at h
    by_cases e : j = k
    · subst e
      have hm : ys[j]! ∈ ys := by rw [getElem!_pos ys j (by omega)]; exact List.getElem_mem _
      have hr := hw _ hm
      have h2 := h.2
      simp only [Bool.not_eq_true', Bool.or_eq_false_iff, decide_eq_false_iff_not, bne_eq_false_iff_eq] at h2
      obtain ⟨h3, h4⟩ := h2
      unfold wrap64 at h4
      omega
    · exact okG_get h0 hw hs k (by omega) h.1 j (by omega)
theorem okG_of {index : Int} {ys : List Ent} (h0 : 0 ≤ index) (hw : ∀ y ∈ ys, -9223372036854775808 ≤ y.1 ∧ y.1 ≤ 9223372036854775807) (hs : ys.length ≤ 1000000) {chk chk2 : Bool} (hc : chk2 = true) :
    ∀ k, k ≤ ys.length → okG chk index ys k = true → okG chk2 index ys k = true
  | 0, _, _ => hc
  | k + 1, hk, h => by
    rw [okG, Bool.and_eq_true] at h ⊢
    exact ⟨okG_of h0 hw hs hc k (by omega) h.1, h.2⟩
/-- The entries that stay, then those that come. -/
def joinZ (si : Int) (xs ys : List Ent) (k : Nat) : List Ent := xs.take (ys[k]!.1 - si - 1).toNat ++ ys.drop k
/-- Entries behind i records. -/
def foldE (si : Int) (xs ys : List Ent) (k i : Nat) : List Ent :=
  if ys[k]!.1 ≤ si + xs.length then (if i = 0 then xs else xs.take (ys[k]!.1 - si - 1).toNat ++ (ys.drop k).take (i - 1)) else xs.take (ys[k]!.1 - si - 1).toNat ++ (ys.drop k).take i
def Good (si : Int) (E : List Ent) (r : Rec) (E' : List Ent) : Prop :=
  (∃ c, r = recX c ∧ si < c ∧ c ≤ si + E.length ∧ E' = E.take (c - si - 1).toNat) ∨ (∃ y, r = recE y ∧ y.1 - 1 = si + E.length ∧ E.length < 9000 ∧ E' = E ++ [y])
section
variable {si st index term : Int} {xs ys : List Ent}
/-- What Join's OK gives. -/
structure JOk (si st index term : Int) (xs ys : List Ent) : Prop where
  hsi : 0 ≤ si ∧ si ≤ 900000000
  hi : 0 ≤ index
  goes : ∀ j, j < xs.length → xs[j]!.1 = si + 1 + j
  num : ∀ j, j < ys.length → ys[j]!.1 = index + 1 + j
  last : index ≤ si + xs.length
  ht : (termV si st (itX xs) index).2 = true → (termV si st (itX xs) index).1 = term
theorem okG_of_jErr (h : jErr si st (itX xs) index term ys = 0) : okG (checkB si (itX xs)) index ys ys.length = true := by
  unfold jErr at h
  split at h
  next hc => exact hc.1
  next => exact absurd h (by decide)
theorem itX_length (xs : List Ent) : (itX xs).length = xs.length := by simp [itX]
theorem jok_of (hw : ∀ y ∈ ys, -9223372036854775808 ≤ y.1 ∧ y.1 ≤ 9223372036854775807) (hs : ys.length ≤ 1000000) (h : jErr si st (itX xs) index term ys = 0) : JOk si st index term xs ys := by
  unfold jErr at h
  split at h
  next hc =>
    split at h
    next => exact absurd h (by decide)
    next hn =>
      obtain ⟨h1, h2⟩ := hc
      have hck := okG_chk _ h1
      simp only [checkB, Bool.and_eq_true, decide_eq_true_eq] at hck
      obtain ⟨⟨⟨c1, c2⟩, c3⟩, c4⟩ := hck
      refine ⟨⟨c1, c2⟩, by omega, fun j hj => goes_get c4 j hj, fun j hj => okG_get (by omega) hw hs _ (Nat.le_refl _) h1 j hj, ?_, fun ht => ?_⟩
      · rw [itX_length] at hn
        omega
      · by_cases e : (termV si st (itX xs) index).1 = term
        · exact e
        · exact absurd (.inr ⟨ht, e⟩) hn
  next => exact absurd h (by decide)
theorem jErr_ok (h : JOk si st index term xs ys) (hl : xs.length ≤ 9000) (hok : okG true index ys ys.length = true) : jErr si st (itX xs) index term ys = 0 := by
  have hc : checkB si (itX xs) = true := by
    simp only [checkB, Bool.and_eq_true, decide_eq_true_eq]
    refine ⟨⟨⟨h.hsi.1, h.hsi.2⟩, by rw [itX_length]; exact hl⟩, ?_⟩
    rw [goesB_iff]
    intro j hj
    rw [itX_length] at hj
    rw [itX_get xs j hj]
    exact h.goes j hj
  unfold jErr
  rw [hc, if_pos ⟨hok, by have := h.hi; omega⟩, if_neg]
  rintro (g | ⟨g1, g2⟩)
  · rw [itX_length] at g
    have := h.last
    omega
  · exact g2 (h.ht g1)
theorem termV_get (j : Nat) (hj : j < xs.length) : termV si st (itX xs) (si + 1 + j) = (xs[j]!.2.1, true) := by
  unfold termV
  rw [if_neg (by omega), if_pos (by rw [itX_length]; omega), show (si + 1 + (j : Int) - si - 1).toNat = j by omega, itX_get xs j hj]
theorem termV_low (i : Int) (hi : i < si) : termV si st (itX xs) i = (0, false) := by
  unfold termV
  rw [if_neg (by omega), if_neg (by omega)]
theorem termV_si : termV si st (itX xs) si = (st, true) := by
  unfold termV
  rw [if_pos rfl]
/-- Terms up to a place where two logs are one. -/
theorem termV_same {zs : List Ent} (m : Nat) (hx : m ≤ xs.length) (hz : m ≤ zs.length) (hs : ∀ j, j < m → zs[j]! = xs[j]!) (i : Int) (hi : i ≤ si + m) : termV si st (itX zs) i = termV si st (itX xs) i := by
  by_cases h1 : i < si
  · rw [termV_low i h1, termV_low i h1]
  · by_cases h2 : i = si
    · subst h2
      rw [termV_si, termV_si]
    · obtain ⟨j, hj⟩ : ∃ j : Nat, i = si + 1 + j := ⟨(i - si - 1).toNat, by omega⟩
      subst hj
      rw [termV_get j (by omega), termV_get j (by omega), hs j (by omega)]
/-- Where the records begin. -/
theorem hit_num (h : JOk si st index term xs ys) (k : Nat) (hk : k < ys.length) (hp : lacks si (termV si st (itX xs)) ys[k]! = true) (hj : ∀ j, j < k → lacks si (termV si st (itX xs)) (ys[j]!) = false) :
    si < ys[k]!.1 ∧ ys[k]!.1 ≤ si + xs.length + 1 := by
  have hp' := hp
  simp only [lacks, Bool.and_eq_true, decide_eq_true_eq] at hp'
  refine ⟨by omega, ?_⟩
  have hn := h.num k hk
  have hl := h.last
  by_cases e : k = 0
  · subst e
    simp only [Int.natCast_zero, Int.add_zero, Int.ofNat_zero] at hn
    omega
  · have hn1 := h.num (k - 1) (by omega)
    have h1 := hj (k - 1) (by omega)
    by_cases g : ys[k - 1]!.1 > si
    · simp only [lacks, Bool.and_eq_false_iff, decide_eq_false_iff_not, Bool.or_eq_false_iff] at h1
      rcases h1 with h1 | h1
      · exact absurd g h1
      · have h2 := h1.1
        by_cases g2 : ys[k - 1]!.1 ≤ si + xs.length
        · omega
        · unfold termV at h2
          rw [if_neg (by omega), if_neg (by rw [itX_length]; omega)] at h2
          simp at h2
    · omega
/-- What the records do. -/
structure Hit (si st index term : Int) (xs ys : List Ent) (k m : Nat) : Prop where
  j : JOk si st index term xs ys
  hk : k < ys.length
  num : ys[k]!.1 = si + 1 + m
  hm : m ≤ xs.length
  no : ∀ j, j < k → lacks si (termV si st (itX xs)) (ys[j]!) = false
theorem hit_of (h : JOk si st index term xs ys) (k : Nat) (hk : k < ys.length) (hp : lacks si (termV si st (itX xs)) ys[k]! = true) (hj : ∀ j, j < k → lacks si (termV si st (itX xs)) (ys[j]!) = false) :
    Hit si st index term xs ys k (ys[k]!.1 - si - 1).toNat := by
  obtain ⟨h1, h2⟩ := hit_num h k hk hp hj
  exact ⟨h, hk, by omega, by omega, hj⟩
theorem drop_get (ys : List Ent) (k j : Nat) (h : k + j < ys.length) : (ys.drop k)[j]! = ys[k + j]! := by
  rw [getElem!_pos _ j (by rw [List.length_drop]; omega), getElem!_pos ys _ h, List.getElem_drop]
theorem joinZ_length {k m : Nat} (h : Hit si st index term xs ys k m) : (xs.take m ++ ys.drop k).length = m + (ys.length - k) := by
  have := h.hm
  simp only [List.length_append, List.length_take, List.length_drop]
  omega
theorem joinZ_low {k m : Nat} (h : Hit si st index term xs ys k m) (j : Nat) (hj : j < m) : (xs.take m ++ ys.drop k)[j]! = xs[j]! := by
  have := h.hm
  have hl := joinZ_length h
  rw [getElem!_pos _ j (by omega), getElem!_pos xs j (by omega), List.getElem_append_left (by rw [List.length_take]; omega), List.getElem_take]
theorem joinZ_high {k m : Nat} (h : Hit si st index term xs ys k m) (j : Nat) (hj : k + j < ys.length) : (xs.take m ++ ys.drop k)[m + j]! = ys[k + j]! := by
  have h1 := h.hm
  have hl := joinZ_length h
  have ht : (xs.take m).length = m := by rw [List.length_take]; omega
  rw [getElem!_pos _ (m + j) (by omega), List.getElem_append_right (by omega), getElem!_pos ys _ hj, List.getElem_drop]
  congr 1
  omega
theorem joined_ok {k m : Nat} (h : Hit si st index term xs ys k m) : JOk si st index term (xs.take m ++ ys.drop k) ys := by
  have hj := h.j
  have hl := joinZ_length h
  have hkk := h.hk
  have hm := h.num
  have hn := hj.num k h.hk
  refine ⟨hj.hsi, hj.hi, fun j hjl => ?_, hj.num, by omega, fun ht => ?_⟩
  · by_cases g : j < m
    · rw [joinZ_low h j g]
      exact hj.goes j (by have := h.hm; omega)
    · obtain ⟨d, rfl⟩ : ∃ d, j = m + d := ⟨j - m, by omega⟩
      rw [joinZ_high h d (by omega), hj.num _ (by omega)]
      omega
  · rw [termV_same m h.hm (by omega) (fun j hjm => joinZ_low h j hjm) index (by omega)] at ht ⊢
    exact hj.ht ht
theorem joined_no {k m : Nat} (h : Hit si st index term xs ys k m) (j : Nat) (hj : j < ys.length) : lacks si (termV si st (itX (xs.take m ++ ys.drop k))) ys[j]! = false := by
  have hl := joinZ_length h
  have hkk := h.hk
  have hm := h.num
  have hn := h.j.num k h.hk
  have hnj := h.j.num j hj
  by_cases g : j < k
  · have := h.no j g
    unfold lacks at this ⊢
    rw [termV_same m h.hm (by omega) (fun j hjm => joinZ_low h j hjm) _ (by omega)]
    exact this
  · obtain ⟨d, rfl⟩ : ∃ d, j = k + d := ⟨j - k, by omega⟩
    unfold lacks
    rw [show ys[k + d]!.1 = si + 1 + ((m + d : Nat) : Int) by omega, termV_get (m + d) (by omega), joinZ_high h d hj]
    simp
theorem joined_stays {k m : Nat} (h : Hit si st index term xs ys k m) (j : Nat) (hj : j < xs.length) (hi : xs[j]!.1 ≤ index) : j < m := by
  have := h.j.goes j hj
  have hn := h.j.num k h.hk
  have hm := h.num
  omega
theorem lacks_no (si : Int) (T : Int → Int × Bool) (y : Ent) (h : lacks si T y = false) : y.1 > si → (T y.1).2 = true ∧ (T y.1).1 = y.2.1 := by
  intro hg
  simp only [lacks, Bool.and_eq_false_iff, decide_eq_false_iff_not, Bool.or_eq_false_iff] at h
  rcases h with h | h
  · exact absurd hg h
  · exact ⟨by simpa using h.1, by simpa using h.2⟩
/-- The records, one by one. -/
theorem fold_good {k m : Nat} (h : Hit si st index term xs ys k m) (hx : xs.length ≤ 1000) (hy : ys.length ≤ 1000) (i : Nat) (hi : i < (joinRecs (si + xs.length) ys k).length) :
    Good si (foldE si xs ys k i) (joinRecs (si + xs.length) ys k)[i]! (foldE si xs ys k (i + 1)) := by
  have hkk := h.hk
  have hm := h.num
  have hmm := h.hm
  have hn := h.j.num k h.hk
  have ht : (ys[k]!.1 - si - 1).toNat = m := by omega
  have htl : (xs.take m).length = m := by rw [List.length_take]; omega
  have ent : ∀ d, k + d < ys.length → Good si (xs.take m ++ (ys.drop k).take d) (recE ys[k + d]!) (xs.take m ++ (ys.drop k).take (d + 1)) := fun d hd => by
    have hdl : ((ys.drop k).take d).length = d := by rw [List.length_take, List.length_drop]; omega
    refine .inr ⟨_, rfl, ?_, ?_, ?_⟩
    · rw [List.length_append, htl, hdl, h.j.num _ hd]
      omega
    · rw [List.length_append, htl, hdl]
      omega
    · rw [List.append_assoc]
      congr 1
      rw [List.take_add_one, List.getElem?_eq_getElem (by rw [List.length_drop]; omega), List.getElem_drop, getElem!_pos ys _ hd]
      rfl
  unfold joinRecs at hi ⊢
  unfold foldE
  rw [ht]
  by_cases g : ys[k]!.1 ≤ si + xs.length
  · rw [if_pos g] at hi ⊢
    rw [if_pos g, if_pos g]
    cases i with
    | zero =>
      refine .inl ⟨ys[k]!.1, rfl, by omega, ?_, ?_⟩
      · rw [if_pos rfl]; exact g
      · rw [if_pos rfl, if_neg (by omega), ht]
        simp
    | succ d =>
      rw [if_neg (by omega), if_neg (by omega)]
      simp only [List.length_append, List.length_singleton, List.length_map, List.length_drop] at hi
      have := ent d (by omega)
      have he : ([recX ys[k]!.1] ++ (ys.drop k).map recE)[d + 1]! = recE ys[k + d]! := by
        generalize recX ys[k]!.1 = r0
        rw [getElem!_pos _ _ (by simp only [List.length_append, List.length_singleton, List.length_map, List.length_drop]; omega), getElem!_pos ys _ (by omega)]
        simp
      rw [he]
      exact this
  · rw [if_neg g] at hi ⊢
    rw [if_neg g, if_neg g]
    simp only [List.nil_append, List.length_map, List.length_drop] at hi
    have := ent i (by omega)
    have he : ([] ++ (ys.drop k).map recE)[i]! = recE ys[k + i]! := by
      rw [List.nil_append, getElem!_pos _ _ (by rw [List.length_map, List.length_drop]; omega), getElem!_pos ys _ (by omega)]
      simp
    rw [he]
    exact this
theorem fold_zero {k m : Nat} (h : Hit si st index term xs ys k m) : foldE si xs ys k 0 = xs := by
  have hm := h.num
  have hmm := h.hm
  unfold foldE
  split
  · rfl
  · rw [show (ys[k]!.1 - si - 1).toNat = m by omega, List.take_of_length_le (by omega)]
    simp
theorem fold_last {k m : Nat} (h : Hit si st index term xs ys k m) : foldE si xs ys k (joinRecs (si + xs.length) ys k).length = xs.take m ++ ys.drop k := by
  have hm := h.num
  have hkk := h.hk
  unfold foldE joinRecs
  rw [show (ys[k]!.1 - si - 1).toNat = m by omega]
  split
  next g =>
    rw [if_neg (by simp)]
    congr 1
    rw [List.take_of_length_le]
    simp
  next g =>
    congr 1
    rw [List.take_of_length_le]
    simp
theorem fold_mem (k i : Nat) (y : Ent) (hy : y ∈ foldE si xs ys k i) : y ∈ xs ∨ y ∈ ys := by
  unfold foldE at hy
  split at hy
  · split at hy
    · exact .inl hy
    · rcases List.mem_append.1 hy with h | h
      · exact .inl (List.mem_of_mem_take h)
      · exact .inr (List.mem_of_mem_drop (List.mem_of_mem_take h))
  · rcases List.mem_append.1 hy with h | h
    · exact .inl (List.mem_of_mem_take h)
    · exact .inr (List.mem_of_mem_drop (List.mem_of_mem_take h))
theorem fold_len (k i : Nat) : (foldE si xs ys k i).length ≤ xs.length + ys.length := by
  unfold foldE
  split
  · split
    · omega
    · simp only [List.length_append, List.length_take, List.length_drop]; omega
  · simp only [List.length_append, List.length_take, List.length_drop]; omega
/-- What is done with the records. -/
structure Plan (si st index term : Int) (xs ys : List Ent) (rl : List Rec) (E : Nat → List Ent) : Prop where
  zero : E 0 = xs
  good : ∀ i, i < rl.length → Good si (E i) rl[i]! (E (i + 1))
  mem : ∀ i y, y ∈ E i → y ∈ xs ∨ y ∈ ys
  len : ∀ i, (E i).length ≤ xs.length + ys.length
  ok : JOk si st index term (E rl.length) ys
  no : ∀ j, j < ys.length → lacks si (termV si st (itX (E rl.length))) ys[j]! = false
  stays : ∀ j, j < xs.length → xs[j]!.1 ≤ index → j < (E rl.length).length ∧ (E rl.length)[j]! = xs[j]!
  small : rl.length ≤ 1001
  snap : ∀ r ∈ rl, r.2.2.2.2.2.1 = zSnap
  ent : ∀ r ∈ rl, r.2.2.2.1.2.2.2.2.1.length = 0 ∧ r.2.2.2.1.2.2.2.2.2.length = 0 ∨ r.2.2.2.1 ∈ ys
theorem plan_hit {k m : Nat} (h : Hit si st index term xs ys k m) (hx : xs.length ≤ 1000) (hy : ys.length ≤ 1000) : Plan si st index term xs ys (joinRecs (si + xs.length) ys k) (foldE si xs ys k) := by
  have hl := fold_last h
  refine ⟨fold_zero h, fun i hi => fold_good h hx hy i hi, fun i y hy => fold_mem k i y hy, fun i => fold_len k i, ?_, ?_, ?_, ?_, ?_, ?_⟩
  · rw [hl]; exact joined_ok h
  · rw [hl]; exact joined_no h
  · rw [hl]
    intro j hj hi
    have := joined_stays h j hj hi
    exact ⟨by rw [joinZ_length h]; omega, joinZ_low h j this⟩
  · unfold joinRecs
    rw [List.length_append, List.length_map, List.length_drop]
    split <;> simp <;> omega
  · intro r hr
    unfold joinRecs at hr
    rcases List.mem_append.1 hr with h | h
    · split at h
      · simp at h
        subst h
        rfl
      · simp at h
    · obtain ⟨y, hy, rfl⟩ := List.mem_map.1 h
      rfl
  · intro r hr
    unfold joinRecs at hr
    rcases List.mem_append.1 hr with h | h
    · split at h
      · simp at h
        subst h
        exact .inl ⟨rfl, rfl⟩
      · simp at h
    · obtain ⟨y, hy, rfl⟩ := List.mem_map.1 h
      exact .inr (List.mem_of_mem_drop hy)
theorem plan_none (h : JOk si st index term xs ys) (hn : ∀ j, j < ys.length → lacks si (termV si st (itX xs)) ys[j]! = false) : Plan si st index term xs ys [] (fun _ => xs) :=
  ⟨rfl, fun i hi => absurd hi (Nat.not_lt_zero _), fun _ _ hy => .inl hy, fun _ => by omega, h, hn, fun j hj _ => ⟨hj, rfl⟩, by simp, fun r hr => by simp at hr, fun r hr => by simp at hr⟩
end
end Go.Proofs.Ytpjachbmllklgaa.Rng
end
