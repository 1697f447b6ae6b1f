/- The reference's Council. -/
import Derived.Test.YtpjachbmllklgaaCouL
import Derived.Test.YtpjachbmllklgaaLgD
namespace Go.Proofs.Ytpjachbmllklgaa.Rng
open Go.RowKit Go.Proofs.YtpjachbmllklgaaW.PrintWords Go.Proofs.Ytpjachbmllklgaa.Kinds Go.Proofs.Ytpjachbmllklgaa.PCou
set_option linter.unusedVariables false
set_option linter.unusedSimpArgs false
attribute [local go_sem] Oper.semAt_some

theorem cell_heap {W : World} {g i : Nat} {cells : Array Value} {t : TypeId} {fr : Nat × Nat} {v : Value} (h : W.heap[g]? = some (.cells cells t fr)) (hi : cells[i]? = some v) : W.cell? ⟨g, i, none⟩ = some v := by
  simp only [World.cell?, h]
  exact hi
theorem size24 : (Try.prog.info? 24).map (·.size) = some 2 := by kernel_rfl
/-- A council that is read. -/
structure CR (w : World) (c : List Int × List Int) (VA : Option Addr) (vc : Nat) (LA : Option Addr) (lc : Nat) : Prop where
  Vc : c.1.length ≤ vc
  VC : (Kd.int .i64).C w VA c.1.length c.1
  Lc : c.2.length ≤ lc
  LC : (Kd.int .i64).C w LA c.2.length c.2
  Vb : c.1.length ≤ 1000000000
  Lb : c.2.length ≤ 1000000000
theorem results_cou1 {fn : Func} {p q : Tmp} (h : fn.results = #[.cell p 24, .tmp q]) (tmps : Array Value) (w : World) (g : Nat) (t1 : TypeId) (V L : Value) (y : Int)
    (hp : tmps[p]? = some (.pointer (some ⟨g, 0, none⟩))) (hq : tmps[q]? = some (.int .i64 y)) (hg : w.heap[g]? = some (.cells #[V, L] t1 (0, 0))) :
    (results fn tmps).run Try.prog w = .ok (.tuple #[.agg #[V, L], .int .i64 y]) w := by
  have hp' : tmps[p]?.getD undef = .pointer (some ⟨g, 0, none⟩) := by rw [hp]; rfl
  have hq' : tmps[q]?.getD undef = .int .i64 y := by rw [hq]; rfl
  have c1 : w.cell? ⟨g, 0, none⟩ = some V := by simp [World.cell?, hg]
  have c1' : w.cell? ⟨g, 1, none⟩ = some L := by simp [World.cell?, hg]
  simp [results, h, hp', hq', asAddr, go_sem, c1, c1']

set_option maxHeartbeats 2000000 in
set_option maxRecDepth 100000 in
theorem rcouncil_c (s : Sv) (x : Saved) (b off : Nat) (css : List (List Value)) (w : World) (hs : SK w s x) (h : LX w s.A b off css x.2.2.2.1) (hv : x.2.2.1.2.2.1.1.length ≤ 1000000) (hl : x.2.2.1.2.2.1.2.length ≤ 1000000)
    (hc : ∀ y ∈ x.2.2.2.1, y.2.2.2.2.1.length ≤ 1000000000 ∧ y.2.2.2.2.2.length ≤ 1000000000) (index : Int) :
    Calls Try.prog 19 #[.agg s.cells, .int .i64 index] w fun e w' => ∃ V L : Value, e = .returned (.tuple #[.agg #[V, L], .int .i64 (couX (sndX s x.2.2.2.1) index (sndC s x, (s.sound css).si) (sndX s x.2.2.2.1).length).2]) ∧
      (Kd.int .i64).R 3 w' w.heap.size (fun _ => True) V (couX (sndX s x.2.2.2.1) index (sndC s x, (s.sound css).si) (sndX s x.2.2.2.1).length).1.1 ∧ (Kd.int .i64).R 3 w' w.heap.size (fun _ => True) L (couX (sndX s x.2.2.2.1) index (sndC s x, (s.sound css).si) (sndX s x.2.2.2.1).length).1.2 ∧ Below w.heap.size w w' := by
  have e41 : ∀ args w, (callFunc 41 args).run Try.prog w = .ok (.enter 41 args) w := enters_of Try.func41 (by kernel_rfl) rfl
  have e47 : ∀ args w, (callFunc 47 args).run Try.prog w = .ok (.enter 47 args) w := enters_of Try.func47 (by kernel_rfl) rfl
  have hi30 : ∀ cells : Array Value, cells.size = 9 → (Try.prog.info? 30).map (·.size) = some cells.size := fun c hc => by rw [hc]; exact size30
  have hi24 : ∀ cells : Array Value, cells.size = 2 → (Try.prog.info? 24).map (·.size) = some cells.size := fun c hc => by rw [hc]; exact size24
  have hsl : s.n = css.length := by rw [h.len]; exact hs.n
  have CCw := sound_cc hs h
  have hvl : (sndC s x).1.length ≤ 1000000 ∧ (sndC s x).2.length ≤ 1000000 := by unfold sndC; split; exact ⟨hv, hl⟩; exact ⟨by simp, by simp⟩
  have hcs2 : ∀ y ∈ sndX s x.2.2.2.1, y.2.2.2.2.1.length ≤ 1000000000 ∧ y.2.2.2.2.2.length ≤ 1000000000 := fun y hy => hc y (sndX_mem hy)
  generalize sndC s x = sc at *
  have H := Aside0.mk h
  have HN := Aside0.mk hsl
  generalize hcv : couX (sndX s x.2.2.2.1) index (sc, (s.sound css).si) (sndX s x.2.2.2.1).length = cv
  have CV := Aside0.mk hcv
  have HCC := Aside0.mk CCw
  have HCB := Aside0.mk hcs2
  clear hcv CCw h hsl hs hv hl hc hcs2
  rw [cells_eq]
  go_enter Try.func19, Try.ntmps19
  go_wp2_with fail
  rw [← cells_eq]
  have q0 : Below w.heap.size w ((w.alloc (.cells s.cells 30)).alloc (.cells #[.slice none 0 0, .slice none 0 0] 24)) := ((Below.refl _ w).alloc (Nat.le_refl _) _).alloc (by simp) _
  have hs0 : ((w.alloc (.cells s.cells 30)).alloc (.cells #[.slice none 0 0, .slice none 0 0] 24)).heap.size = w.heap.size + 2 := by simp
  have hbox := blk_alloc (blk_new w (.cells s.cells 30)) (.cells #[.slice none 0 0, .slice none 0 0] 24)
  have hres := blk_new (w.alloc (.cells s.cells 30)) (.cells #[.slice none 0 0, .slice none 0 0] 24)
  rw [World.size_alloc] at hres
  generalize ((w.alloc (.cells s.cells 30)).alloc (.cells #[.slice none 0 0, .slice none 0 0] 24)) = W0 at q0 hs0 hbox hres ⊢
  have hL0 := H.out.below q0
  have CA := Aside0.mk (asked_c s b off css W0 (hL0.lg HN.out))
  go_wp2_with (refine wpList_load_row rfl 30 (.tmp 2) rfl w.heap.size rfl 30 _ (0, 0) _ hbox Try.underlying30 rfl (hi30 _ rfl) ?_)
  refine CA.out.mono ?_
  rintro e w2 ⟨rfl, hb2⟩
  have hbox2 := (hb2.block w.heap.size (by omega)).trans hbox
  have hres2 := (hb2.block (w.heap.size + 1) (by omega)).trans hres
  have hsz2 : w.heap.size + 2 ≤ w2.heap.size := by have := hb2.size; omega
  have q2 : Below w.heap.size w w2 := q0.trans (hb2.mono q0.size)
  have HL : Aside0 (∀ W, Below w.heap.size w W → LX W (s.sound css).A b off (soundE s css) (sndX s x.2.2.2.1)) := ⟨fun W hW => (H.out.below hW).sound⟩
  have hn2 : (s.sound css).n = (soundE s css).length := ((hL0.lg HN.out).sound).n
  have hly : (soundE s css).length = (sndX s x.2.2.2.1).length := (HL.out w (Below.refl _ _)).len
  have hsm : (soundE s css).length ≤ 1000000 := (HL.out w (Below.refl _ _)).small
  rw [← hly] at CV
  generalize s.sound css = s2 at *
  generalize soundE s css = css2 at *
  generalize sndX s x.2.2.2.1 = ys at *
  clear hL0 H HN CA hb2 q0 hbox hres hs0 hly
  have hcc := cells_eq s2
  rw [hcc]
  have HN2 := Aside0.mk hn2
  clear hn2
  go_wp2_with (refine wpList_store_box rfl 30 (.tmp 2) (.tmp 11) rfl w.heap.size _ _ 30 rfl rfl hbox2 (hi30 _ rfl) rfl (by simp [Value.oneCell']) ?_)
  intro W3 hg3 ho3 hb3 hs3
  have q3 : Below w.heap.size w W3 := q2.trans hb3
  have hres3 := (ho3 (w.heap.size + 1) (by omega)).trans hres2
  have hs3' : w.heap.size + 2 ≤ W3.heap.size := by omega
  have hcc2 := HCC.out
  have n1 := hcc2.Vn
  have n2 := hcc2.Ln
  have c2 : W3.cell? ⟨w.heap.size, 2, none⟩ = some (.int .i64 s2.si) := by simp [World.cell?, hg3]
  have c4 : W3.cell? ⟨w.heap.size, 4, none⟩ = some (.slice s2.Va sc.1.length s2.Vc) := by rw [← n1]; simp [World.cell?, hg3]
  have c5 : W3.cell? ⟨w.heap.size, 5, none⟩ = some (.slice s2.La sc.2.length s2.Lc) := by rw [← n2]; simp [World.cell?, hg3]
  have CR0 : CR w sc s2.Va s2.Vc s2.La s2.Lc := ⟨hcc2.Vc, hcc2.VC, hcc2.Lc, hcc2.LC, by omega, by omega⟩
  have HCR := Aside0.mk CR0
  have K3 := Aside0.mk hg3
  have N1 := Aside0.mk n1
  have N2 := Aside0.mk n2
  clear CR0 hcc2 n1 n2 HCC hvl ho3 hb3 hs3 hsz2 q2 hbox2 hres2 hcc w2 hg3
  generalize hnv : sc.1.length = nv at *
  generalize hnl : sc.2.length = nl at *
  have NV := Aside0.mk hnv
  have NL := Aside0.mk hnl
  clear hnv hnl
  have k4 := blk_alloc K3.out (.cells #[.slice s2.Va nv s2.Vc, .slice s2.La nl s2.Lc] 24)
  have d2 : (W3.alloc (.cells #[.slice s2.Va nv s2.Vc, .slice s2.La nl s2.Lc] 24)).cell? ⟨w.heap.size, 2, none⟩ = some (.int .i64 s2.si) := by simp [World.cell?, k4]
  have q4 : Below w.heap.size w (W3.alloc (.cells #[.slice s2.Va nv s2.Vc, .slice s2.La nl s2.Lc] 24)) := q3.trans (((Below.refl _ W3).alloc (Nat.le_refl _) _).mono (by omega))
  have r4 := blk_alloc hres3 (.cells #[.slice s2.Va nv s2.Vc, .slice s2.La nl s2.Lc] 24)
  have b4 := blk_new W3 (.cells #[.slice s2.Va nv s2.Vc, .slice s2.La nl s2.Lc] 24)
  go_wp2_with fail
  generalize (W3.alloc (.cells #[.slice s2.Va nv s2.Vc, .slice s2.La nl s2.Lc] 24)) = w4 at k4 q4 r4 b4 d2 ⊢
  generalize hg6 : W3.heap.size = g6 at *
  clear q3 hres3 c2 c4 c5 K3 hg6 W3
  obtain ⟨bxc, hbxc⟩ : ∃ c, (#[.int .i64 s2.t, .int .i64 s2.v, .int .i64 s2.si, .int .i64 s2.st, .slice s2.Va s2.Vn s2.Vc, .slice s2.La s2.Ln s2.Lc, .string s2.d, .slice s2.A s2.n s2.cap, .slice s2.Ga s2.Gn s2.Gc] : Array Value) = c := ⟨_, rfl⟩
  rw [hbxc] at k4
  have BXC := Aside0.mk hbxc
  have K4 := Aside0.mk k4
  have Q4 := Aside0.mk q4
  have R4 := Aside0.mk r4
  have B4 := Aside0.mk b4
  clear hbxc k4 q4 r4 b4 d2
  generalize hnc : css2.length = n at *
  have NC := Aside0.mk hnc
  clear hnc
  generalize hz : ((sc, s2.si) : (List Int × List Int) × Int) = z at *
  have HZ := Aside0.mk hz
  clear hz
  have HG6 : w.heap.size ≤ g6 := by omega
  go_loopg [7, 8] n (fun gg s7 s8 wr => ∃ kk : Nat, kk ≤ n ∧ n - kk ≤ gg ∧ s8 = .int .i64 kk ∧ s7 = .int .i64 (couX ys index z kk).2 ∧ Aside (Below w.heap.size w wr) ∧ Aside (wr.heap[w.heap.size]? = some (.cells bxc 30 (0, 0))) ∧ Aside (wr.heap[w.heap.size + 1]? = some (.cells #[.slice none 0 0, .slice none 0 0] 24 (0, 0))) ∧
    ∃ (Av : Option Addr) (vc : Nat) (Al : Option Addr) (lc : Nat), Aside (wr.heap[g6]? = some (.cells #[.slice Av (couX ys index z kk).1.1.length vc, .slice Al (couX ys index z kk).1.2.length lc] 24 (0, 0))) ∧ Aside (CR w (couX ys index z kk).1 Av vc Al lc))
  case atStart =>
    refine ⟨0, by omega, by omega, rfl, ?_, Q4.out, K4.out, R4.out, s2.Va, s2.Vc, s2.La, s2.Lc, (show Aside _ from ?_), (show Aside _ from ?_)⟩
    · show Value.int .i64 s2.si = .int .i64 z.2
      rw [← HZ.out]
    · show w4.heap[g6]? = some (.cells #[.slice s2.Va z.1.1.length s2.Vc, .slice s2.La z.1.2.length s2.Lc] 24 (0, 0))
      rw [← HZ.out, NV.out, NL.out]
      exact B4.out
    · show CR w z.1 _ _ _ _
      rw [← HZ.out]
      exact HCR.out
  clear HCR Q4 K4 R4 B4
  case round =>
    obtain ⟨kk, hk, hgg, rfl, rfl, B, K, R, Av, vc, Al, lc, G, C⟩ := hrel
    have kr : wr.heap[w.heap.size]? = some (.cells #[.int .i64 s2.t, .int .i64 s2.v, .int .i64 s2.si, .int .i64 s2.st, .slice s2.Va s2.Vn s2.Vc, .slice s2.La s2.Ln s2.Lc, .string s2.d, .slice s2.A s2.n s2.cap, .slice s2.Ga s2.Gn s2.Gc] 30 (0, 0)) := by rw [BXC.out]; exact K.out
    have c7 : wr.cell? ⟨w.heap.size, 7, none⟩ = some (.slice s2.A n s2.cap) := by rw [← HN2.out]; simp [World.cell?, kr]
    by_cases hlt : kk < n
    · have hltz : (kk : Int) < (n : Int) := by omega
      have hk1 : kk < css2.length := by rw [NC.out]; exact hlt
      have hL := HL.out wr B.out
      have hA := hL.A (by omega)
      have hrg := hL.row kk hk1
      have hE := (hL.isE kk hk1).1
      obtain ⟨h32, A1, c1, B1, d1, hcs1, p1, p2, p3, p4⟩ := ent_parts ((HL.out w (Below.refl _ _)).K kk hk1)
      have hcb := HCB.out _ (hL.mem kk hk1)
      have hcx : couX ys index z (kk + 1) = if ys[kk]!.2.2.1 = 3 ∧ ys[kk]!.1 ≤ index then (ys[kk]!.2.2.2.2, ys[kk]!.1) else couX ys index z kk := rfl
      have HCX := Aside0.mk hcx
      clear hL hcx
      generalize ys[kk]! = xm at *
      generalize css2[kk]! = cs at *
      have hl41 := entHd_length xm h32
      have e0 : cs[0]? = some (.int .i64 xm.1) := by rw [hcs1]; rfl
      have e2 : cs[2]? = some (.int .i64 xm.2.2.1) := by rw [hcs1]; rfl
      have e41 : cs[41]? = some (.slice A1 xm.2.2.2.2.1.length c1) := by rw [hcs1, List.getElem?_append_right (by omega), hl41]; rfl
      have e42 : cs[42]? = some (.slice B1 xm.2.2.2.2.2.length d1) := by rw [hcs1, List.getElem?_append_right (by omega), hl41]; rfl
      have CE := Aside0.mk (CR.mk (w := w) (c := xm.2.2.2.2) p1 p2 p3 p4 hcb.1 hcb.2)
      have hi59 : (Try.prog.info? 59).map (·.size) = some cs.length := by rw [hE.len]; exact size59
      have hi59' : (Try.prog.info? 59).map (·.size) = some cs.toArray.size := by rw [List.size_toArray, hE.len]; exact size59
      have h1c := all_one hE.one
      have hlen0 : cs.length = 43 := hE.len
      have hnew := blk_new wr (.cells cs.toArray 59)
      have g0 : (wr.alloc (.cells cs.toArray 59)).cell? ⟨wr.heap.size, 0, none⟩ = some (.int .i64 xm.1) := cell_heap hnew (by simpa using e0)
      have g2 : (wr.alloc (.cells cs.toArray 59)).cell? ⟨wr.heap.size, 2, none⟩ = some (.int .i64 xm.2.2.1) := cell_heap hnew (by simpa using e2)
      have g41 : (wr.alloc (.cells cs.toArray 59)).cell? ⟨wr.heap.size, 41, none⟩ = some (.slice A1 xm.2.2.2.2.1.length c1) := cell_heap hnew (by simpa using e41)
      have g42 : (wr.alloc (.cells cs.toArray 59)).cell? ⟨wr.heap.size, 42, none⟩ = some (.slice B1 xm.2.2.2.2.2.length d1) := cell_heap hnew (by simpa using e42)
      have qe : Below w.heap.size w (wr.alloc (.cells cs.toArray 59)) := B.out.alloc B.out.size _
      have ke := Aside0.mk (blk_alloc K.out (.cells cs.toArray 59))
      have re := Aside0.mk (blk_alloc R.out (.cells cs.toArray 59))
      have ge := Aside0.mk (blk_alloc G.out (.cells cs.toArray 59))
      have gel := (Array.getElem?_eq_some_iff.1 G.out).1
      have HNEW := Aside0.mk hnew
      have E0 := Aside0.mk e0
      rw [hA] at c7
      clear hE hcs1 h32 hl41 p1 p2 p3 p4 hcb hnew e0 e2 e41 e42 hA kr
      by_cases h3 : xm.2.2.1 = 3
      · by_cases h4 : xm.1 ≤ index
        · have hcx := HCX.out
          rw [if_pos ⟨h3, h4⟩] at hcx
          have HC2 := Aside0.mk hcx
          rw [h3] at g2
          clear HCX hcx h3
          have hg6b : g6 < wr.heap.size := gel
          have gef := ge.out
          generalize hv1 : xm.2.2.2.2.1.length = v1 at *
          generalize hl1 : xm.2.2.2.2.2.length = l1 at *
          have HV1 := Aside0.mk hv1
          have HL1 := Aside0.mk hl1
          clear hv1 hl1
          go_wp2_with (first | (refine wpList_load_mid rfl 59 (.tmp 28) rfl b (off + kk * 43) rfl cs _ hrg Try.underlying59 rfl hi59 ?_) | (refine wpList_store_new rfl 59 (.tmp 9) (.tmp 29) rfl cs.toArray _ 59 rfl rfl hi59' ?hold h1c ?_) | (refine wpList_store_box rfl 24 (.tmp 6) (.tmp 40) rfl g6 _ _ 24 rfl rfl gef (hi24 _ rfl) rfl (by simp [Value.oneCell']) ?_))
          case hold => simp [hlen0]
          intro W9 hg9 ho9 hb9 hs9
          have ve9 := (ho9 wr.heap.size (by omega)).trans HNEW.out
          have d0 : W9.cell? ⟨wr.heap.size, 0, none⟩ = some (.int .i64 xm.1) := cell_heap ve9 (by simpa using E0.out)
          have q9 := Aside0.mk (qe.trans (hb9.mono HG6))
          have k9 := Aside0.mk ((ho9 w.heap.size (by omega)).trans ke.out)
          have r9 := Aside0.mk ((ho9 (w.heap.size + 1) (by omega)).trans re.out)
          have G9 := Aside0.mk hg9
          clear ho9 hb9 hs9 hg9 ve9
          go_wp2_with fail
          go_roundg (n - (kk + 1))
          case measure => omega
          case rel =>
            refine ⟨kk + 1, by omega, by omega, by go_num, by rw [HC2.out], q9.out, k9.out, r9.out, A1, c1, B1, d1, (show Aside _ from ?_), (show Aside _ from ?_)⟩
            · rw [HC2.out, HV1.out, HL1.out]; exact G9.out
            · rw [HC2.out]; exact CE.out
        · have hcx := HCX.out
          rw [if_neg (fun g => h4 g.2)] at hcx
          have HC2 := Aside0.mk hcx
          clear HCX hcx
          go_wp2_with (first | (refine wpList_load_mid rfl 59 (.tmp 28) rfl b (off + kk * 43) rfl cs _ hrg Try.underlying59 rfl hi59 ?_) | (refine wpList_store_new rfl 59 (.tmp 9) (.tmp 29) rfl cs.toArray _ 59 rfl rfl hi59' ?hold h1c ?_))
          go_roundg (n - (kk + 1))
          case measure => omega
          case rel =>
            refine ⟨kk + 1, by omega, by omega, by go_num, by rw [HC2.out], qe, ke.out, re.out, Av, vc, Al, lc, (show Aside _ from ?_), (show Aside _ from ?_)⟩
            · rw [HC2.out]; exact ge.out
            · rw [HC2.out]; exact C.out
      · have hcx := HCX.out
        rw [if_neg (fun g => h3 g.1)] at hcx
        have HC2 := Aside0.mk hcx
        clear HCX hcx
        go_wp2_with (first | (refine wpList_load_mid rfl 59 (.tmp 28) rfl b (off + kk * 43) rfl cs _ hrg Try.underlying59 rfl hi59 ?_) | (refine wpList_store_new rfl 59 (.tmp 9) (.tmp 29) rfl cs.toArray _ 59 rfl rfl hi59' ?hold h1c ?_))
        go_roundg (n - (kk + 1))
        case measure => omega
        case rel =>
          refine ⟨kk + 1, by omega, by omega, by go_num, by rw [HC2.out], qe, ke.out, re.out, Av, vc, Al, lc, (show Aside _ from ?_), (show Aside _ from ?_)⟩
          · rw [HC2.out]; exact ge.out
          · rw [HC2.out]; exact C.out
    · have hltz : ¬ (kk : Int) < (n : Int) := by omega
      obtain rfl : kk = n := by omega
      have G2 := G.out
      have C2 := C.out
      rw [CV.out] at G2 C2 ⊢
      have CC2 := Aside0.mk C2
      have H47 := Aside0.mk (r08_OwnCouncil.calls Av vc cv.1.1 Al lc cv.1.2 cv.1.1 cv.1.2 wr (Kd.C_below C2.VC B.out) C2.Vc (Kd.C_below C2.LC B.out) C2.Lc (by unfold r08_OwnCouncil.f r08_numbers.f; rw [if_pos (by have := C2.Vb; simp; omega), if_pos (by have := C2.Lb; simp; omega)]; rfl))
      have hlr : w.heap.size + 1 < wr.heap.size := (Array.getElem?_eq_some_iff.1 R.out).1
      generalize hv1 : cv.1.1.length = v1 at *
      generalize hl1 : cv.1.2.length = l1 at *
      obtain ⟨⟨cva, cvb⟩, cat⟩ := cv
      dsimp only at *
      clear G C C2 K kr hgg hlt hv1 hl1
      go_wp2_with (refine wpList_load_row rfl 24 (.tmp 6) rfl g6 rfl 24 _ (0, 0) _ G2 Try.underlying24 rfl (hi24 _ rfl) ?_)
      refine H47.out.mono ?_
      rintro e w9 ⟨V, L, rfl, hV, hL, hb⟩
      have r9 := (hb.block _ hlr).trans R.out
      have q9 := Aside0.mk (B.out.trans (hb.mono B.out.size))
      have hV2 : (Kd.int .i64).R 3 w9 wr.heap.size (fun _ => True) V cva := Kd.R_mono hV (fun _ _ => trivial)
      have hL2 : (Kd.int .i64).R 3 w9 wr.heap.size (fun _ => True) L cvb := Kd.R_mono hL (fun _ _ => trivial)
      obtain ⟨A9, c9, rfl⟩ := Kd.R_slice hV2
      obtain ⟨B9, d9, rfl⟩ := Kd.R_slice hL2
      have HV := Aside0.mk hV2
      have HLx := Aside0.mk hL2
      have qs := B.out.size
      clear H47 hV hL hV2 hL2 hb G2 R
      generalize cva.length = va at *
      generalize cvb.length = vb at *
      go_wp2_with (refine wpList_store_box rfl 24 (.tmp 4) (.tmp 44) rfl (w.heap.size + 1) _ _ 24 rfl rfl r9 (hi24 _ rfl) rfl (by simp [Value.oneCell']) ?_)
      intro WA hga hoa hba hsa
      have HGA := Aside0.mk hga
      have qa := Aside0.mk (q9.out.trans (hba.mono (by omega)))
      have mv : ∀ {u : Value} {ys : List Int}, (Kd.int .i64).R 3 w9 wr.heap.size (fun _ => True) u ys → (Kd.int .i64).R 3 WA w.heap.size (fun _ => True) u ys := fun hR =>
        Kd.R_mono (Kd.R_lower (Kd.R_step (Kd.R_bound hR) (fun k hk _ => hoa k (by have := hk.2.1; omega))) qs) (fun _ _ => trivial)
      have MV := Aside0.mk (mv HV.out)
      have ML := Aside0.mk (mv HLx.out)
      clear hga hoa hba hsa mv HV HLx
      go_wp2_with fail
      refine bodyPost_ret (results_cou1 rfl _ _ (w.heap.size + 1) 24 _ _ cat rfl rfl HGA.out) rfl ?_
      exact ⟨_, _, rfl, MV.out, ML.out, qa.out⟩
end Go.Proofs.Ytpjachbmllklgaa.Rng
