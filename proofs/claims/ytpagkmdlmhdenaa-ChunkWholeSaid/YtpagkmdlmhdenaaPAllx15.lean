-- Written by a program of the session.
import Derived.Test.YtpagkmdlmhdenaaAlAll
import Derived.Test.YtpagkmdlmhdenaaPAllx0
import Derived.Test.YtpagkmdlmhdenaaPAllx13
import Derived.Test.YtpagkmdlmhdenaaPAllx14
namespace Go.Proofs.Ytpagkmdlmhdenaa.PAll
open Go.RowKit Go.Proofs.YtpagkmdlmhdenaaW.PrintWords Go.Proofs.YtpagkmdlmhdenaaW.PrintLast Go.Proofs.YtpagkmdlmhdenaaW.PrintMore
attribute [local go_sem] max2_int min2_int max_two min_two max_three min_three max_four min_four   -- for this text's walks alone
set_option linter.unusedVariables false
set_option linter.unusedSimpArgs false
/-! ### chunk_Check: function 17 -/
mutual
def chunk_Check.j0 : Nat → Bool → Int → Int → Int → Int → List Int → List Int → Int → ByteArray → Bool → Option (Int)
 | 0,_,_,_,_,_,_,_,_,_,_ => none
 | k + 1,x3,ax,ay,az,aA,aB,aC,al,am,av => if x3 = true then (if al ≤ 65536 then (chunk_Check.j1 k (decide ((wrap64 (al - (am.size : Int))) ≥ 0)) (wrap64 (al - (am.size : Int))) ax ay az aA aB aC al am av) else (chunk_Check.j1 k false (wrap64 (al - (am.size : Int))) ax ay az aA aB aC al am av)) else (chunk_Check.j1 k false (wrap64 (al - (am.size : Int))) ax ay az aA aB aC al am av)
def chunk_Check.j1 : Nat → Bool → Int → Int → Int → Int → Int → List Int → List Int → Int → ByteArray → Bool → Option (Int)
 | 0,_,_,_,_,_,_,_,_,_,_,_ => none
 | k + 1,x3,x4,ax,ay,az,aA,aB,aC,al,am,av => if x4 > 0 then (if x3 = true then (if av = true then (chunk_Check.j2 k (((am.size : Int) % 96) == 0) ax ay az aA aB aC al am av) else (chunk_Check.j2 k false ax ay az aA aB aC al am av)) else (chunk_Check.j2 k false ax ay az aA aB aC al am av)) else (if al > 0 then (if x3 = true then (chunk_Check.j2 k (!av) ax ay az aA aB aC al am av) else (chunk_Check.j2 k false ax ay az aA aB aC al am av)) else (chunk_Check.j2 k x3 ax ay az aA aB aC al am av))
def chunk_Check.j2 : Nat → Bool → Int → Int → Int → Int → List Int → List Int → Int → ByteArray → Bool → Option (Int)
 | 0,_,_,_,_,_,_,_,_,_,_ => none
 | k + 1,x3,ax,ay,az,aA,aB,aC,al,am,av => if x3 = true then (if al < 0 then (some 150) else (some 0)) else (some 150)
end
def chunk_Check.f (k : Nat) (ad : Int) (ah : Int) (ag : Int) (af : Int) (ai : List Int) (aj : List Int) (ac : Int) (ae : ByteArray) (ak : Bool) : Option (Int) := (chunk_none.f ad ah ag af ai aj ac ae ak).bind fun aM => (if aM = true then (some 0) else ((chunk_within.f ad 7).bind fun aF => (if aF = true then ((chunk_within.f ah 900000000).bind fun aE => (if aE = true then ((chunk_within.f ag 900000000).bind fun aD => (if aD = true then ((chunk_within.f af 900000000).bind fun aw => (chunk_Check.j0 k aw ad ah ag af ai aj ac ae ak)) else (chunk_Check.j0 k false ad ah ag af ai aj ac ae ak))) else (chunk_Check.j0 k false ad ah ag af ai aj ac ae ak))) else (chunk_Check.j0 k false ad ah ag af ai aj ac ae ak))))
set_option maxHeartbeats 8000000 in
set_option maxRecDepth 100000 in
theorem chunk_Check.calls (k : Nat) (ad : Int) (ah : Int) (ag : Int) (af : Int) (an : Option Addr) (ao : Nat) (ai : List Int) (ap : Option Addr) (aq : Nat) (aj : List Int) (ac : Int) (ae : ByteArray) (ak : Bool) (r : Int) (w : World) (eo : Kd.C (Kd.int .i64) w an ai.length ai) (ep : ai.length ≤ ao) (er : Kd.C (Kd.int .i64) w ap aj.length aj) (es : aj.length ≤ aq) (h : chunk_Check.f k ad ah ag af ai aj ac ae ak = some r) :
 Calls Try.prog 17 #[.agg #[.int .i64 ad,.int .i64 ah,.int .i64 ag,.int .i64 af,.slice an ai.length ao,.slice ap aj.length aq,.int .i64 ac,.string ae,.bool ak]] w fun e w' => e = .returned (.int .i64 r) ∧ Below w.heap.size w w' := by
 have hu34 := Try.underlying34
 have et := zzk eo
 have eu := zzk ep
 clear eo ep
 have ev := zzk er
 have ew := zzk es
 clear er es
 have HB := zzk (Below.refl w.heap.size w)
 have H : ((chunk_none.f ad ah ag af ai aj ac ae ak).bind fun aM => (if aM = true then (some 0) else ((chunk_within.f ad 7).bind fun aF => (if aF = true then ((chunk_within.f ah 900000000).bind fun aE => (if aE = true then ((chunk_within.f ag 900000000).bind fun aD => (if aD = true then ((chunk_within.f af 900000000).bind fun aw => (chunk_Check.j0 k aw ad ah ag af ai aj ac ae ak)) else (chunk_Check.j0 k false ad ah ag af ai aj ac ae ak))) else (chunk_Check.j0 k false ad ah ag af ai aj ac ae ak))) else (chunk_Check.j0 k false ad ah ag af ai aj ac ae ak))))) = some r := h
 clear h
 replace H := Option.bind_eq_some_iff.mp H
 obtain ⟨aM,gA,H⟩ := H
 replace H : (if aM = true then (some 0) else ((chunk_within.f ad 7).bind fun aF => (if aF = true then ((chunk_within.f ah 900000000).bind fun aE => (if aE = true then ((chunk_within.f ag 900000000).bind fun aD => (if aD = true then ((chunk_within.f af 900000000).bind fun aw => (chunk_Check.j0 k aw ad ah ag af ai aj ac ae ak)) else (chunk_Check.j0 k false ad ah ag af ai aj ac ae ak))) else (chunk_Check.j0 k false ad ah ag af ai aj ac ae ak))) else (chunk_Check.j0 k false ad ah ag af ai aj ac ae ak)))) = some r := H
 have A2 := zzk gA
 clear gA
 by_cases c3 : aM = true
 ·
  subst c3
  have H1 : (some 0) = some r := by rw [if_pos rfl] at H; exact H
  clear H
  have H := H1
  clear H1
  obtain rfl := zzu H
  go_enter Try.func17,Try.ntmps17
  go_wp2_with (first | ((with_reducible refine Zy (N := 1) rfl ?_); (try (refine Zz (by rfl) ?_; dsimp only)); refine zzc ?hg (N := 1) ?hd (cs := #[.int .i64 ad,.int .i64 ah,.int .i64 ag,.int .i64 af,.slice an ai.length ao,.slice ap aj.length aq,.int .i64 ac,.string ae,.bool ak]) (t := 34) ?hr ?_; (case hd => rfl); (case hg => rfl); (case hr => first | (go_simp; done) | (go_simp; rfl)); intro ab hg w4 hbox hb; have aH := zzk (Zs (by repeat (first | (with_reducible first | exact HB.out | apply Zq | apply Zp | apply Zo) | exact HB.out)) hb); have aI := zzk (hbox); have eh := zzk ((by rw [hg]; exact (Zr (by repeat (first | (with_reducible first | exact HB.out | apply Zq | apply Zp | apply Zo) | exact HB.out))) : w.heap.size ≤ ab)); have ei := zzk ((by rw [hg]; exact (Zr (by repeat (first | (with_reducible first | exact HB.out | apply Zq | apply Zp | apply Zo) | exact HB.out))) : w.heap.size ≤ ab)); clear HB; have HB := aH; have aa := aI; have gy := eh; have au := ei; clear aH aI eh ei; clear hb hbox hg; have cl : w4.cell? ⟨ab,0,none⟩ = some (.int .i64 ad) := (zi aa.out 0).trans rfl; have cm : w4.cell? ⟨ab,1,none⟩ = some (.int .i64 ah) := (zi aa.out 1).trans rfl; have cn : w4.cell? ⟨ab,2,none⟩ = some (.int .i64 ag) := (zi aa.out 2).trans rfl; have co : w4.cell? ⟨ab,3,none⟩ = some (.int .i64 af) := (zi aa.out 3).trans rfl; have cp : w4.cell? ⟨ab,4,none⟩ = some (.slice an ai.length ao) := (zi aa.out 4).trans rfl; have cq : w4.cell? ⟨ab,5,none⟩ = some (.slice ap aj.length aq) := (zi aa.out 5).trans rfl; have cr : w4.cell? ⟨ab,6,none⟩ = some (.int .i64 ac) := (zi aa.out 6).trans rfl; have ct : w4.cell? ⟨ab,7,none⟩ = some (.string ae) := (zi aa.out 7).trans rfl; have cu : w4.cell? ⟨ab,8,none⟩ = some (.bool ak) := (zi aa.out 8).trans rfl; have cv := zm aa.out 0; have cw := zm aa.out 1; have cx := zm aa.out 2; have cy := zm aa.out 3; have cz := zm aa.out 4; have cA := zm aa.out 5; have cB := zm aa.out 6; have cC := zm aa.out 7; have cD := zm aa.out 8) | ((with_reducible refine zza (f := 35) rfl ?_); refine zzd (some 6) rfl rfl Try.func35 (by kernel_rfl) rfl #[.agg #[.int .i64 ad,.int .i64 ah,.int .i64 ag,.int .i64 af,.slice an ai.length ao,.slice ap aj.length aq,.int .i64 ac,.string ae,.bool ak]] rfl (by (try simp only [zd,ze,zf]); first | done | rfl | (simp only [zg,zh]; rfl)) ?_; (with_reducible refine (chunk_none.calls ad ah ag af _ _ ai _ _ aj ac ae ak true _ ?side1 ?side2 ?side3 ?side4 A2.out).mono ?_); (case side1 => repeat (first | exact (Zm et.out HB.out) | (with_reducible refine Zk ?_ _) | (with_reducible refine Zj ?_ _) | (with_reducible refine Zl ?_))); (case side2 => exact eu.out); (case side3 => repeat (first | exact (Zm ev.out HB.out) | (with_reducible refine Zk ?_ _) | (with_reducible refine Zj ?_ _) | (with_reducible refine Zl ?_))); (case side4 => exact ew.out); rintro e w6 ⟨rfl,hb⟩; refine ⟨_,rfl,?_⟩; have aH := zzk (zo (g := ab) (o := .cells #[.int .i64 ad,.int .i64 ah,.int .i64 ag,.int .i64 af,.slice an ai.length ao,.slice ap aj.length aq,.int .i64 ac,.string ae,.bool ak] 34 (0,0)) (by (with_reducible repeat (first | refine zj ?_ _ | refine zl ?_ | refine zk ?_ _)); exact aa.out) hb); have aI := zzk (Zs (by repeat (first | (with_reducible first | exact HB.out | apply Zq | apply Zp | apply Zo | refine Zn ?_ au.out) | exact HB.out)) hb); clear aa; clear HB; have aa := aH; have HB := aI; clear aH aI; (try clear hb); (try clear hb2); (try clear hk); (try clear hi)))
  go_ret
  exact ⟨by first | rfl | (simp [zzl,zzm] <;> rfl) | (simp [*,zzl,zzm] <;> rfl),by repeat (first | (with_reducible first | exact HB.out | apply Zq | apply Zp | apply Zo | refine Zn ?_ au.out) | exact HB.out)⟩
 ·
  replace c3 := Bool.eq_false_iff.mpr c3
  subst c3
  have H1 : ((chunk_within.f ad 7).bind fun aF => (if aF = true then ((chunk_within.f ah 900000000).bind fun aE => (if aE = true then ((chunk_within.f ag 900000000).bind fun aD => (if aD = true then ((chunk_within.f af 900000000).bind fun aw => (chunk_Check.j0 k aw ad ah ag af ai aj ac ae ak)) else (chunk_Check.j0 k false ad ah ag af ai aj ac ae ak))) else (chunk_Check.j0 k false ad ah ag af ai aj ac ae ak))) else (chunk_Check.j0 k false ad ah ag af ai aj ac ae ak))) = some r := by rw [if_neg (show ¬ (false = true) by decide)] at H; exact H
  clear H
  have H := H1
  clear H1
  have gr := zzk H
  clear H
  go_enter Try.func17,Try.ntmps17
  go_upto_region 3 with (first | ((with_reducible refine Zy (N := 1) rfl ?_); (try (refine Zz (by rfl) ?_; dsimp only)); refine zzc ?hg (N := 1) ?hd (cs := #[.int .i64 ad,.int .i64 ah,.int .i64 ag,.int .i64 af,.slice an ai.length ao,.slice ap aj.length aq,.int .i64 ac,.string ae,.bool ak]) (t := 34) ?hr ?_; (case hd => rfl); (case hg => rfl); (case hr => first | (go_simp; done) | (go_simp; rfl)); intro ab hg w8 hbox hb; have aH := zzk (Zs (by repeat (first | (with_reducible first | exact HB.out | apply Zq | apply Zp | apply Zo) | exact HB.out)) hb); have aI := zzk (hbox); have eh := zzk ((by rw [hg]; exact (Zr (by repeat (first | (with_reducible first | exact HB.out | apply Zq | apply Zp | apply Zo) | exact HB.out))) : w.heap.size ≤ ab)); have ei := zzk ((by rw [hg]; exact (Zr (by repeat (first | (with_reducible first | exact HB.out | apply Zq | apply Zp | apply Zo) | exact HB.out))) : w.heap.size ≤ ab)); clear HB; have HB := aH; have aa := aI; have gy := eh; have au := ei; clear aH aI eh ei; clear hb hbox hg; have cE : w8.cell? ⟨ab,0,none⟩ = some (.int .i64 ad) := (zi aa.out 0).trans rfl; have cF : w8.cell? ⟨ab,1,none⟩ = some (.int .i64 ah) := (zi aa.out 1).trans rfl; have cG : w8.cell? ⟨ab,2,none⟩ = some (.int .i64 ag) := (zi aa.out 2).trans rfl; have cH : w8.cell? ⟨ab,3,none⟩ = some (.int .i64 af) := (zi aa.out 3).trans rfl; have cI : w8.cell? ⟨ab,4,none⟩ = some (.slice an ai.length ao) := (zi aa.out 4).trans rfl; have cJ : w8.cell? ⟨ab,5,none⟩ = some (.slice ap aj.length aq) := (zi aa.out 5).trans rfl; have cK : w8.cell? ⟨ab,6,none⟩ = some (.int .i64 ac) := (zi aa.out 6).trans rfl; have cL : w8.cell? ⟨ab,7,none⟩ = some (.string ae) := (zi aa.out 7).trans rfl; have cM : w8.cell? ⟨ab,8,none⟩ = some (.bool ak) := (zi aa.out 8).trans rfl; have cN := zm aa.out 0; have cO := zm aa.out 1; have cP := zm aa.out 2; have cQ := zm aa.out 3; have cR := zm aa.out 4; have cS := zm aa.out 5; have cT := zm aa.out 6; have cU := zm aa.out 7; have cV := zm aa.out 8) | ((with_reducible refine zza (f := 35) rfl ?_); refine zzd (some 6) rfl rfl Try.func35 (by kernel_rfl) rfl #[.agg #[.int .i64 ad,.int .i64 ah,.int .i64 ag,.int .i64 af,.slice an ai.length ao,.slice ap aj.length aq,.int .i64 ac,.string ae,.bool ak]] rfl (by (try simp only [zd,ze,zf]); first | done | rfl | (simp only [zg,zh]; rfl)) ?_; (with_reducible refine (chunk_none.calls ad ah ag af _ _ ai _ _ aj ac ae ak false _ ?side1 ?side2 ?side3 ?side4 A2.out).mono ?_); (case side1 => repeat (first | exact (Zm et.out HB.out) | (with_reducible refine Zk ?_ _) | (with_reducible refine Zj ?_ _) | (with_reducible refine Zl ?_))); (case side2 => exact eu.out); (case side3 => repeat (first | exact (Zm ev.out HB.out) | (with_reducible refine Zk ?_ _) | (with_reducible refine Zj ?_ _) | (with_reducible refine Zl ?_))); (case side4 => exact ew.out); rintro e ar ⟨rfl,hb⟩; refine ⟨_,rfl,?_⟩; have aH := zzk (zo (g := ab) (o := .cells #[.int .i64 ad,.int .i64 ah,.int .i64 ag,.int .i64 af,.slice an ai.length ao,.slice ap aj.length aq,.int .i64 ac,.string ae,.bool ak] 34 (0,0)) (by (with_reducible repeat (first | refine zj ?_ _ | refine zl ?_ | refine zk ?_ _)); exact aa.out) hb); have aI := zzk (Zs (by repeat (first | (with_reducible first | exact HB.out | apply Zq | apply Zp | apply Zo | refine Zn ?_ au.out) | exact HB.out)) hb); clear aa; clear HB; have aa := aH; have HB := aI; clear aH aI; (try clear hb); (try clear hb2); (try clear hk); (try clear hi)))
  (try simp only [Act.put,za,zb,zc])
  go_cut [3] (fun v3 wc => ∃ (kq : Nat) (eg : Bool),v3 = .bool eg ∧ Aside0 (chunk_Check.j0 kq eg ad ah ag af ai aj ac ae ak = some r) ∧ Aside0 (kq ≤ k) ∧ Aside0 (wc.heap[ab]? = some (.cells #[.int .i64 ad,.int .i64 ah,.int .i64 ag,.int .i64 af,(.slice an ai.length ao),(.slice ap aj.length aq),.int .i64 ac,.string ae,.bool ak] 34 (0,0))) ∧ Aside0 (Below w.heap.size w wc))
  case first =>
   have H := gr.out
   clear gr
   replace H := Option.bind_eq_some_iff.mp H
   obtain ⟨aF,gs,H⟩ := H
   replace H : (if aF = true then ((chunk_within.f ah 900000000).bind fun aE => (if aE = true then ((chunk_within.f ag 900000000).bind fun aD => (if aD = true then ((chunk_within.f af 900000000).bind fun aw => (chunk_Check.j0 k aw ad ah ag af ai aj ac ae ak)) else (chunk_Check.j0 k false ad ah ag af ai aj ac ae ak))) else (chunk_Check.j0 k false ad ah ag af ai aj ac ae ak))) else (chunk_Check.j0 k false ad ah ag af ai aj ac ae ak)) = some r := H
   have ex := zzk gs
   clear gs
   by_cases cW : aF = true
   ·
    subst cW
    have H1 : ((chunk_within.f ah 900000000).bind fun aE => (if aE = true then ((chunk_within.f ag 900000000).bind fun aD => (if aD = true then ((chunk_within.f af 900000000).bind fun aw => (chunk_Check.j0 k aw ad ah ag af ai aj ac ae ak)) else (chunk_Check.j0 k false ad ah ag af ai aj ac ae ak))) else (chunk_Check.j0 k false ad ah ag af ai aj ac ae ak))) = some r := by rw [if_pos rfl] at H; exact H
    clear H
    have H := H1
    clear H1
    replace H := Option.bind_eq_some_iff.mp H
    obtain ⟨aE,gu,H⟩ := H
    replace H : (if aE = true then ((chunk_within.f ag 900000000).bind fun aD => (if aD = true then ((chunk_within.f af 900000000).bind fun aw => (chunk_Check.j0 k aw ad ah ag af ai aj ac ae ak)) else (chunk_Check.j0 k false ad ah ag af ai aj ac ae ak))) else (chunk_Check.j0 k false ad ah ag af ai aj ac ae ak)) = some r := H
    have gv := zzk gu
    clear gu
    by_cases cX : aE = true
    ·
     subst cX
     have H1 : ((chunk_within.f ag 900000000).bind fun aD => (if aD = true then ((chunk_within.f af 900000000).bind fun aw => (chunk_Check.j0 k aw ad ah ag af ai aj ac ae ak)) else (chunk_Check.j0 k false ad ah ag af ai aj ac ae ak))) = some r := by rw [if_pos rfl] at H; exact H
     clear H
     have H := H1
     clear H1
     replace H := Option.bind_eq_some_iff.mp H
     obtain ⟨aD,gw,H⟩ := H
     replace H : (if aD = true then ((chunk_within.f af 900000000).bind fun aw => (chunk_Check.j0 k aw ad ah ag af ai aj ac ae ak)) else (chunk_Check.j0 k false ad ah ag af ai aj ac ae ak)) = some r := H
     have gB := zzk gw
     clear gw
     by_cases cY : aD = true
     ·
      subst cY
      have H1 : ((chunk_within.f af 900000000).bind fun aw => (chunk_Check.j0 k aw ad ah ag af ai aj ac ae ak)) = some r := by rw [if_pos rfl] at H; exact H
      clear H
      have H := H1
      clear H1
      replace H := Option.bind_eq_some_iff.mp H
      obtain ⟨aw,gx,H⟩ := H
      replace H : (chunk_Check.j0 k aw ad ah ag af ai aj ac ae ak) = some r := H
      have hx := zzk gx
      clear gx
      have H' := zzk H
      clear H
      have aN : ar.cell? ⟨ab,0,none⟩ = some (.int .i64 ad) := (zi aa.out 0).trans rfl
      have aO : ar.cell? ⟨ab,1,none⟩ = some (.int .i64 ah) := (zi aa.out 1).trans rfl
      have aP : ar.cell? ⟨ab,2,none⟩ = some (.int .i64 ag) := (zi aa.out 2).trans rfl
      have aQ : ar.cell? ⟨ab,3,none⟩ = some (.int .i64 af) := (zi aa.out 3).trans rfl
      have aR : ar.cell? ⟨ab,4,none⟩ = some (.slice an ai.length ao) := (zi aa.out 4).trans rfl
      have aS : ar.cell? ⟨ab,5,none⟩ = some (.slice ap aj.length aq) := (zi aa.out 5).trans rfl
      have aT : ar.cell? ⟨ab,6,none⟩ = some (.int .i64 ac) := (zi aa.out 6).trans rfl
      have aU : ar.cell? ⟨ab,7,none⟩ = some (.string ae) := (zi aa.out 7).trans rfl
      have aV : ar.cell? ⟨ab,8,none⟩ = some (.bool ak) := (zi aa.out 8).trans rfl
      have aW := zm aa.out 0
      have aX := zm aa.out 1
      have aY := zm aa.out 2
      have aZ := zm aa.out 3
      have ba := zm aa.out 4
      have bb := zm aa.out 5
      have bc := zm aa.out 6
      have bd := zm aa.out 7
      have be := zm aa.out 8
      go_wp2_with (first | ((with_reducible refine zza (f := 36) rfl ?_); refine zzd (some 9) rfl rfl Try.func36 (by kernel_rfl) rfl #[.int .i64 ad,.int .i64 7] rfl (by (try simp only [zd,ze,zf]); first | done | rfl | (simp only [zg,zh]; rfl)) ?_; (with_reducible refine (chunk_within.calls ad 7 true _ ex.out).mono ?_); rintro e w' ⟨rfl,⟨nd,rfl⟩⟩; refine ⟨_,rfl,?_⟩) | (go_at_call 36; (with_reducible refine (chunk_within.calls ah 900000000 true _ gv.out).mono ?_); rintro e w' ⟨rfl,⟨nd,rfl⟩⟩) | (go_at_call 36; (with_reducible refine (chunk_within.calls ag 900000000 true _ gB.out).mono ?_); rintro e w' ⟨rfl,⟨nd,rfl⟩⟩) | (go_at_call 36; (with_reducible refine (chunk_within.calls af 900000000 aw _ hx.out).mono ?_); rintro e w' ⟨rfl,⟨nd,rfl⟩⟩))
      go_meet
      case rel => exact ⟨_,(aw),(by first | rfl | (simp; done) | (simp [*]; done)),H',⟨by first | omega | exact Nat.le_refl _⟩,⟨by (with_reducible repeat (first | refine zj ?_ _ | refine zl ?_ | refine zk ?_ _)); exact aa.out⟩,⟨by repeat (first | (with_reducible first | exact HB.out | apply Zq | apply Zp | apply Zo | refine Zn ?_ au.out) | exact HB.out)⟩⟩
     ·
      replace cY := Bool.eq_false_iff.mpr cY
      subst cY
      have H1 : (chunk_Check.j0 k false ad ah ag af ai aj ac ae ak) = some r := by rw [if_neg (show ¬ (false = true) by decide)] at H; exact H
      clear H
      have H := H1
      clear H1
      have H' := zzk H
      clear H
      have bf : ar.cell? ⟨ab,0,none⟩ = some (.int .i64 ad) := (zi aa.out 0).trans rfl
      have bg : ar.cell? ⟨ab,1,none⟩ = some (.int .i64 ah) := (zi aa.out 1).trans rfl
      have bh : ar.cell? ⟨ab,2,none⟩ = some (.int .i64 ag) := (zi aa.out 2).trans rfl
      have bi : ar.cell? ⟨ab,3,none⟩ = some (.int .i64 af) := (zi aa.out 3).trans rfl
      have bj : ar.cell? ⟨ab,4,none⟩ = some (.slice an ai.length ao) := (zi aa.out 4).trans rfl
      have bk : ar.cell? ⟨ab,5,none⟩ = some (.slice ap aj.length aq) := (zi aa.out 5).trans rfl
      have bl : ar.cell? ⟨ab,6,none⟩ = some (.int .i64 ac) := (zi aa.out 6).trans rfl
      have bm : ar.cell? ⟨ab,7,none⟩ = some (.string ae) := (zi aa.out 7).trans rfl
      have bn : ar.cell? ⟨ab,8,none⟩ = some (.bool ak) := (zi aa.out 8).trans rfl
      have bo := zm aa.out 0
      have bq := zm aa.out 1
      have br := zm aa.out 2
      have bs := zm aa.out 3
      have bt := zm aa.out 4
      have bu := zm aa.out 5
      have bv := zm aa.out 6
      have bw := zm aa.out 7
      have bx := zm aa.out 8
      go_wp2_with (first | ((with_reducible refine zza (f := 36) rfl ?_); refine zzd (some 9) rfl rfl Try.func36 (by kernel_rfl) rfl #[.int .i64 ad,.int .i64 7] rfl (by (try simp only [zd,ze,zf]); first | done | rfl | (simp only [zg,zh]; rfl)) ?_; (with_reducible refine (chunk_within.calls ad 7 true _ ex.out).mono ?_); rintro e w' ⟨rfl,⟨nd,rfl⟩⟩; refine ⟨_,rfl,?_⟩) | (go_at_call 36; (with_reducible refine (chunk_within.calls ah 900000000 true _ gv.out).mono ?_); rintro e w' ⟨rfl,⟨nd,rfl⟩⟩) | (go_at_call 36; (with_reducible refine (chunk_within.calls ag 900000000 false _ gB.out).mono ?_); rintro e w' ⟨rfl,⟨nd,rfl⟩⟩))
      go_meet
      case rel => exact ⟨_,(false),(by first | rfl | (simp; done) | (simp [*]; done)),H',⟨by first | omega | exact Nat.le_refl _⟩,⟨by (with_reducible repeat (first | refine zj ?_ _ | refine zl ?_ | refine zk ?_ _)); exact aa.out⟩,⟨by repeat (first | (with_reducible first | exact HB.out | apply Zq | apply Zp | apply Zo | refine Zn ?_ au.out) | exact HB.out)⟩⟩
    ·
     replace cX := Bool.eq_false_iff.mpr cX
     subst cX
     have H1 : (chunk_Check.j0 k false ad ah ag af ai aj ac ae ak) = some r := by rw [if_neg (show ¬ (false = true) by decide)] at H; exact H
     clear H
     have H := H1
     clear H1
     have H' := zzk H
     clear H
     have bz : ar.cell? ⟨ab,0,none⟩ = some (.int .i64 ad) := (zi aa.out 0).trans rfl
     have bA : ar.cell? ⟨ab,1,none⟩ = some (.int .i64 ah) := (zi aa.out 1).trans rfl
     have bB : ar.cell? ⟨ab,2,none⟩ = some (.int .i64 ag) := (zi aa.out 2).trans rfl
     have bC : ar.cell? ⟨ab,3,none⟩ = some (.int .i64 af) := (zi aa.out 3).trans rfl
     have bD : ar.cell? ⟨ab,4,none⟩ = some (.slice an ai.length ao) := (zi aa.out 4).trans rfl
     have bE : ar.cell? ⟨ab,5,none⟩ = some (.slice ap aj.length aq) := (zi aa.out 5).trans rfl
     have bF : ar.cell? ⟨ab,6,none⟩ = some (.int .i64 ac) := (zi aa.out 6).trans rfl
     have bG : ar.cell? ⟨ab,7,none⟩ = some (.string ae) := (zi aa.out 7).trans rfl
     have bH : ar.cell? ⟨ab,8,none⟩ = some (.bool ak) := (zi aa.out 8).trans rfl
     have bI := zm aa.out 0
     have bJ := zm aa.out 1
     have bK := zm aa.out 2
     have bL := zm aa.out 3
     have bM := zm aa.out 4
     have bN := zm aa.out 5
     have bO := zm aa.out 6
     have bP := zm aa.out 7
     have bQ := zm aa.out 8
     go_wp2_with (first | ((with_reducible refine zza (f := 36) rfl ?_); refine zzd (some 9) rfl rfl Try.func36 (by kernel_rfl) rfl #[.int .i64 ad,.int .i64 7] rfl (by (try simp only [zd,ze,zf]); first | done | rfl | (simp only [zg,zh]; rfl)) ?_; (with_reducible refine (chunk_within.calls ad 7 true _ ex.out).mono ?_); rintro e w' ⟨rfl,⟨nd,rfl⟩⟩; refine ⟨_,rfl,?_⟩) | (go_at_call 36; (with_reducible refine (chunk_within.calls ah 900000000 false _ gv.out).mono ?_); rintro e w' ⟨rfl,⟨nd,rfl⟩⟩))
     go_meet
     case rel => exact ⟨_,(false),(by first | rfl | (simp; done) | (simp [*]; done)),H',⟨by first | omega | exact Nat.le_refl _⟩,⟨by (with_reducible repeat (first | refine zj ?_ _ | refine zl ?_ | refine zk ?_ _)); exact aa.out⟩,⟨by repeat (first | (with_reducible first | exact HB.out | apply Zq | apply Zp | apply Zo | refine Zn ?_ au.out) | exact HB.out)⟩⟩
   ·
    replace cW := Bool.eq_false_iff.mpr cW
    subst cW
    have H1 : (chunk_Check.j0 k false ad ah ag af ai aj ac ae ak) = some r := by rw [if_neg (show ¬ (false = true) by decide)] at H; exact H
    clear H
    have H := H1
    clear H1
    have H' := zzk H
    clear H
    have bR : ar.cell? ⟨ab,0,none⟩ = some (.int .i64 ad) := (zi aa.out 0).trans rfl
    have bS : ar.cell? ⟨ab,1,none⟩ = some (.int .i64 ah) := (zi aa.out 1).trans rfl
    have bT : ar.cell? ⟨ab,2,none⟩ = some (.int .i64 ag) := (zi aa.out 2).trans rfl
    have bU : ar.cell? ⟨ab,3,none⟩ = some (.int .i64 af) := (zi aa.out 3).trans rfl
    have bV : ar.cell? ⟨ab,4,none⟩ = some (.slice an ai.length ao) := (zi aa.out 4).trans rfl
    have bW : ar.cell? ⟨ab,5,none⟩ = some (.slice ap aj.length aq) := (zi aa.out 5).trans rfl
    have bX : ar.cell? ⟨ab,6,none⟩ = some (.int .i64 ac) := (zi aa.out 6).trans rfl
    have bY : ar.cell? ⟨ab,7,none⟩ = some (.string ae) := (zi aa.out 7).trans rfl
    have bZ : ar.cell? ⟨ab,8,none⟩ = some (.bool ak) := (zi aa.out 8).trans rfl
    have ca := zm aa.out 0
    have cb := zm aa.out 1
    have cc := zm aa.out 2
    have cd := zm aa.out 3
    have ce := zm aa.out 4
    have cf := zm aa.out 5
    have cg := zm aa.out 6
    have ch := zm aa.out 7
    have ci := zm aa.out 8
    go_wp2_with (first | ((with_reducible refine zza (f := 36) rfl ?_); refine zzd (some 9) rfl rfl Try.func36 (by kernel_rfl) rfl #[.int .i64 ad,.int .i64 7] rfl (by (try simp only [zd,ze,zf]); first | done | rfl | (simp only [zg,zh]; rfl)) ?_; (with_reducible refine (chunk_within.calls ad 7 false _ ex.out).mono ?_); rintro e w' ⟨rfl,⟨nd,rfl⟩⟩; refine ⟨_,rfl,?_⟩))
    go_meet
    case rel => exact ⟨_,(false),(by first | rfl | (simp; done) | (simp [*]; done)),H',⟨by first | omega | exact Nat.le_refl _⟩,⟨by (with_reducible repeat (first | refine zj ?_ _ | refine zl ?_ | refine zk ?_ _)); exact aa.out⟩,⟨by repeat (first | (with_reducible first | exact HB.out | apply Zq | apply Zp | apply Zo | refine Zn ?_ au.out) | exact HB.out)⟩⟩
  case rest =>
   clear gr
   try clear c1
   try clear p2
   try clear c3
   try clear cW
   try clear cX
   try clear cY
   try clear gC
   try clear aN
   try clear aO
   try clear aP
   try clear aQ
   try clear aR
   try clear aS
   try clear aT
   try clear aU
   try clear aV
   try clear bf
   try clear bg
   try clear bh
   try clear bi
   try clear bj
   try clear bk
   try clear bl
   try clear bm
   try clear bn
   try clear bz
   try clear bA
   try clear bB
   try clear bC
   try clear bD
   try clear bE
   try clear bF
   try clear bG
   try clear bH
   try clear bR
   try clear bS
   try clear bT
   try clear bU
   try clear bV
   try clear bW
   try clear bX
   try clear bY
   try clear bZ
   try clear cl
   try clear cm
   try clear cn
   try clear co
   try clear cp
   try clear cq
   try clear cr
   try clear ct
   try clear cu
   try clear cE
   try clear cF
   try clear cG
   try clear cH
   try clear cI
   try clear cJ
   try clear cK
   try clear cL
   try clear cM
   try clear aW
   try clear aX
   try clear aY
   try clear aZ
   try clear ba
   try clear bb
   try clear bc
   try clear bd
   try clear be
   try clear bo
   try clear bq
   try clear br
   try clear bs
   try clear bt
   try clear bu
   try clear bv
   try clear bw
   try clear bx
   try clear bI
   try clear bJ
   try clear bK
   try clear bL
   try clear bM
   try clear bN
   try clear bO
   try clear bP
   try clear bQ
   try clear ca
   try clear cb
   try clear cc
   try clear cd
   try clear ce
   try clear cf
   try clear cg
   try clear ch
   try clear ci
   try clear cv
   try clear cw
   try clear cx
   try clear cy
   try clear cz
   try clear cA
   try clear cB
   try clear cC
   try clear cD
   try clear cN
   try clear cO
   try clear cP
   try clear cQ
   try clear cR
   try clear cS
   try clear cT
   try clear cU
   try clear cV
   obtain ⟨kq,eg,rfl,HA,HJ6,aa,HB⟩ := hcut
   cases kq with
   | zero => exact absurd HA.out (by simp [chunk_Check.j0])
   | succ ey =>
    have H := HA.out
    clear HA
    simp only [chunk_Check.j0] at H
    have em := zzk H
    clear H
    have db : wc.cell? ⟨ab,0,none⟩ = some (.int .i64 ad) := (zi aa.out 0).trans rfl
    have dc : wc.cell? ⟨ab,1,none⟩ = some (.int .i64 ah) := (zi aa.out 1).trans rfl
    have dd : wc.cell? ⟨ab,2,none⟩ = some (.int .i64 ag) := (zi aa.out 2).trans rfl
    have de : wc.cell? ⟨ab,3,none⟩ = some (.int .i64 af) := (zi aa.out 3).trans rfl
    have df : wc.cell? ⟨ab,4,none⟩ = some (.slice an ai.length ao) := (zi aa.out 4).trans rfl
    have dg : wc.cell? ⟨ab,5,none⟩ = some (.slice ap aj.length aq) := (zi aa.out 5).trans rfl
    have dh : wc.cell? ⟨ab,6,none⟩ = some (.int .i64 ac) := (zi aa.out 6).trans rfl
    have di : wc.cell? ⟨ab,7,none⟩ = some (.string ae) := (zi aa.out 7).trans rfl
    have dj : wc.cell? ⟨ab,8,none⟩ = some (.bool ak) := (zi aa.out 8).trans rfl
    have dk := zm aa.out 0
    have dl := zm aa.out 1
    have dm := zm aa.out 2
    have dn := zm aa.out 3
    have dp := zm aa.out 4
    have dq := zm aa.out 5
    have dr := zm aa.out 6
    have ds := zm aa.out 7
    have dt := zm aa.out 8
    go_upto_region 5 with (fail)
    go_cut [3] (fun v3 wc => ∃ (kq : Nat) (aK : Bool),v3 = .bool aK ∧ Aside0 (chunk_Check.j1 kq aK (wrap64 (ac - (ae.size : Int))) ad ah ag af ai aj ac ae ak = some r) ∧ Aside0 (kq ≤ ey) ∧ Aside0 (wc.heap[ab]? = some (.cells #[.int .i64 ad,.int .i64 ah,.int .i64 ag,.int .i64 af,(.slice an ai.length ao),(.slice ap aj.length aq),.int .i64 ac,.string ae,.bool ak] 34 (0,0))) ∧ Aside0 (Below w.heap.size w wc))
    case first =>
     have H := em.out
     clear em
     by_cases du : eg = true
     ·
      subst du
      have H1 : (if ac ≤ 65536 then (chunk_Check.j1 ey (decide ((wrap64 (ac - (ae.size : Int))) ≥ 0)) (wrap64 (ac - (ae.size : Int))) ad ah ag af ai aj ac ae ak) else (chunk_Check.j1 ey false (wrap64 (ac - (ae.size : Int))) ad ah ag af ai aj ac ae ak)) = some r := by rw [if_pos rfl] at H; exact H
      clear H
      have H := H1
      clear H1
      by_cases cj : ac ≤ 65536
      ·
       rw [if_pos cj] at H
       have aG : decide (ac ≤ 65536) = true := zzn cj
       clear cj
       (first | rw [aG] | (simp only [Zv,Zw]; rw [aG]) | skip)
       have H' := zzk H
       clear H
       have dv : wc.cell? ⟨ab,0,none⟩ = some (.int .i64 ad) := (zi aa.out 0).trans rfl
       have dw : wc.cell? ⟨ab,1,none⟩ = some (.int .i64 ah) := (zi aa.out 1).trans rfl
       have dx : wc.cell? ⟨ab,2,none⟩ = some (.int .i64 ag) := (zi aa.out 2).trans rfl
       have dy : wc.cell? ⟨ab,3,none⟩ = some (.int .i64 af) := (zi aa.out 3).trans rfl
       have dz : wc.cell? ⟨ab,4,none⟩ = some (.slice an ai.length ao) := (zi aa.out 4).trans rfl
       have dA : wc.cell? ⟨ab,5,none⟩ = some (.slice ap aj.length aq) := (zi aa.out 5).trans rfl
       have dB : wc.cell? ⟨ab,6,none⟩ = some (.int .i64 ac) := (zi aa.out 6).trans rfl
       have dC : wc.cell? ⟨ab,7,none⟩ = some (.string ae) := (zi aa.out 7).trans rfl
       have dD : wc.cell? ⟨ab,8,none⟩ = some (.bool ak) := (zi aa.out 8).trans rfl
       have dE := zm aa.out 0
       have dF := zm aa.out 1
       have dG := zm aa.out 2
       have dH := zm aa.out 3
       have dI := zm aa.out 4
       have dJ := zm aa.out 5
       have dK := zm aa.out 6
       have dL := zm aa.out 7
       have dM := zm aa.out 8
       go_wp2
       go_meet
       case rel => exact ⟨_,(decide ((wrap64 (ac - (ae.size : Int))) ≥ 0)),(by first | rfl | (simp; done) | (simp [*]; done)),H',⟨by have := HJ6.out; first | omega | exact Nat.le_refl _⟩,⟨by (with_reducible repeat (first | refine zj ?_ _ | refine zl ?_ | refine zk ?_ _)); exact aa.out⟩,⟨by repeat (first | (with_reducible first | exact HB.out | apply Zq | apply Zp | apply Zo | refine Zn ?_ au.out) | exact HB.out)⟩⟩
      ·
       rw [if_neg cj] at H
       have aG : decide (ac ≤ 65536) = false := zzo cj
       clear cj
       (first | rw [aG] | (simp only [Zv,Zw]; rw [aG]) | skip)
       have H' := zzk H
       clear H
       have dN : wc.cell? ⟨ab,0,none⟩ = some (.int .i64 ad) := (zi aa.out 0).trans rfl
       have dO : wc.cell? ⟨ab,1,none⟩ = some (.int .i64 ah) := (zi aa.out 1).trans rfl
       have dP : wc.cell? ⟨ab,2,none⟩ = some (.int .i64 ag) := (zi aa.out 2).trans rfl
       have dQ : wc.cell? ⟨ab,3,none⟩ = some (.int .i64 af) := (zi aa.out 3).trans rfl
       have dR : wc.cell? ⟨ab,4,none⟩ = some (.slice an ai.length ao) := (zi aa.out 4).trans rfl
       have dS : wc.cell? ⟨ab,5,none⟩ = some (.slice ap aj.length aq) := (zi aa.out 5).trans rfl
       have dT : wc.cell? ⟨ab,6,none⟩ = some (.int .i64 ac) := (zi aa.out 6).trans rfl
       have dU : wc.cell? ⟨ab,7,none⟩ = some (.string ae) := (zi aa.out 7).trans rfl
       have dV : wc.cell? ⟨ab,8,none⟩ = some (.bool ak) := (zi aa.out 8).trans rfl
       have dW := zm aa.out 0
       have dX := zm aa.out 1
       have dY := zm aa.out 2
       have dZ := zm aa.out 3
       have ea := zm aa.out 4
       have eb := zm aa.out 5
       have ec := zm aa.out 6
       have ed := zm aa.out 7
       have ee := zm aa.out 8
       go_wp2
       go_meet
       case rel => exact ⟨_,(false),(by first | rfl | (simp; done) | (simp [*]; done)),H',⟨by have := HJ6.out; first | omega | exact Nat.le_refl _⟩,⟨by (with_reducible repeat (first | refine zj ?_ _ | refine zl ?_ | refine zk ?_ _)); exact aa.out⟩,⟨by repeat (first | (with_reducible first | exact HB.out | apply Zq | apply Zp | apply Zo | refine Zn ?_ au.out) | exact HB.out)⟩⟩
     ·
      replace du := Bool.eq_false_iff.mpr du
      subst du
      have H1 : (chunk_Check.j1 ey false (wrap64 (ac - (ae.size : Int))) ad ah ag af ai aj ac ae ak) = some r := by rw [if_neg (show ¬ (false = true) by decide)] at H; exact H
      clear H
      have H := H1
      clear H1
      have H' := zzk H
      clear H
      go_wp2
      go_meet
      case rel => exact ⟨_,(false),(by first | rfl | (simp; done) | (simp [*]; done)),H',⟨by have := HJ6.out; first | omega | exact Nat.le_refl _⟩,⟨by (with_reducible repeat (first | refine zj ?_ _ | refine zl ?_ | refine zk ?_ _)); exact aa.out⟩,⟨by repeat (first | (with_reducible first | exact HB.out | apply Zq | apply Zp | apply Zo | refine Zn ?_ au.out) | exact HB.out)⟩⟩
    case rest =>
     clear em
     try clear c1
     try clear c2
     try clear p2
     try clear c3
     try clear p6
     try clear cW
     try clear cX
     try clear cY
     try clear gC
     try clear du
     try clear cj
     try clear aG
     try clear aN
     try clear aO
     try clear aP
     try clear aQ
     try clear aR
     try clear aS
     try clear aT
     try clear aU
     try clear aV
     try clear bf
     try clear bg
     try clear bh
     try clear bi
     try clear bj
     try clear bk
     try clear bl
     try clear bm
     try clear bn
     try clear bz
     try clear bA
     try clear bB
     try clear bC
     try clear bD
     try clear bE
     try clear bF
     try clear bG
     try clear bH
     try clear bR
     try clear bS
     try clear bT
     try clear bU
     try clear bV
     try clear bW
     try clear bX
     try clear bY
     try clear bZ
     try clear db
     try clear dc
     try clear dd
     try clear de
     try clear df
     try clear dg
     try clear dh
     try clear di
     try clear dj
     try clear dv
     try clear dw
     try clear dx
     try clear dy
     try clear dz
     try clear dA
     try clear dB
     try clear dC
     try clear dD
     try clear dN
     try clear dO
     try clear dP
     try clear dQ
     try clear dR
     try clear dS
     try clear dT
     try clear dU
     try clear dV
     try clear cl
     try clear cm
     try clear cn
     try clear co
     try clear cp
     try clear cq
     try clear cr
     try clear ct
     try clear cu
     try clear cE
     try clear cF
     try clear cG
     try clear cH
     try clear cI
     try clear cJ
     try clear cK
     try clear cL
     try clear cM
     try clear aW
     try clear aX
     try clear aY
     try clear aZ
     try clear ba
     try clear bb
     try clear bc
     try clear bd
     try clear be
     try clear bo
     try clear bq
     try clear br
     try clear bs
     try clear bt
     try clear bu
     try clear bv
     try clear bw
     try clear bx
     try clear bI
     try clear bJ
     try clear bK
     try clear bL
     try clear bM
     try clear bN
     try clear bO
     try clear bP
     try clear bQ
     try clear ca
     try clear cb
     try clear cc
     try clear cd
     try clear ce
     try clear cf
     try clear cg
     try clear ch
     try clear ci
     try clear dk
     try clear dl
     try clear dm
     try clear dn
     try clear dp
     try clear dq
     try clear dr
     try clear ds
     try clear dt
     try clear dE
     try clear dF
     try clear dG
     try clear dH
     try clear dI
     try clear dJ
     try clear dK
     try clear dL
     try clear dM
     try clear dW
     try clear dX
     try clear dY
     try clear dZ
     try clear ea
     try clear eb
     try clear ec
     try clear ed
     try clear ee
     try clear cv
     try clear cw
     try clear cx
     try clear cy
     try clear cz
     try clear cA
     try clear cB
     try clear cC
     try clear cD
     try clear cN
     try clear cO
     try clear cP
     try clear cQ
     try clear cR
     try clear cS
     try clear cT
     try clear cU
     try clear cV
     try clear p2
     obtain ⟨kq,aK,rfl,HA,HJ21,aa,HB⟩ := hcut
     cases kq with
     | zero => exact absurd HA.out (by simp [chunk_Check.j1])
     | succ aJ =>
      have H := HA.out
      clear HA
      simp only [chunk_Check.j1] at H
      have en := zzk H
      clear H
      go_upto_block 0 with (fail)
      go_cut [3] (fun v3 wc => ∃ (kq : Nat) (ck : Bool),v3 = .bool ck ∧ Aside0 (chunk_Check.j2 kq ck ad ah ag af ai aj ac ae ak = some r) ∧ Aside0 (kq ≤ aJ) ∧ Aside0 (wc.heap[ab]? = some (.cells #[.int .i64 ad,.int .i64 ah,.int .i64 ag,.int .i64 af,(.slice an ai.length ao),(.slice ap aj.length aq),.int .i64 ac,.string ae,.bool ak] 34 (0,0))) ∧ Aside0 (Below w.heap.size w wc))
      case first =>
       have H := en.out
       clear en
       by_cases cZ : (wrap64 (ac - (ae.size : Int))) > 0
       ·
        rw [if_pos cZ] at H
        have aL : decide (0 < (wrap64 (ac - (ae.size : Int)))) = true := zzn cZ
        clear cZ
        (first | rw [aL] | (simp only [Zv,Zw]; rw [aL]) | skip)
        by_cases ej : aK = true
        ·
         subst ej
         have H1 : (if ak = true then (chunk_Check.j2 aJ (((ae.size : Int) % 96) == 0) ad ah ag af ai aj ac ae ak) else (chunk_Check.j2 aJ false ad ah ag af ai aj ac ae ak)) = some r := by rw [if_pos rfl] at H; exact H
         clear H
         have H := H1
         clear H1
         by_cases ek : ak = true
         ·
          subst ek
          have H1 : (chunk_Check.j2 aJ (((ae.size : Int) % 96) == 0) ad ah ag af ai aj ac ae true) = some r := by rw [if_pos rfl] at H; exact H
          clear H
          have H := H1
          clear H1
          have H' := zzk H
          clear H
          have eB : wc.cell? ⟨ab,0,none⟩ = some (.int .i64 ad) := (zi aa.out 0).trans rfl
          have eC : wc.cell? ⟨ab,1,none⟩ = some (.int .i64 ah) := (zi aa.out 1).trans rfl
          have eD : wc.cell? ⟨ab,2,none⟩ = some (.int .i64 ag) := (zi aa.out 2).trans rfl
          have eE : wc.cell? ⟨ab,3,none⟩ = some (.int .i64 af) := (zi aa.out 3).trans rfl
          have eF : wc.cell? ⟨ab,4,none⟩ = some (.slice an ai.length ao) := (zi aa.out 4).trans rfl
          have eG : wc.cell? ⟨ab,5,none⟩ = some (.slice ap aj.length aq) := (zi aa.out 5).trans rfl
          have eH : wc.cell? ⟨ab,6,none⟩ = some (.int .i64 ac) := (zi aa.out 6).trans rfl
          have eI : wc.cell? ⟨ab,7,none⟩ = some (.string ae) := (zi aa.out 7).trans rfl
          have eJ : wc.cell? ⟨ab,8,none⟩ = some (.bool true) := (zi aa.out 8).trans rfl
          have eK := zm aa.out 0
          have eL := zm aa.out 1
          have eM := zm aa.out 2
          have eN := zm aa.out 3
          have eO := zm aa.out 4
          have eP := zm aa.out 5
          have eQ := zm aa.out 6
          have eR := zm aa.out 7
          have eS := zm aa.out 8
          go_wp2
          go_meet
          case rel => exact ⟨_,((((ae.size : Int) % 96) == 0)),(by first | rfl | (simp; done) | (simp [*]; done)),H',⟨by have := HJ6.out; have := HJ21.out; first | omega | exact Nat.le_refl _⟩,⟨by (with_reducible repeat (first | refine zj ?_ _ | refine zl ?_ | refine zk ?_ _)); exact aa.out⟩,⟨by repeat (first | (with_reducible first | exact HB.out | apply Zq | apply Zp | apply Zo | refine Zn ?_ au.out) | exact HB.out)⟩⟩
         ·
          replace ek := Bool.eq_false_iff.mpr ek
          subst ek
          have H1 : (chunk_Check.j2 aJ false ad ah ag af ai aj ac ae false) = some r := by rw [if_neg (show ¬ (false = true) by decide)] at H; exact H
          clear H
          have H := H1
          clear H1
          have H' := zzk H
          clear H
          have eT : wc.cell? ⟨ab,0,none⟩ = some (.int .i64 ad) := (zi aa.out 0).trans rfl
          have eU : wc.cell? ⟨ab,1,none⟩ = some (.int .i64 ah) := (zi aa.out 1).trans rfl
          have eV : wc.cell? ⟨ab,2,none⟩ = some (.int .i64 ag) := (zi aa.out 2).trans rfl
          have eW : wc.cell? ⟨ab,3,none⟩ = some (.int .i64 af) := (zi aa.out 3).trans rfl
          have eX : wc.cell? ⟨ab,4,none⟩ = some (.slice an ai.length ao) := (zi aa.out 4).trans rfl
          have eY : wc.cell? ⟨ab,5,none⟩ = some (.slice ap aj.length aq) := (zi aa.out 5).trans rfl
          have eZ : wc.cell? ⟨ab,6,none⟩ = some (.int .i64 ac) := (zi aa.out 6).trans rfl
          have fa : wc.cell? ⟨ab,7,none⟩ = some (.string ae) := (zi aa.out 7).trans rfl
          have fb : wc.cell? ⟨ab,8,none⟩ = some (.bool false) := (zi aa.out 8).trans rfl
          have fc := zm aa.out 0
          have fd := zm aa.out 1
          have fe := zm aa.out 2
          have fg := zm aa.out 3
          have fh := zm aa.out 4
          have fi := zm aa.out 5
          have fj := zm aa.out 6
          have fk := zm aa.out 7
          have fl := zm aa.out 8
          go_wp2
          go_meet
          case rel => exact ⟨_,(false),(by first | rfl | (simp; done) | (simp [*]; done)),H',⟨by have := HJ6.out; have := HJ21.out; first | omega | exact Nat.le_refl _⟩,⟨by (with_reducible repeat (first | refine zj ?_ _ | refine zl ?_ | refine zk ?_ _)); exact aa.out⟩,⟨by repeat (first | (with_reducible first | exact HB.out | apply Zq | apply Zp | apply Zo | refine Zn ?_ au.out) | exact HB.out)⟩⟩
        ·
         replace ej := Bool.eq_false_iff.mpr ej
         subst ej
         have H1 : (chunk_Check.j2 aJ false ad ah ag af ai aj ac ae ak) = some r := by rw [if_neg (show ¬ (false = true) by decide)] at H; exact H
         clear H
         have H := H1
         clear H1
         have H' := zzk H
         clear H
         go_wp2
         go_meet
         case rel => exact ⟨_,(false),(by first | rfl | (simp; done) | (simp [*]; done)),H',⟨by have := HJ6.out; have := HJ21.out; first | omega | exact Nat.le_refl _⟩,⟨by (with_reducible repeat (first | refine zj ?_ _ | refine zl ?_ | refine zk ?_ _)); exact aa.out⟩,⟨by repeat (first | (with_reducible first | exact HB.out | apply Zq | apply Zp | apply Zo | refine Zn ?_ au.out) | exact HB.out)⟩⟩
       ·
        rw [if_neg cZ] at H
        have aL : decide (0 < (wrap64 (ac - (ae.size : Int)))) = false := zzo cZ
        clear cZ
        (first | rw [aL] | (simp only [Zv,Zw]; rw [aL]) | skip)
        by_cases da : ac > 0
        ·
         rw [if_pos da] at H
         have ez : decide (0 < ac) = true := zzn da
         clear da
         by_cases el : aK = true
         ·
          subst el
          have H1 : (chunk_Check.j2 aJ (!ak) ad ah ag af ai aj ac ae ak) = some r := by rw [if_pos rfl] at H; exact H
          clear H
          have H := H1
          clear H1
          have H' := zzk H
          clear H
          have fm : wc.cell? ⟨ab,0,none⟩ = some (.int .i64 ad) := (zi aa.out 0).trans rfl
          have fn : wc.cell? ⟨ab,1,none⟩ = some (.int .i64 ah) := (zi aa.out 1).trans rfl
          have fo : wc.cell? ⟨ab,2,none⟩ = some (.int .i64 ag) := (zi aa.out 2).trans rfl
          have fp : wc.cell? ⟨ab,3,none⟩ = some (.int .i64 af) := (zi aa.out 3).trans rfl
          have fq : wc.cell? ⟨ab,4,none⟩ = some (.slice an ai.length ao) := (zi aa.out 4).trans rfl
          have fr : wc.cell? ⟨ab,5,none⟩ = some (.slice ap aj.length aq) := (zi aa.out 5).trans rfl
          have fs : wc.cell? ⟨ab,6,none⟩ = some (.int .i64 ac) := (zi aa.out 6).trans rfl
          have ft : wc.cell? ⟨ab,7,none⟩ = some (.string ae) := (zi aa.out 7).trans rfl
          have fu : wc.cell? ⟨ab,8,none⟩ = some (.bool ak) := (zi aa.out 8).trans rfl
          have fv := zm aa.out 0
          have fw := zm aa.out 1
          have fx := zm aa.out 2
          have fy := zm aa.out 3
          have fz := zm aa.out 4
          have fA := zm aa.out 5
          have fB := zm aa.out 6
          have fC := zm aa.out 7
          have fD := zm aa.out 8
          go_wp2
          go_meet
          case rel => exact ⟨_,(!ak),(by first | rfl | (simp; done) | (simp [*]; done)),H',⟨by have := HJ6.out; have := HJ21.out; first | omega | exact Nat.le_refl _⟩,⟨by (with_reducible repeat (first | refine zj ?_ _ | refine zl ?_ | refine zk ?_ _)); exact aa.out⟩,⟨by repeat (first | (with_reducible first | exact HB.out | apply Zq | apply Zp | apply Zo | refine Zn ?_ au.out) | exact HB.out)⟩⟩
         ·
          replace el := Bool.eq_false_iff.mpr el
          subst el
          have H1 : (chunk_Check.j2 aJ false ad ah ag af ai aj ac ae ak) = some r := by rw [if_neg (show ¬ (false = true) by decide)] at H; exact H
          clear H
          have H := H1
          clear H1
          have H' := zzk H
          clear H
          have fE : wc.cell? ⟨ab,0,none⟩ = some (.int .i64 ad) := (zi aa.out 0).trans rfl
          have fF : wc.cell? ⟨ab,1,none⟩ = some (.int .i64 ah) := (zi aa.out 1).trans rfl
          have fG : wc.cell? ⟨ab,2,none⟩ = some (.int .i64 ag) := (zi aa.out 2).trans rfl
          have fH : wc.cell? ⟨ab,3,none⟩ = some (.int .i64 af) := (zi aa.out 3).trans rfl
          have fI : wc.cell? ⟨ab,4,none⟩ = some (.slice an ai.length ao) := (zi aa.out 4).trans rfl
          have fJ : wc.cell? ⟨ab,5,none⟩ = some (.slice ap aj.length aq) := (zi aa.out 5).trans rfl
          have fK : wc.cell? ⟨ab,6,none⟩ = some (.int .i64 ac) := (zi aa.out 6).trans rfl
          have fL : wc.cell? ⟨ab,7,none⟩ = some (.string ae) := (zi aa.out 7).trans rfl
          have fM : wc.cell? ⟨ab,8,none⟩ = some (.bool ak) := (zi aa.out 8).trans rfl
          have fN := zm aa.out 0
          have fO := zm aa.out 1
          have fP := zm aa.out 2
          have fQ := zm aa.out 3
          have fR := zm aa.out 4
          have fS := zm aa.out 5
          have fT := zm aa.out 6
          have fU := zm aa.out 7
          have fV := zm aa.out 8
          go_wp2
          go_meet
          case rel => exact ⟨_,(false),(by first | rfl | (simp; done) | (simp [*]; done)),H',⟨by have := HJ6.out; have := HJ21.out; first | omega | exact Nat.le_refl _⟩,⟨by (with_reducible repeat (first | refine zj ?_ _ | refine zl ?_ | refine zk ?_ _)); exact aa.out⟩,⟨by repeat (first | (with_reducible first | exact HB.out | apply Zq | apply Zp | apply Zo | refine Zn ?_ au.out) | exact HB.out)⟩⟩
        ·
         rw [if_neg da] at H
         have ez : decide (0 < ac) = false := zzo da
         clear da
         have H' := zzk H
         clear H
         have fW : wc.cell? ⟨ab,0,none⟩ = some (.int .i64 ad) := (zi aa.out 0).trans rfl
         have fX : wc.cell? ⟨ab,1,none⟩ = some (.int .i64 ah) := (zi aa.out 1).trans rfl
         have fY : wc.cell? ⟨ab,2,none⟩ = some (.int .i64 ag) := (zi aa.out 2).trans rfl
         have fZ : wc.cell? ⟨ab,3,none⟩ = some (.int .i64 af) := (zi aa.out 3).trans rfl
         have ga : wc.cell? ⟨ab,4,none⟩ = some (.slice an ai.length ao) := (zi aa.out 4).trans rfl
         have gb : wc.cell? ⟨ab,5,none⟩ = some (.slice ap aj.length aq) := (zi aa.out 5).trans rfl
         have gc : wc.cell? ⟨ab,6,none⟩ = some (.int .i64 ac) := (zi aa.out 6).trans rfl
         have gd : wc.cell? ⟨ab,7,none⟩ = some (.string ae) := (zi aa.out 7).trans rfl
         have gf : wc.cell? ⟨ab,8,none⟩ = some (.bool ak) := (zi aa.out 8).trans rfl
         have gg := zm aa.out 0
         have gh := zm aa.out 1
         have gi := zm aa.out 2
         have gj := zm aa.out 3
         have gl := zm aa.out 4
         have gm := zm aa.out 5
         have gn := zm aa.out 6
         have gp := zm aa.out 7
         have gq := zm aa.out 8
         go_wp2
         go_meet
         case rel => exact ⟨_,(aK),(by first | rfl | (simp; done) | (simp [*]; done)),H',⟨by have := HJ6.out; have := HJ21.out; first | omega | exact Nat.le_refl _⟩,⟨by (with_reducible repeat (first | refine zj ?_ _ | refine zl ?_ | refine zk ?_ _)); exact aa.out⟩,⟨by repeat (first | (with_reducible first | exact HB.out | apply Zq | apply Zp | apply Zo | refine Zn ?_ au.out) | exact HB.out)⟩⟩
      case rest =>
       clear en
       try clear c1
       try clear c2
       try clear p2
       try clear c3
       try clear p6
       try clear cW
       try clear cX
       try clear cY
       try clear gC
       try clear du
       try clear cj
       try clear aG
       try clear cZ
       try clear aL
       try clear ej
       try clear ek
       try clear da
       try clear ez
       try clear el
       try clear hz
       try clear aN
       try clear aO
       try clear aP
       try clear aQ
       try clear aR
       try clear aS
       try clear aT
       try clear aU
       try clear aV
       try clear bf
       try clear bg
       try clear bh
       try clear bi
       try clear bj
       try clear bk
       try clear bl
       try clear bm
       try clear bn
       try clear bz
       try clear bA
       try clear bB
       try clear bC
       try clear bD
       try clear bE
       try clear bF
       try clear bG
       try clear bH
       try clear bR
       try clear bS
       try clear bT
       try clear bU
       try clear bV
       try clear bW
       try clear bX
       try clear bY
       try clear bZ
       try clear db
       try clear dc
       try clear dd
       try clear de
       try clear df
       try clear dg
       try clear dh
       try clear di
       try clear dj
       try clear dv
       try clear dw
       try clear dx
       try clear dy
       try clear dz
       try clear dA
       try clear dB
       try clear dC
       try clear dD
       try clear dN
       try clear dO
       try clear dP
       try clear dQ
       try clear dR
       try clear dS
       try clear dT
       try clear dU
       try clear dV
       try clear eB
       try clear eC
       try clear eD
       try clear eE
       try clear eF
       try clear eG
       try clear eH
       try clear eI
       try clear eJ
       try clear eT
       try clear eU
       try clear eV
       try clear eW
       try clear eX
       try clear eY
       try clear eZ
       try clear fa
       try clear fb
       try clear fm
       try clear fn
       try clear fo
       try clear fp
       try clear fq
       try clear fr
       try clear fs
       try clear ft
       try clear fu
       try clear fE
       try clear fF
       try clear fG
       try clear fH
       try clear fI
       try clear fJ
       try clear fK
       try clear fL
       try clear fM
       try clear fW
       try clear fX
       try clear fY
       try clear fZ
       try clear ga
       try clear gb
       try clear gc
       try clear gd
       try clear gf
       try clear cl
       try clear cm
       try clear cn
       try clear co
       try clear cp
       try clear cq
       try clear cr
       try clear ct
       try clear cu
       try clear cE
       try clear cF
       try clear cG
       try clear cH
       try clear cI
       try clear cJ
       try clear cK
       try clear cL
       try clear cM
       try clear aW
       try clear aX
       try clear aY
       try clear aZ
       try clear ba
       try clear bb
       try clear bc
       try clear bd
       try clear be
       try clear bo
       try clear bq
       try clear br
       try clear bs
       try clear bt
       try clear bu
       try clear bv
       try clear bw
       try clear bx
       try clear bI
       try clear bJ
       try clear bK
       try clear bL
       try clear bM
       try clear bN
       try clear bO
       try clear bP
       try clear bQ
       try clear ca
       try clear cb
       try clear cc
       try clear cd
       try clear ce
       try clear cf
       try clear cg
       try clear ch
       try clear ci
       try clear dk
       try clear dl
       try clear dm
       try clear dn
       try clear dp
       try clear dq
       try clear dr
       try clear ds
       try clear dt
       try clear dE
       try clear dF
       try clear dG
       try clear dH
       try clear dI
       try clear dJ
       try clear dK
       try clear dL
       try clear dM
       try clear dW
       try clear dX
       try clear dY
       try clear dZ
       try clear ea
       try clear eb
       try clear ec
       try clear ed
       try clear ee
       try clear eK
       try clear eL
       try clear eM
       try clear eN
       try clear eO
       try clear eP
       try clear eQ
       try clear eR
       try clear eS
       try clear fc
       try clear fd
       try clear fe
       try clear fg
       try clear fh
       try clear fi
       try clear fj
       try clear fk
       try clear fl
       try clear fv
       try clear fw
       try clear fx
       try clear fy
       try clear fz
       try clear fA
       try clear fB
       try clear fC
       try clear fD
       try clear fN
       try clear fO
       try clear fP
       try clear fQ
       try clear fR
       try clear fS
       try clear fT
       try clear fU
       try clear fV
       try clear gg
       try clear gh
       try clear gi
       try clear gj
       try clear gl
       try clear gm
       try clear gn
       try clear gp
       try clear gq
       try clear cv
       try clear cw
       try clear cx
       try clear cy
       try clear cz
       try clear cA
       try clear cB
       try clear cC
       try clear cD
       try clear cN
       try clear cO
       try clear cP
       try clear cQ
       try clear cR
       try clear cS
       try clear cT
       try clear cU
       try clear cV
       try clear p2
       try clear p6
       obtain ⟨kq,ck,rfl,HA,HJ27,aa,HB⟩ := hcut
       cases kq with
       | zero => exact absurd HA.out (by simp [chunk_Check.j2])
       | succ hy =>
        have H := HA.out
        clear HA
        simp only [chunk_Check.j2] at H
        by_cases eA : ck = true
        ·
         subst eA
         have H1 : (if ac < 0 then (some 150) else (some 0)) = some r := by rw [if_pos rfl] at H; exact H
         clear H
         have H := H1
         clear H1
         by_cases ef : ac < 0
         ·
          rw [if_pos ef] at H
          have gz : decide (ac < 0) = true := zzn ef
          clear ef
          obtain rfl := zzu H
          have gD : wc.cell? ⟨ab,0,none⟩ = some (.int .i64 ad) := (zi aa.out 0).trans rfl
          have gE : wc.cell? ⟨ab,1,none⟩ = some (.int .i64 ah) := (zi aa.out 1).trans rfl
          have gF : wc.cell? ⟨ab,2,none⟩ = some (.int .i64 ag) := (zi aa.out 2).trans rfl
          have gG : wc.cell? ⟨ab,3,none⟩ = some (.int .i64 af) := (zi aa.out 3).trans rfl
          have gH : wc.cell? ⟨ab,4,none⟩ = some (.slice an ai.length ao) := (zi aa.out 4).trans rfl
          have gI : wc.cell? ⟨ab,5,none⟩ = some (.slice ap aj.length aq) := (zi aa.out 5).trans rfl
          have gJ : wc.cell? ⟨ab,6,none⟩ = some (.int .i64 ac) := (zi aa.out 6).trans rfl
          have gK : wc.cell? ⟨ab,7,none⟩ = some (.string ae) := (zi aa.out 7).trans rfl
          have gL : wc.cell? ⟨ab,8,none⟩ = some (.bool ak) := (zi aa.out 8).trans rfl
          have gM := zm aa.out 0
          have gN := zm aa.out 1
          have gO := zm aa.out 2
          have gP := zm aa.out 3
          have gQ := zm aa.out 4
          have gR := zm aa.out 5
          have gS := zm aa.out 6
          have gT := zm aa.out 7
          have gU := zm aa.out 8
          go_wp2
          go_ret
          exact ⟨by first | rfl | (simp [zzl,zzm] <;> rfl) | (simp [*,zzl,zzm] <;> rfl),by repeat (first | (with_reducible first | exact HB.out | apply Zq | apply Zp | apply Zo | refine Zn ?_ au.out) | exact HB.out)⟩
         ·
          rw [if_neg ef] at H
          have gz : decide (ac < 0) = false := zzo ef
          clear ef
          obtain rfl := zzu H
          have gV : wc.cell? ⟨ab,0,none⟩ = some (.int .i64 ad) := (zi aa.out 0).trans rfl
          have gW : wc.cell? ⟨ab,1,none⟩ = some (.int .i64 ah) := (zi aa.out 1).trans rfl
          have gX : wc.cell? ⟨ab,2,none⟩ = some (.int .i64 ag) := (zi aa.out 2).trans rfl
          have gY : wc.cell? ⟨ab,3,none⟩ = some (.int .i64 af) := (zi aa.out 3).trans rfl
          have gZ : wc.cell? ⟨ab,4,none⟩ = some (.slice an ai.length ao) := (zi aa.out 4).trans rfl
          have ha : wc.cell? ⟨ab,5,none⟩ = some (.slice ap aj.length aq) := (zi aa.out 5).trans rfl
          have hc : wc.cell? ⟨ab,6,none⟩ = some (.int .i64 ac) := (zi aa.out 6).trans rfl
          have hf : wc.cell? ⟨ab,7,none⟩ = some (.string ae) := (zi aa.out 7).trans rfl
          have hh : wc.cell? ⟨ab,8,none⟩ = some (.bool ak) := (zi aa.out 8).trans rfl
          have hj := zm aa.out 0
          have hl := zm aa.out 1
          have hm := zm aa.out 2
          have hn := zm aa.out 3
          have hq := zm aa.out 4
          have ht := zm aa.out 5
          have hu := zm aa.out 6
          have hv := zm aa.out 7
          have hw := zm aa.out 8
          go_wp2
          go_ret
          exact ⟨by first | rfl | (simp [zzl,zzm] <;> rfl) | (simp [*,zzl,zzm] <;> rfl),by repeat (first | (with_reducible first | exact HB.out | apply Zq | apply Zp | apply Zo | refine Zn ?_ au.out) | exact HB.out)⟩
        ·
         replace eA := Bool.eq_false_iff.mpr eA
         subst eA
         have H1 : (some 150) = some r := by rw [if_neg (show ¬ (false = true) by decide)] at H; exact H
         clear H
         have H := H1
         clear H1
         obtain rfl := zzu H
         go_wp2
         go_ret
         exact ⟨by first | rfl | (simp [zzl,zzm] <;> rfl) | (simp [*,zzl,zzm] <;> rfl),by repeat (first | (with_reducible first | exact HB.out | apply Zq | apply Zp | apply Zo | refine Zn ?_ au.out) | exact HB.out)⟩
end Go.Proofs.Ytpagkmdlmhdenaa.PAll
