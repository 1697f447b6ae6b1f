-- Written by a program of the session.
import Derived.Test.YtpagkmdlmhdenaaAlAll
import Derived.Test.YtpagkmdlmhdenaaPAllx0
import Derived.Test.YtpagkmdlmhdenaaPAllx3
import Derived.Test.YtpagkmdlmhdenaaPAllx4
import Derived.Test.YtpagkmdlmhdenaaPAllx6
import Derived.Test.YtpagkmdlmhdenaaPAllx8
namespace Go.Proofs.Ytpagkmdlmhdenaa.PAll
open Go.RowKit Go.Proofs.YtpagkmdlmhdenaaW.PrintWords Go.Proofs.YtpagkmdlmhdenaaW.PrintLast Go.Proofs.YtpagkmdlmhdenaaW.PrintMore
attribute [local go_sem] max2_int min2_int max_two min_two max_three min_three max_four min_four   -- for this text's walks alone
set_option linter.unusedVariables false
set_option linter.unusedSimpArgs false
/-! ### L_ChunkCuts: function 3 -/
def L_ChunkCuts.f (k : Nat) (ae : Int) (af : Int) (ac : List Int) (ad : List Int) (ag : ByteArray) (a1 : Int) : Option (Bool) := (L_large.f ae af ac ad ag).bind fun av => (if av = true then (some true) else ((chunk_Cut.f ae af ac ad ag a1).bind fun ao => ((r16_Cut.f k ae af ac ad ag a1).bind fun ah => ((L_cuts.f).bind fun ap => (if ap = true then (if ao.1.toList = ah.1.toList then (some (ao.2 == ah.2)) else (none)) else (none))))))
set_option maxHeartbeats 8000000 in
set_option maxRecDepth 100000 in
theorem L_ChunkCuts.calls (k : Nat) (ae : Int) (af : Int) (ai : Option Addr) (aj : Nat) (ac : List Int) (ak : Option Addr) (al : Nat) (ad : List Int) (ag : ByteArray) (a1 : Int) (r : Bool) (w : World) (aI : Kd.C (Kd.int .i64) w ai ac.length ac) (aJ : ac.length ≤ aj) (aK : Kd.C (Kd.int .i64) w ak ad.length ad) (aL : ad.length ≤ al) (h : L_ChunkCuts.f k ae af ac ad ag a1 = some r) :
 Calls Try.prog 3 #[.agg #[.int .i64 ae,.int .i64 af,.slice ai ac.length aj,.slice ak ad.length al,.string ag],.int .i64 a1] w fun e w' => e = .returned (.bool r) ∧ Below w.heap.size w w' := by
 have hu26 := Try.underlying26
 have aw := zzk aI
 have ax := zzk aJ
 clear aI aJ
 have ay := zzk aK
 have az := zzk aL
 clear aK aL
 have HB := zzk (Below.refl w.heap.size w)
 have H : ((L_large.f ae af ac ad ag).bind fun av => (if av = true then (some true) else ((chunk_Cut.f ae af ac ad ag a1).bind fun ao => ((r16_Cut.f k ae af ac ad ag a1).bind fun ah => ((L_cuts.f).bind fun ap => (if ap = true then (if ao.1.toList = ah.1.toList then (some (ao.2 == ah.2)) else (none)) else (none))))))) = some r := h
 clear h
 replace H := Option.bind_eq_some_iff.mp H
 obtain ⟨av,aP,H⟩ := H
 replace H : (if av = true then (some true) else ((chunk_Cut.f ae af ac ad ag a1).bind fun ao => ((r16_Cut.f k ae af ac ad ag a1).bind fun ah => ((L_cuts.f).bind fun ap => (if ap = true then (if ao.1.toList = ah.1.toList then (some (ao.2 == ah.2)) else (none)) else (none)))))) = some r := H
 have A3 := zzk aP
 clear aP
 by_cases c4 : av = true
 ·
  subst c4
  have H1 : (some true) = some r := by rw [if_pos rfl] at H; exact H
  clear H
  have H := H1
  clear H1
  obtain rfl := zzu H
  go_enter Try.func3,Try.ntmps3
  go_wp2_with (first | ((with_reducible refine Zy (N := 2) rfl ?_); refine zzc ?hg (N := 2) ?hd (cs := #[.int .i64 ae,.int .i64 af,.slice ai ac.length aj,.slice ak ad.length al,.string ag]) (t := 26) ?hr ?_; (case hd => rfl); (case hg => rfl); (case hr => first | (go_simp; done) | (go_simp; rfl)); intro ab hg w5 hbox hb; have am := zzk (Zs (by repeat (first | (with_reducible first | exact HB.out | apply Zq | apply Zp | apply Zo) | exact HB.out)) hb); have an := zzk (hbox); have aC := zzk ((by rw [hg]; exact (Zr (by repeat (first | (with_reducible first | exact HB.out | apply Zq | apply Zp | apply Zo) | exact HB.out))) : w.heap.size ≤ ab)); have aD := zzk ((by rw [hg]; exact (Zr (by repeat (first | (with_reducible first | exact HB.out | apply Zq | apply Zp | apply Zo) | exact HB.out))) : w.heap.size ≤ ab)); clear HB; have HB := am; have aa := an; have aO := aC; have aq := aD; clear am an aC aD; clear hb hbox hg; have bx : w5.cell? ⟨ab,0,none⟩ = some (.int .i64 ae) := (zi aa.out 0).trans rfl; have bz : w5.cell? ⟨ab,1,none⟩ = some (.int .i64 af) := (zi aa.out 1).trans rfl; have bA : w5.cell? ⟨ab,2,none⟩ = some (.slice ai ac.length aj) := (zi aa.out 2).trans rfl; have bB : w5.cell? ⟨ab,3,none⟩ = some (.slice ak ad.length al) := (zi aa.out 3).trans rfl; have bC : w5.cell? ⟨ab,4,none⟩ = some (.string ag) := (zi aa.out 4).trans rfl; have bD := zm aa.out 0; have bE := zm aa.out 1; have bF := zm aa.out 2; have bG := zm aa.out 3; have bH := zm aa.out 4) | ((with_reducible refine zza (f := 8) rfl ?_); refine zzd (some 10) rfl rfl Try.func8 (by kernel_rfl) rfl #[.agg #[.int .i64 ae,.int .i64 af,.slice ai ac.length aj,.slice ak ad.length al,.string ag]] rfl (by (try simp only [zd,ze,zf]); first | done | rfl | (simp only [zg,zh]; rfl)) ?_; (with_reducible refine (L_large.calls ae af _ _ ac _ _ ad ag true _ ?side1 ?side2 ?side3 ?side4 A3.out).mono ?_); (case side1 => repeat (first | exact (Zm aw.out HB.out) | (with_reducible refine Zk ?_ _) | (with_reducible refine Zj ?_ _) | (with_reducible refine Zl ?_))); (case side2 => exact ax.out); (case side3 => repeat (first | exact (Zm ay.out HB.out) | (with_reducible refine Zk ?_ _) | (with_reducible refine Zj ?_ _) | (with_reducible refine Zl ?_))); (case side4 => exact az.out); rintro e w7 ⟨rfl,hb⟩; refine ⟨_,rfl,?_⟩; have am := zzk (zo (g := ab) (o := .cells #[.int .i64 ae,.int .i64 af,.slice ai ac.length aj,.slice ak ad.length al,.string ag] 26 (0,0)) (by (with_reducible repeat (first | refine zj ?_ _ | refine zl ?_ | refine zk ?_ _)); exact aa.out) hb); have an := zzk (Zs (by repeat (first | (with_reducible first | exact HB.out | apply Zq | apply Zp | apply Zo | refine Zn ?_ aq.out) | exact HB.out)) hb); clear aa; clear HB; have aa := am; have HB := an; clear am an; (try clear hb); (try clear hb2); (try clear hk); (try clear hi)))
  go_ret
  exact ⟨by first | rfl | (simp [zzl,zzm] <;> rfl) | (simp [*,zzl,zzm] <;> rfl),by repeat (first | (with_reducible first | exact HB.out | apply Zq | apply Zp | apply Zo | refine Zn ?_ aq.out) | exact HB.out)⟩
 ·
  replace c4 := Bool.eq_false_iff.mpr c4
  subst c4
  have H1 : ((chunk_Cut.f ae af ac ad ag a1).bind fun ao => ((r16_Cut.f k ae af ac ad ag a1).bind fun ah => ((L_cuts.f).bind fun ap => (if ap = true then (if ao.1.toList = ah.1.toList then (some (ao.2 == ah.2)) else (none)) else (none))))) = some r := by rw [if_neg (show ¬ (false = true) by decide)] at H; exact H
  clear H
  have H := H1
  clear H1
  replace H := Option.bind_eq_some_iff.mp H
  obtain ⟨⟨ar,aA⟩,aQ,H⟩ := H
  replace H : ((r16_Cut.f k ae af ac ad ag a1).bind fun ah => ((L_cuts.f).bind fun ap => (if ap = true then (if ar.toList = ah.1.toList then (some (aA == ah.2)) else (none)) else (none)))) = some r := H
  have A8 := zzk aQ
  clear aQ
  replace H := Option.bind_eq_some_iff.mp H
  obtain ⟨⟨au,aB⟩,aR,H⟩ := H
  replace H : ((L_cuts.f).bind fun ap => (if ap = true then (if ar.toList = au.toList then (some (aA == aB)) else (none)) else (none))) = some r := H
  have A9 := zzk aR
  clear aR
  replace H := Option.bind_eq_some_iff.mp H
  obtain ⟨ap,aN,H⟩ := H
  replace H : (if ap = true then (if ar.toList = au.toList then (some (aA == aB)) else (none)) else (none)) = some r := H
  have bI := zzk aN
  clear aN
  by_cases aM : ap = true
  ·
   subst aM
   have H1 : (if ar.toList = au.toList then (some (aA == aB)) else (none)) = some r := by rw [if_pos rfl] at H; exact H
   clear H
   have H := H1
   clear H1
   by_cases aE : ar.toList = au.toList
   ·
    rw [if_pos aE] at H
    have bJ : (ar.toList == au.toList) = true := beq_iff_eq.mpr aE
    have bK : (ar.toList != au.toList) = false := bne_eq_false_iff_eq.mpr aE
    clear aE
    obtain rfl := zzu H
    go_enter Try.func3,Try.ntmps3
    go_wp2_with (first | ((with_reducible refine Zy (N := 2) rfl ?_); refine zzc ?hg (N := 2) ?hd (cs := #[.int .i64 ae,.int .i64 af,.slice ai ac.length aj,.slice ak ad.length al,.string ag]) (t := 26) ?hr ?_; (case hd => rfl); (case hg => rfl); (case hr => first | (go_simp; done) | (go_simp; rfl)); intro ab hg aF hbox hb; have am := zzk (Zs (by repeat (first | (with_reducible first | exact HB.out | apply Zq | apply Zp | apply Zo) | exact HB.out)) hb); have an := zzk (hbox); have aC := zzk ((by rw [hg]; exact (Zr (by repeat (first | (with_reducible first | exact HB.out | apply Zq | apply Zp | apply Zo) | exact HB.out))) : w.heap.size ≤ ab)); have aD := zzk ((by rw [hg]; exact (Zr (by repeat (first | (with_reducible first | exact HB.out | apply Zq | apply Zp | apply Zo) | exact HB.out))) : w.heap.size ≤ ab)); clear HB; have HB := am; have aa := an; have aO := aC; have aq := aD; clear am an aC aD; clear hb hbox hg; have aS : aF.cell? ⟨ab,0,none⟩ = some (.int .i64 ae) := (zi aa.out 0).trans rfl; have aT : aF.cell? ⟨ab,1,none⟩ = some (.int .i64 af) := (zi aa.out 1).trans rfl; have aU : aF.cell? ⟨ab,2,none⟩ = some (.slice ai ac.length aj) := (zi aa.out 2).trans rfl; have aV : aF.cell? ⟨ab,3,none⟩ = some (.slice ak ad.length al) := (zi aa.out 3).trans rfl; have aW : aF.cell? ⟨ab,4,none⟩ = some (.string ag) := (zi aa.out 4).trans rfl; have aX := zm aa.out 0; have aY := zm aa.out 1; have aZ := zm aa.out 2; have ba := zm aa.out 3; have bb := zm aa.out 4) | ((with_reducible refine zza (f := 8) rfl ?_); refine zzd (some 10) rfl rfl Try.func8 (by kernel_rfl) rfl #[.agg #[.int .i64 ae,.int .i64 af,.slice ai ac.length aj,.slice ak ad.length al,.string ag]] rfl (by (try simp only [zd,ze,zf]); first | done | rfl | (simp only [zg,zh]; rfl)) ?_; (with_reducible refine (L_large.calls ae af _ _ ac _ _ ad ag false _ ?side1 ?side2 ?side3 ?side4 A3.out).mono ?_); (case side1 => repeat (first | exact (Zm aw.out HB.out) | (with_reducible refine Zk ?_ _) | (with_reducible refine Zj ?_ _) | (with_reducible refine Zl ?_))); (case side2 => exact ax.out); (case side3 => repeat (first | exact (Zm ay.out HB.out) | (with_reducible refine Zk ?_ _) | (with_reducible refine Zj ?_ _) | (with_reducible refine Zl ?_))); (case side4 => exact az.out); rintro e aG ⟨rfl,hb⟩; refine ⟨_,rfl,?_⟩; have am := zzk (zo (g := ab) (o := .cells #[.int .i64 ae,.int .i64 af,.slice ai ac.length aj,.slice ak ad.length al,.string ag] 26 (0,0)) (by (with_reducible repeat (first | refine zj ?_ _ | refine zl ?_ | refine zk ?_ _)); exact aa.out) hb); have an := zzk (Zs (by repeat (first | (with_reducible first | exact HB.out | apply Zq | apply Zp | apply Zo | refine Zn ?_ aq.out) | exact HB.out)) hb); clear aa; clear HB; have aa := am; have HB := an; clear am an; (try clear hb); (try clear hb2); (try clear hk); (try clear hi); have bc : aG.cell? ⟨ab,0,none⟩ = some (.int .i64 ae) := (zi aa.out 0).trans rfl; have bd : aG.cell? ⟨ab,1,none⟩ = some (.int .i64 af) := (zi aa.out 1).trans rfl; have be : aG.cell? ⟨ab,2,none⟩ = some (.slice ai ac.length aj) := (zi aa.out 2).trans rfl; have bf : aG.cell? ⟨ab,3,none⟩ = some (.slice ak ad.length al) := (zi aa.out 3).trans rfl; have bg : aG.cell? ⟨ab,4,none⟩ = some (.string ag) := (zi aa.out 4).trans rfl; have bh := zm aa.out 0; have bi := zm aa.out 1; have bj := zm aa.out 2; have bk := zm aa.out 3; have bl := zm aa.out 4) | ((with_reducible refine zza (f := 9) rfl ?_); refine zzd (some 14) rfl rfl Try.func9 (by kernel_rfl) rfl #[.agg #[.int .i64 ae,.int .i64 af,.slice ai ac.length aj,.slice ak ad.length al,.string ag],.int .i64 a1] rfl (by (try simp only [zd,ze,zf]); first | done | rfl | (simp only [zg,zh]; rfl)) ?_; (with_reducible refine (chunk_Cut.calls ae af _ _ ac _ _ ad ag a1 ar aA _ ?side1 ?side2 ?side3 ?side4 A8.out).mono ?_); (case side1 => repeat (first | exact (Zm aw.out HB.out) | (with_reducible refine Zk ?_ _) | (with_reducible refine Zj ?_ _) | (with_reducible refine Zl ?_))); (case side2 => exact ax.out); (case side3 => repeat (first | exact (Zm ay.out HB.out) | (with_reducible refine Zk ?_ _) | (with_reducible refine Zj ?_ _) | (with_reducible refine Zl ?_))); (case side4 => exact az.out); rintro e aH ⟨rfl,hb⟩; refine ⟨_,rfl,?_⟩; have am := zzk (zo (g := ab) (o := .cells #[.int .i64 ae,.int .i64 af,.slice ai ac.length aj,.slice ak ad.length al,.string ag] 26 (0,0)) (by (with_reducible repeat (first | refine zj ?_ _ | refine zl ?_ | refine zk ?_ _)); exact aa.out) hb); have an := zzk (Zs (by repeat (first | (with_reducible first | exact HB.out | apply Zq | apply Zp | apply Zo | refine Zn ?_ aq.out) | exact HB.out)) hb); clear aa; clear HB; have aa := am; have HB := an; clear am an; (try clear hb); (try clear hb2); (try clear hk); (try clear hi); have bm : aH.cell? ⟨ab,0,none⟩ = some (.int .i64 ae) := (zi aa.out 0).trans rfl; have bn : aH.cell? ⟨ab,1,none⟩ = some (.int .i64 af) := (zi aa.out 1).trans rfl; have bo : aH.cell? ⟨ab,2,none⟩ = some (.slice ai ac.length aj) := (zi aa.out 2).trans rfl; have bq : aH.cell? ⟨ab,3,none⟩ = some (.slice ak ad.length al) := (zi aa.out 3).trans rfl; have br : aH.cell? ⟨ab,4,none⟩ = some (.string ag) := (zi aa.out 4).trans rfl; have bs := zm aa.out 0; have bt := zm aa.out 1; have bu := zm aa.out 2; have bv := zm aa.out 3; have bw := zm aa.out 4) | ((with_reducible refine zza (f := 10) rfl ?_); refine zzd (some 20) rfl rfl Try.func10 (by kernel_rfl) rfl #[.agg #[.int .i64 ae,.int .i64 af,.slice ai ac.length aj,.slice ak ad.length al,.string ag],.int .i64 a1] rfl (by (try simp only [zd,ze,zf]); first | done | rfl | (simp only [zg,zh]; rfl)) ?_; (with_reducible refine (r16_Cut.calls k ae af _ _ ac _ _ ad ag a1 au aB _ ?side1 ?side2 ?side3 ?side4 A9.out).mono ?_); (case side1 => repeat (first | exact (Zm aw.out HB.out) | (with_reducible refine Zk ?_ _) | (with_reducible refine Zj ?_ _) | (with_reducible refine Zl ?_))); (case side2 => exact ax.out); (case side3 => repeat (first | exact (Zm ay.out HB.out) | (with_reducible refine Zk ?_ _) | (with_reducible refine Zj ?_ _) | (with_reducible refine Zl ?_))); (case side4 => exact az.out); rintro e bL ⟨rfl,hb⟩; refine ⟨_,rfl,?_⟩; have am := zzk (zo (g := ab) (o := .cells #[.int .i64 ae,.int .i64 af,.slice ai ac.length aj,.slice ak ad.length al,.string ag] 26 (0,0)) (by (with_reducible repeat (first | refine zj ?_ _ | refine zl ?_ | refine zk ?_ _)); exact aa.out) hb); have an := zzk (Zs (by repeat (first | (with_reducible first | exact HB.out | apply Zq | apply Zp | apply Zo | refine Zn ?_ aq.out) | exact HB.out)) hb); clear aa; clear HB; have aa := am; have HB := an; clear am an; (try clear hb); (try clear hb2); (try clear hk); (try clear hi)) | ((with_reducible refine zza (f := 11) rfl ?_); refine zzd (some 23) rfl rfl Try.func11 (by kernel_rfl) rfl #[] rfl (by (try simp only [zd,ze,zf]); first | done | rfl | (simp only [zg,zh]; rfl)) ?_; (with_reducible refine (L_cuts.calls  true _ bI.out).mono ?_); rintro e bM ⟨rfl,hb⟩; refine ⟨_,rfl,?_⟩; have am := zzk (zo (g := ab) (o := .cells #[.int .i64 ae,.int .i64 af,.slice ai ac.length aj,.slice ak ad.length al,.string ag] 26 (0,0)) (by (with_reducible repeat (first | refine zj ?_ _ | refine zl ?_ | refine zk ?_ _)); exact aa.out) hb); have an := zzk (Zs (by repeat (first | (with_reducible first | exact HB.out | apply Zq | apply Zp | apply Zo | refine Zn ?_ aq.out) | exact HB.out)) hb); clear aa; clear HB; have aa := am; have HB := an; clear am an; (try clear hb); (try clear hb2); (try clear hk); (try clear hi)))
    go_ret
    exact ⟨by first | rfl | (simp [zzl,zzm] <;> rfl) | (simp [*,zzl,zzm] <;> rfl),by repeat (first | (with_reducible first | exact HB.out | apply Zq | apply Zp | apply Zo | refine Zn ?_ aq.out) | exact HB.out)⟩
   ·
    rw [if_neg aE] at H
    exact absurd H (by simp)
  ·
   replace aM := Bool.eq_false_iff.mpr aM
   subst aM
   have H1 : (none) = some r := by rw [if_neg (show ¬ (false = true) by decide)] at H; exact H
   clear H
   have H := H1
   clear H1
   exact absurd H (by simp)
end Go.Proofs.Ytpagkmdlmhdenaa.PAll
