-- Written by a program of the session.
import Derived.Test.YtpagkmdlmhdenaaAlAll
import Derived.Test.YtpagkmdlmhdenaaPAllx0
import Derived.Test.YtpagkmdlmhdenaaPAllx4
import Derived.Test.YtpagkmdlmhdenaaPAllx7
namespace Go.Proofs.Ytpagkmdlmhdenaa.PAll
open Go.RowKit Go.Proofs.YtpagkmdlmhdenaaW.PrintWords Go.Proofs.YtpagkmdlmhdenaaW.PrintLast Go.Proofs.YtpagkmdlmhdenaaW.PrintMore
attribute [local go_sem] max2_int min2_int max_two min_two max_three min_three max_four min_four   -- for this text's walks alone
set_option linter.unusedVariables false
set_option linter.unusedSimpArgs false
/-! ### L_cuts: function 11 -/
def L_cuts.f  : Option (Bool) := (L_some.f).bind fun ai => ((chunk_Cut.f ai.1 ai.2.1 ai.2.2.1 ai.2.2.2.1 ai.2.2.2.2 0).bind fun am => ((L_some.f).bind fun ab => ((chunk_Cut.f ab.1 ab.2.1 ab.2.2.1 ab.2.2.2.1 ab.2.2.2.2 96).bind fun ae => ((L_some.f).bind fun aa => ((chunk_Cut.f aa.1 aa.2.1 aa.2.2.1 aa.2.2.2.1 aa.2.2.2.2 4).bind fun ah => (if am.2 = 0 then (if (am.1.size : Int) = 96 then (if ae.2 = 0 then (if (ae.1.size : Int) = 4 then (some (ah.2 == 150)) else (none)) else (none)) else (none)) else (none)))))))
set_option maxHeartbeats 8000000 in
set_option maxRecDepth 100000 in
theorem L_cuts.calls  (r : Bool) (w : World) (h : L_cuts.f  = some r) :
 Calls Try.prog 11 #[] w fun e w' => e = .returned (.bool r) ∧ Below w.heap.size w w' := by
 have HB := zzk (Below.refl w.heap.size w)
 have H : ((L_some.f).bind fun ai => ((chunk_Cut.f ai.1 ai.2.1 ai.2.2.1 ai.2.2.2.1 ai.2.2.2.2 0).bind fun am => ((L_some.f).bind fun ab => ((chunk_Cut.f ab.1 ab.2.1 ab.2.2.1 ab.2.2.2.1 ab.2.2.2.2 96).bind fun ae => ((L_some.f).bind fun aa => ((chunk_Cut.f aa.1 aa.2.1 aa.2.2.1 aa.2.2.2.1 aa.2.2.2.2 4).bind fun ah => (if am.2 = 0 then (if (am.1.size : Int) = 96 then (if ae.2 = 0 then (if (ae.1.size : Int) = 4 then (some (ah.2 == 150)) else (none)) else (none)) else (none)) else (none)))))))) = some r := h
 clear h
 replace H := Option.bind_eq_some_iff.mp H
 obtain ⟨⟨ax,ay,az,aA,aB⟩,aQ,H⟩ := H
 replace H : ((chunk_Cut.f ax ay az aA aB 0).bind fun am => ((L_some.f).bind fun ab => ((chunk_Cut.f ab.1 ab.2.1 ab.2.2.1 ab.2.2.2.1 ab.2.2.2.2 96).bind fun ae => ((L_some.f).bind fun aa => ((chunk_Cut.f aa.1 aa.2.1 aa.2.2.1 aa.2.2.2.1 aa.2.2.2.2 4).bind fun ah => (if am.2 = 0 then (if (am.1.size : Int) = 96 then (if ae.2 = 0 then (if (ae.1.size : Int) = 4 then (some (ah.2 == 150)) else (none)) else (none)) else (none)) else (none))))))) = some r := H
 have A1 := zzk aQ
 clear aQ
 replace H := Option.bind_eq_some_iff.mp H
 obtain ⟨⟨an,ao⟩,aR,H⟩ := H
 replace H : ((L_some.f).bind fun ab => ((chunk_Cut.f ab.1 ab.2.1 ab.2.2.1 ab.2.2.2.1 ab.2.2.2.2 96).bind fun ae => ((L_some.f).bind fun aa => ((chunk_Cut.f aa.1 aa.2.1 aa.2.2.1 aa.2.2.2.1 aa.2.2.2.2 4).bind fun ah => (if ao = 0 then (if (an.size : Int) = 96 then (if ae.2 = 0 then (if (ae.1.size : Int) = 4 then (some (ah.2 == 150)) else (none)) else (none)) else (none)) else (none)))))) = some r := H
 have A2 := zzk aR
 clear aR
 replace H := Option.bind_eq_some_iff.mp H
 obtain ⟨⟨aC,aD,aE,aF,aG⟩,aS,H⟩ := H
 replace H : ((chunk_Cut.f aC aD aE aF aG 96).bind fun ae => ((L_some.f).bind fun aa => ((chunk_Cut.f aa.1 aa.2.1 aa.2.2.1 aa.2.2.2.1 aa.2.2.2.2 4).bind fun ah => (if ao = 0 then (if (an.size : Int) = 96 then (if ae.2 = 0 then (if (ae.1.size : Int) = 4 then (some (ah.2 == 150)) else (none)) else (none)) else (none)) else (none))))) = some r := H
 have A3 := zzk aS
 clear aS
 replace H := Option.bind_eq_some_iff.mp H
 obtain ⟨⟨av,aw⟩,aT,H⟩ := H
 replace H : ((L_some.f).bind fun aa => ((chunk_Cut.f aa.1 aa.2.1 aa.2.2.1 aa.2.2.2.1 aa.2.2.2.2 4).bind fun ah => (if ao = 0 then (if (an.size : Int) = 96 then (if aw = 0 then (if (av.size : Int) = 4 then (some (ah.2 == 150)) else (none)) else (none)) else (none)) else (none)))) = some r := H
 have A4 := zzk aT
 clear aT
 replace H := Option.bind_eq_some_iff.mp H
 obtain ⟨⟨aH,aI,aJ,aK,aL⟩,aU,H⟩ := H
 replace H : ((chunk_Cut.f aH aI aJ aK aL 4).bind fun ah => (if ao = 0 then (if (an.size : Int) = 96 then (if aw = 0 then (if (av.size : Int) = 4 then (some (ah.2 == 150)) else (none)) else (none)) else (none)) else (none))) = some r := H
 have A5 := zzk aU
 clear aU
 replace H := Option.bind_eq_some_iff.mp H
 obtain ⟨⟨aW,aP⟩,aV,H⟩ := H
 replace H : (if ao = 0 then (if (an.size : Int) = 96 then (if aw = 0 then (if (av.size : Int) = 4 then (some (aP == 150)) else (none)) else (none)) else (none)) else (none)) = some r := H
 have A6 := zzk aV
 clear aV
 by_cases c7 : ao = 0
 ·
  rw [if_pos c7] at H
  have bl : (ao == 0) = true := beq_iff_eq.mpr c7
  have bm : (ao != 0) = false := bne_eq_false_iff_eq.mpr c7
  clear c7
  by_cases c8 : (an.size : Int) = 96
  ·
   rw [if_pos c8] at H
   have bn : ((an.size : Int) == 96) = true := beq_iff_eq.mpr c8
   have bo : ((an.size : Int) != 96) = false := bne_eq_false_iff_eq.mpr c8
   clear c8
   by_cases c9 : aw = 0
   ·
    rw [if_pos c9] at H
    have bq : (aw == 0) = true := beq_iff_eq.mpr c9
    have br : (aw != 0) = false := bne_eq_false_iff_eq.mpr c9
    clear c9
    by_cases aM : (av.size : Int) = 4
    ·
     rw [if_pos aM] at H
     have bj : ((av.size : Int) == 4) = true := beq_iff_eq.mpr aM
     have bk : ((av.size : Int) != 4) = false := bne_eq_false_iff_eq.mpr aM
     clear aM
     obtain rfl := zzu H
     go_enter Try.func11,Try.ntmps11
     go_wp2_with (first | ((with_reducible refine zza (f := 29) rfl ?_); refine zzd (some 8) rfl rfl Try.func29 (by kernel_rfl) rfl #[] rfl (by (try simp only [zd,ze,zf]); first | done | rfl | (simp only [zg,zh]; rfl)) ?_; (with_reducible refine (L_some.calls  ax ay az aA aB _ A1.out).mono ?_); rintro e bz ⟨bs,bt,rfl,ho0,ho1,hb⟩; refine ⟨_,rfl,?_⟩; have aj := zzk (Za ho0 (Zr (by repeat (first | (with_reducible first | exact HB.out | apply Zq | apply Zp | apply Zo) | exact HB.out)))); have ak := zzk (Za ho1 (Zr (by repeat (first | (with_reducible first | exact HB.out | apply Zq | apply Zp | apply Zo) | exact HB.out)))); have al := zzk (Zs (by repeat (first | (with_reducible first | exact HB.out | apply Zq | apply Zp | apply Zo) | exact HB.out)) hb); clear HB; have ac := aj; have ad := ak; have HB := al; clear aj ak al; (try clear hb); (try clear hb2); (try clear hk); (try clear hi); (try clear ho0); (try clear ho1); obtain ⟨aX,aY,eo12⟩ := zz ac.out; subst eo12; obtain ⟨aZ,ba,eo13⟩ := zz ad.out; subst eo13) | ((with_reducible refine zza (f := 9) rfl ?_); refine zzd (some 9) rfl rfl Try.func9 (by kernel_rfl) rfl #[.agg #[.int .i64 ax,.int .i64 ay,.slice aX az.length aY,.slice aZ aA.length ba,.string aB],.int .i64 0] rfl (by (try simp only [zd,ze,zf]); first | done | rfl | (simp only [zg,zh]; rfl)) ?_; (with_reducible refine (chunk_Cut.calls ax ay _ _ az _ _ aA aB 0 an ao _ ?side1 ?side2 ?side3 ?side4 A2.out).mono ?_); (case side1 => repeat (first | exact (zw ac.out).2.2 | (with_reducible refine Zk ?_ _) | (with_reducible refine Zj ?_ _) | (with_reducible refine Zl ?_))); (case side2 => exact (zw ac.out).2.1); (case side3 => repeat (first | exact (zw ad.out).2.2 | (with_reducible refine Zk ?_ _) | (with_reducible refine Zj ?_ _) | (with_reducible refine Zl ?_))); (case side4 => exact (zw ad.out).2.1); rintro e bA ⟨rfl,hb⟩; refine ⟨_,rfl,?_⟩; have aj := zzk (zv (by (with_reducible repeat (first | apply zu | apply zt | apply zs)); exact ac.out) hb); have ak := zzk (zv (by (with_reducible repeat (first | apply zu | apply zt | apply zs)); exact ad.out) hb); have al := zzk (Zs (by repeat (first | (with_reducible first | exact HB.out | apply Zq | apply Zp | apply Zo) | exact HB.out)) hb); clear ac; clear ad; clear HB; have ac := aj; have ad := ak; have HB := al; clear aj ak al; (try clear hb); (try clear hb2); (try clear hk); (try clear hi)) | ((with_reducible refine zza (f := 29) rfl ?_); refine zzd (some 13) rfl rfl Try.func29 (by kernel_rfl) rfl #[] rfl (by (try simp only [zd,ze,zf]); first | done | rfl | (simp only [zg,zh]; rfl)) ?_; (with_reducible refine (L_some.calls  aC aD aE aF aG _ A3.out).mono ?_); rintro e bB ⟨bu,bv,rfl,ho0,ho1,hb⟩; refine ⟨_,rfl,?_⟩; have aj := zzk (zx (Zc (Zc (Kd.R_old (by (with_reducible repeat (first | apply zu | apply zt | apply zs)); exact ac.out) hb) (Zd ho0)) (Zd ho1)) (fun _ h_ => h_.1)); have ak := zzk (zx (Zc (Zc (Kd.R_old (by (with_reducible repeat (first | apply zu | apply zt | apply zs)); exact ad.out) hb) (Zd ho0)) (Zd ho1)) (fun _ h_ => h_.1)); have al := zzk (Za (Zb (Zb ho0 (Kd.R_lt (by (with_reducible repeat (first | apply zu | apply zt | apply zs)); exact ac.out))) (Kd.R_lt (by (with_reducible repeat (first | apply zu | apply zt | apply zs)); exact ad.out))) (Zr (by repeat (first | (with_reducible first | exact HB.out | apply Zq | apply Zp | apply Zo) | exact HB.out)))); have ap := zzk (Za (Zb (Zb ho1 (Kd.R_lt (by (with_reducible repeat (first | apply zu | apply zt | apply zs)); exact ac.out))) (Kd.R_lt (by (with_reducible repeat (first | apply zu | apply zt | apply zs)); exact ad.out))) (Zr (by repeat (first | (with_reducible first | exact HB.out | apply Zq | apply Zp | apply Zo) | exact HB.out)))); have aq := zzk (Zs (by repeat (first | (with_reducible first | exact HB.out | apply Zq | apply Zp | apply Zo) | exact HB.out)) hb); clear ac; clear ad; clear HB; have ac := aj; have ad := ak; have af := al; have ag := ap; have HB := aq; clear aj ak al ap aq; (try clear hb); (try clear hb2); (try clear hk); (try clear hi); (try clear ho0); (try clear ho1); obtain ⟨bb,bc,eo16⟩ := zz af.out; subst eo16; obtain ⟨bd,be,eo17⟩ := zz ag.out; subst eo17) | ((with_reducible refine zza (f := 9) rfl ?_); refine zzd (some 14) rfl rfl Try.func9 (by kernel_rfl) rfl #[.agg #[.int .i64 aC,.int .i64 aD,.slice bb aE.length bc,.slice bd aF.length be,.string aG],.int .i64 96] rfl (by (try simp only [zd,ze,zf]); first | done | rfl | (simp only [zg,zh]; rfl)) ?_; (with_reducible refine (chunk_Cut.calls aC aD _ _ aE _ _ aF aG 96 av aw _ ?side1 ?side2 ?side3 ?side4 A4.out).mono ?_); (case side1 => repeat (first | exact (zw af.out).2.2 | (with_reducible refine Zk ?_ _) | (with_reducible refine Zj ?_ _) | (with_reducible refine Zl ?_))); (case side2 => exact (zw af.out).2.1); (case side3 => repeat (first | exact (zw ag.out).2.2 | (with_reducible refine Zk ?_ _) | (with_reducible refine Zj ?_ _) | (with_reducible refine Zl ?_))); (case side4 => exact (zw ag.out).2.1); rintro e bC ⟨rfl,hb⟩; refine ⟨_,rfl,?_⟩; have aj := zzk (zv (by (with_reducible repeat (first | apply zu | apply zt | apply zs)); exact ac.out) hb); have ak := zzk (zv (by (with_reducible repeat (first | apply zu | apply zt | apply zs)); exact ad.out) hb); have al := zzk (zv (by (with_reducible repeat (first | apply zu | apply zt | apply zs)); exact af.out) hb); have ap := zzk (zv (by (with_reducible repeat (first | apply zu | apply zt | apply zs)); exact ag.out) hb); have aq := zzk (Zs (by repeat (first | (with_reducible first | exact HB.out | apply Zq | apply Zp | apply Zo) | exact HB.out)) hb); clear ac; clear ad; clear af; clear ag; clear HB; have ac := aj; have ad := ak; have af := al; have ag := ap; have HB := aq; clear aj ak al ap aq; (try clear hb); (try clear hb2); (try clear hk); (try clear hi)) | ((with_reducible refine zza (f := 29) rfl ?_); refine zzd (some 18) rfl rfl Try.func29 (by kernel_rfl) rfl #[] rfl (by (try simp only [zd,ze,zf]); first | done | rfl | (simp only [zg,zh]; rfl)) ?_; (with_reducible refine (L_some.calls  aH aI aJ aK aL _ A5.out).mono ?_); rintro e bD ⟨bw,bx,rfl,ho0,ho1,hb⟩; refine ⟨_,rfl,?_⟩; have aj := zzk (zx (Zc (Zc (Kd.R_old (by (with_reducible repeat (first | apply zu | apply zt | apply zs)); exact ac.out) hb) (Zd ho0)) (Zd ho1)) (fun _ h_ => h_.1)); have ak := zzk (zx (Zc (Zc (Kd.R_old (by (with_reducible repeat (first | apply zu | apply zt | apply zs)); exact ad.out) hb) (Zd ho0)) (Zd ho1)) (fun _ h_ => h_.1)); have al := zzk (zx (Zc (Zc (Kd.R_old (by (with_reducible repeat (first | apply zu | apply zt | apply zs)); exact af.out) hb) (Zd ho0)) (Zd ho1)) (fun _ h_ => h_.1)); have ap := zzk (zx (Zc (Zc (Kd.R_old (by (with_reducible repeat (first | apply zu | apply zt | apply zs)); exact ag.out) hb) (Zd ho0)) (Zd ho1)) (fun _ h_ => h_.1)); have aq := zzk (Za (Zb (Zb (Zb (Zb ho0 (Kd.R_lt (by (with_reducible repeat (first | apply zu | apply zt | apply zs)); exact ac.out))) (Kd.R_lt (by (with_reducible repeat (first | apply zu | apply zt | apply zs)); exact ad.out))) (Kd.R_lt (by (with_reducible repeat (first | apply zu | apply zt | apply zs)); exact af.out))) (Kd.R_lt (by (with_reducible repeat (first | apply zu | apply zt | apply zs)); exact ag.out))) (Zr (by repeat (first | (with_reducible first | exact HB.out | apply Zq | apply Zp | apply Zo) | exact HB.out)))); have aN := zzk (Za (Zb (Zb (Zb (Zb ho1 (Kd.R_lt (by (with_reducible repeat (first | apply zu | apply zt | apply zs)); exact ac.out))) (Kd.R_lt (by (with_reducible repeat (first | apply zu | apply zt | apply zs)); exact ad.out))) (Kd.R_lt (by (with_reducible repeat (first | apply zu | apply zt | apply zs)); exact af.out))) (Kd.R_lt (by (with_reducible repeat (first | apply zu | apply zt | apply zs)); exact ag.out))) (Zr (by repeat (first | (with_reducible first | exact HB.out | apply Zq | apply Zp | apply Zo) | exact HB.out)))); have aO := zzk (Zs (by repeat (first | (with_reducible first | exact HB.out | apply Zq | apply Zp | apply Zo) | exact HB.out)) hb); clear ac; clear ad; clear af; clear ag; clear HB; have ac := aj; have ad := ak; have af := al; have ag := ap; have ar := aq; have au := aN; have HB := aO; clear aj ak al ap aq aN aO; (try clear hb); (try clear hb2); (try clear hk); (try clear hi); (try clear ho0); (try clear ho1); obtain ⟨bf,bg,eo20⟩ := zz ar.out; subst eo20; obtain ⟨bh,bi,eo21⟩ := zz au.out; subst eo21) | ((with_reducible refine zza (f := 9) rfl ?_); refine zzd (some 19) rfl rfl Try.func9 (by kernel_rfl) rfl #[.agg #[.int .i64 aH,.int .i64 aI,.slice bf aJ.length bg,.slice bh aK.length bi,.string aL],.int .i64 4] rfl (by (try simp only [zd,ze,zf]); first | done | rfl | (simp only [zg,zh]; rfl)) ?_; (with_reducible refine (chunk_Cut.calls aH aI _ _ aJ _ _ aK aL 4 aW aP _ ?side1 ?side2 ?side3 ?side4 A6.out).mono ?_); (case side1 => repeat (first | exact (zw ar.out).2.2 | (with_reducible refine Zk ?_ _) | (with_reducible refine Zj ?_ _) | (with_reducible refine Zl ?_))); (case side2 => exact (zw ar.out).2.1); (case side3 => repeat (first | exact (zw au.out).2.2 | (with_reducible refine Zk ?_ _) | (with_reducible refine Zj ?_ _) | (with_reducible refine Zl ?_))); (case side4 => exact (zw au.out).2.1); rintro e bE ⟨rfl,hb⟩; refine ⟨_,rfl,?_⟩; have aj := zzk (zv (by (with_reducible repeat (first | apply zu | apply zt | apply zs)); exact ac.out) hb); have ak := zzk (zv (by (with_reducible repeat (first | apply zu | apply zt | apply zs)); exact ad.out) hb); have al := zzk (zv (by (with_reducible repeat (first | apply zu | apply zt | apply zs)); exact af.out) hb); have ap := zzk (zv (by (with_reducible repeat (first | apply zu | apply zt | apply zs)); exact ag.out) hb); have aq := zzk (zv (by (with_reducible repeat (first | apply zu | apply zt | apply zs)); exact ar.out) hb); have aN := zzk (zv (by (with_reducible repeat (first | apply zu | apply zt | apply zs)); exact au.out) hb); have aO := zzk (Zs (by repeat (first | (with_reducible first | exact HB.out | apply Zq | apply Zp | apply Zo) | exact HB.out)) hb); clear ac; clear ad; clear af; clear ag; clear ar; clear au; clear HB; have ac := aj; have ad := ak; have af := al; have ag := ap; have ar := aq; have au := aN; have HB := aO; clear aj ak al ap aq aN aO; (try clear hb); (try clear hb2); (try clear hk); (try clear hi)))
     go_ret
     exact ⟨by first | rfl | (simp [zzl,zzm] <;> rfl) | (simp [*,zzl,zzm] <;> rfl),by repeat (first | (with_reducible first | exact HB.out | apply Zq | apply Zp | apply Zo) | exact HB.out)⟩
    ·
     rw [if_neg aM] at H
     exact absurd H (by simp)
   ·
    rw [if_neg c9] at H
    exact absurd H (by simp)
  ·
   rw [if_neg c8] at H
   exact absurd H (by simp)
 ·
  rw [if_neg c7] at H
  exact absurd H (by simp)
end Go.Proofs.Ytpagkmdlmhdenaa.PAll
