-- Written by a program of the session.
import Derived.Test.YtpagkmdlmhdenaaAlAll
import Derived.Test.YtpagkmdlmhdenaaPAllx0
import Derived.Test.YtpagkmdlmhdenaaPAllx21
namespace Go.Proofs.Ytpagkmdlmhdenaa.PAll
open Go.RowKit Go.Proofs.YtpagkmdlmhdenaaW.PrintWords Go.Proofs.YtpagkmdlmhdenaaW.PrintLast Go.Proofs.YtpagkmdlmhdenaaW.PrintMore
attribute [local go_sem] max2_int min2_int max_two min_two max_three min_three max_four min_four   -- for this text's walks alone
set_option linter.unusedVariables false
set_option linter.unusedSimpArgs false
/-! ### r08_SameCouncil: function 34 -/
def r08_SameCouncil.f (k : Nat) (ac : List Int) (ad : List Int) (af : List Int) (ag : List Int) : Option (Bool) := (r08_ints.f k ac af).bind fun az => (if az = true then ((r08_ints.f k ad ag).bind fun an => (some an)) else (some false))
set_option maxHeartbeats 8000000 in
set_option maxRecDepth 100000 in
theorem r08_SameCouncil.calls (k : Nat) (ah : Option Addr) (ai : Nat) (ac : List Int) (ak : Option Addr) (al : Nat) (ad : List Int) (ao : Option Addr) (ap : Nat) (af : List Int) (aA : Option Addr) (aB : Nat) (ag : List Int) (r : Bool) (w : World) (aF : Kd.C (Kd.int .i64) w ah ac.length ac) (aG : ac.length ≤ ai) (aH : Kd.C (Kd.int .i64) w ak ad.length ad) (aI : ad.length ≤ al) (aJ : Kd.C (Kd.int .i64) w ao af.length af) (aK : af.length ≤ ap) (aL : Kd.C (Kd.int .i64) w aA ag.length ag) (aM : ag.length ≤ aB) (h : r08_SameCouncil.f k ac ad af ag = some r) :
 Calls Try.prog 34 #[.agg #[.slice ah ac.length ai,.slice ak ad.length al],.agg #[.slice ao af.length ap,.slice aA ag.length aB]] w fun e w' => e = .returned (.bool r) ∧ Below w.heap.size w w' := by
 have hu24 := Try.underlying24
 have aN := zzk aF
 have aO := zzk aG
 clear aF aG
 have aS := zzk aH
 have aT := zzk aI
 clear aH aI
 have aP := zzk aJ
 have aQ := zzk aK
 clear aJ aK
 have aU := zzk aL
 have aV := zzk aM
 clear aL aM
 have HB := zzk (Below.refl w.heap.size w)
 have H : ((r08_ints.f k ac af).bind fun az => (if az = true then ((r08_ints.f k ad ag).bind fun an => (some an)) else (some false))) = some r := h
 clear h
 replace H := Option.bind_eq_some_iff.mp H
 obtain ⟨az,aY,H⟩ := H
 replace H : (if az = true then ((r08_ints.f k ad ag).bind fun an => (some an)) else (some false)) = some r := H
 have A3 := zzk aY
 clear aY
 by_cases c4 : az = true
 ·
  subst c4
  have H1 : ((r08_ints.f k ad ag).bind fun an => (some an)) = some r := by rw [if_pos rfl] at H; exact H
  clear H
  have H := H1
  clear H1
  replace H := Option.bind_eq_some_iff.mp H
  obtain ⟨an,aZ,H⟩ := H
  replace H : (some an) = some r := H
  have A5 := zzk aZ
  clear aZ
  obtain rfl := zzu H
  go_enter Try.func34,Try.ntmps34
  go_wp2_with (first | ((with_reducible refine Zy (N := 2) rfl ?_); refine zzc ?hg (N := 2) ?hd (cs := #[.slice ah ac.length ai,.slice ak ad.length al]) (t := 24) ?hr ?_; (case hd => rfl); (case hg => rfl); (case hr => first | (go_simp; done) | (go_simp; rfl)); intro aa hg w6 hbox hb; have aq := zzk (Zs (by repeat (first | (with_reducible first | exact HB.out | apply Zq | apply Zp | apply Zo) | exact HB.out)) hb); have ar := zzk (hbox); have au := zzk ((by rw [hg]; exact (Zr (by repeat (first | (with_reducible first | exact HB.out | apply Zq | apply Zp | apply Zo) | exact HB.out))) : w.heap.size ≤ aa)); have av := zzk ((by rw [hg]; exact (Zr (by repeat (first | (with_reducible first | exact HB.out | apply Zq | apply Zp | apply Zo) | exact HB.out))) : w.heap.size ≤ aa)); clear HB; have HB := aq; have ab := ar; have aW := au; have aj := av; clear aq ar au av; clear hb hbox hg) | ((with_reducible refine Zy (N := 3) rfl ?_); refine zzc ?hg (N := 3) ?hd (cs := #[.slice ao af.length ap,.slice aA ag.length aB]) (t := 24) ?hr ?_; (case hd => rfl); (case hg => rfl); (case hr => first | (go_simp; done) | (go_simp; rfl)); intro ae hg w7 hbox hb; have aq := zzk (zo (g := aa) (o := .cells #[.slice ah ac.length ai,.slice ak ad.length al] 24 (0,0)) (by (with_reducible repeat (first | refine zj ?_ _ | refine zl ?_ | refine zk ?_ _)); exact ab.out) hb); have ar := zzk (Zs (by repeat (first | (with_reducible first | exact HB.out | apply Zq | apply Zp | apply Zo | refine Zn ?_ aj.out) | exact HB.out)) hb); have au := zzk (hbox); have av := zzk ((by rw [hg]; exact (Zr (by repeat (first | (with_reducible first | exact HB.out | apply Zq | apply Zp | apply Zo | refine Zn ?_ aj.out) | exact HB.out))) : w.heap.size ≤ ae)); have aC := zzk ((by rw [hg]; exact (Zr (by repeat (first | (with_reducible first | exact HB.out | apply Zq | apply Zp | apply Zo | refine Zn ?_ aj.out) | exact HB.out))) : w.heap.size ≤ ae)); have aD := zzk ((by rw [hg]; exact Nat.ne_of_lt (zq (g := aa) (o := .cells #[.slice ah ac.length ai,.slice ak ad.length al] 24 (0,0)) (by (with_reducible repeat (first | refine zj ?_ _ | refine zl ?_ | refine zk ?_ _)); exact ab.out)) : aa ≠ ae)); have aE := zzk ((by rw [hg]; exact Nat.ne_of_gt (zq (g := aa) (o := .cells #[.slice ah ac.length ai,.slice ak ad.length al] 24 (0,0)) (by (with_reducible repeat (first | refine zj ?_ _ | refine zl ?_ | refine zk ?_ _)); exact ab.out)) : ae ≠ aa)); clear ab; clear HB; have ab := aq; have HB := ar; have am := au; have aX := av; have ay := aC; have aw := aD; have ax := aE; clear aq ar au av aC aD aE; clear hb hbox hg; have bt := aw.out; have bu := ax.out; have bm : w7.cell? ⟨aa,0,none⟩ = some (.slice ah ac.length ai) := (zi ab.out 0).trans rfl; have bn : w7.cell? ⟨aa,1,none⟩ = some (.slice ak ad.length al) := (zi ab.out 1).trans rfl; have bo := zm ab.out 0; have bq := zm ab.out 1; have ba : w7.cell? ⟨ae,0,none⟩ = some (.slice ao af.length ap) := (zi am.out 0).trans rfl; have bb : w7.cell? ⟨ae,1,none⟩ = some (.slice aA ag.length aB) := (zi am.out 1).trans rfl; have bc := zm am.out 0; have bd := zm am.out 1) | ((with_reducible refine zza (f := 40) rfl ?_); refine zzd (some 9) rfl rfl Try.func40 (by kernel_rfl) rfl #[.slice ah ac.length ai,.slice ao af.length ap] rfl (by (try simp only [zd,ze,zf]); first | done | rfl | (simp only [zg,zh]; rfl)) ?_; (with_reducible refine (r08_ints.calls k _ _ ac _ _ af true _ ?side1 ?side2 ?side3 ?side4 A3.out).mono ?_); (case side1 => repeat (first | exact (Zm aN.out HB.out) | (with_reducible refine Zk ?_ _) | (with_reducible refine Zj ?_ _) | (with_reducible refine Zl ?_))); (case side2 => exact aO.out); (case side3 => repeat (first | exact (Zm aP.out HB.out) | (with_reducible refine Zk ?_ _) | (with_reducible refine Zj ?_ _) | (with_reducible refine Zl ?_))); (case side4 => exact aQ.out); rintro e w' ⟨rfl,⟨nd,rfl⟩⟩; refine ⟨_,rfl,?_⟩) | (go_at_call 40; (with_reducible refine (r08_ints.calls k _ _ ad _ _ ag an _ ?side1 ?side2 ?side3 ?side4 A5.out).mono ?_); (case side1 => repeat (first | exact (Zm aS.out (by repeat (first | (with_reducible first | exact HB.out | apply Zq | apply Zp | apply Zo | refine Zn ?_ aj.out | refine Zn ?_ ay.out) | exact HB.out))) | (with_reducible refine Zk ?_ _) | (with_reducible refine Zj ?_ _) | (with_reducible refine Zl ?_))); (case side2 => exact aT.out); (case side3 => repeat (first | exact (Zm aU.out (by repeat (first | (with_reducible first | exact HB.out | apply Zq | apply Zp | apply Zo | refine Zn ?_ aj.out | refine Zn ?_ ay.out) | exact HB.out))) | (with_reducible refine Zk ?_ _) | (with_reducible refine Zj ?_ _) | (with_reducible refine Zl ?_))); (case side4 => exact aV.out); rintro e w' ⟨rfl,⟨nd,rfl⟩⟩))
  go_ret
  exact ⟨by first | rfl | (simp [zzl,zzm] <;> rfl) | (simp [*,zzl,zzm] <;> rfl),by repeat (first | (with_reducible first | exact HB.out | apply Zq | apply Zp | apply Zo | refine Zn ?_ aj.out | refine Zn ?_ ay.out) | exact HB.out)⟩
 ·
  replace c4 := Bool.eq_false_iff.mpr c4
  subst c4
  have H1 : (some false) = some r := by rw [if_neg (show ¬ (false = true) by decide)] at H; exact H
  clear H
  have H := H1
  clear H1
  obtain rfl := zzu H
  go_enter Try.func34,Try.ntmps34
  go_wp2_with (first | ((with_reducible refine Zy (N := 2) rfl ?_); refine zzc ?hg (N := 2) ?hd (cs := #[.slice ah ac.length ai,.slice ak ad.length al]) (t := 24) ?hr ?_; (case hd => rfl); (case hg => rfl); (case hr => first | (go_simp; done) | (go_simp; rfl)); intro aa hg bv hbox hb; have aq := zzk (Zs (by repeat (first | (with_reducible first | exact HB.out | apply Zq | apply Zp | apply Zo) | exact HB.out)) hb); have ar := zzk (hbox); have au := zzk ((by rw [hg]; exact (Zr (by repeat (first | (with_reducible first | exact HB.out | apply Zq | apply Zp | apply Zo) | exact HB.out))) : w.heap.size ≤ aa)); have av := zzk ((by rw [hg]; exact (Zr (by repeat (first | (with_reducible first | exact HB.out | apply Zq | apply Zp | apply Zo) | exact HB.out))) : w.heap.size ≤ aa)); clear HB; have HB := aq; have ab := ar; have aW := au; have aj := av; clear aq ar au av; clear hb hbox hg) | ((with_reducible refine Zy (N := 3) rfl ?_); refine zzc ?hg (N := 3) ?hd (cs := #[.slice ao af.length ap,.slice aA ag.length aB]) (t := 24) ?hr ?_; (case hd => rfl); (case hg => rfl); (case hr => first | (go_simp; done) | (go_simp; rfl)); intro ae hg aR hbox hb; have aq := zzk (zo (g := aa) (o := .cells #[.slice ah ac.length ai,.slice ak ad.length al] 24 (0,0)) (by (with_reducible repeat (first | refine zj ?_ _ | refine zl ?_ | refine zk ?_ _)); exact ab.out) hb); have ar := zzk (Zs (by repeat (first | (with_reducible first | exact HB.out | apply Zq | apply Zp | apply Zo | refine Zn ?_ aj.out) | exact HB.out)) hb); have au := zzk (hbox); have av := zzk ((by rw [hg]; exact (Zr (by repeat (first | (with_reducible first | exact HB.out | apply Zq | apply Zp | apply Zo | refine Zn ?_ aj.out) | exact HB.out))) : w.heap.size ≤ ae)); have aC := zzk ((by rw [hg]; exact (Zr (by repeat (first | (with_reducible first | exact HB.out | apply Zq | apply Zp | apply Zo | refine Zn ?_ aj.out) | exact HB.out))) : w.heap.size ≤ ae)); have aD := zzk ((by rw [hg]; exact Nat.ne_of_lt (zq (g := aa) (o := .cells #[.slice ah ac.length ai,.slice ak ad.length al] 24 (0,0)) (by (with_reducible repeat (first | refine zj ?_ _ | refine zl ?_ | refine zk ?_ _)); exact ab.out)) : aa ≠ ae)); have aE := zzk ((by rw [hg]; exact Nat.ne_of_gt (zq (g := aa) (o := .cells #[.slice ah ac.length ai,.slice ak ad.length al] 24 (0,0)) (by (with_reducible repeat (first | refine zj ?_ _ | refine zl ?_ | refine zk ?_ _)); exact ab.out)) : ae ≠ aa)); clear ab; clear HB; have ab := aq; have HB := ar; have am := au; have aX := av; have ay := aC; have aw := aD; have ax := aE; clear aq ar au av aC aD aE; clear hb hbox hg; have br := aw.out; have bs := ax.out; have be : aR.cell? ⟨aa,0,none⟩ = some (.slice ah ac.length ai) := (zi ab.out 0).trans rfl; have bf : aR.cell? ⟨aa,1,none⟩ = some (.slice ak ad.length al) := (zi ab.out 1).trans rfl; have bg := zm ab.out 0; have bh := zm ab.out 1; have bi : aR.cell? ⟨ae,0,none⟩ = some (.slice ao af.length ap) := (zi am.out 0).trans rfl; have bj : aR.cell? ⟨ae,1,none⟩ = some (.slice aA ag.length aB) := (zi am.out 1).trans rfl; have bk := zm am.out 0; have bl := zm am.out 1) | ((with_reducible refine zza (f := 40) rfl ?_); refine zzd (some 9) rfl rfl Try.func40 (by kernel_rfl) rfl #[.slice ah ac.length ai,.slice ao af.length ap] rfl (by (try simp only [zd,ze,zf]); first | done | rfl | (simp only [zg,zh]; rfl)) ?_; (with_reducible refine (r08_ints.calls k _ _ ac _ _ af false _ ?side1 ?side2 ?side3 ?side4 A3.out).mono ?_); (case side1 => repeat (first | exact (Zm aN.out HB.out) | (with_reducible refine Zk ?_ _) | (with_reducible refine Zj ?_ _) | (with_reducible refine Zl ?_))); (case side2 => exact aO.out); (case side3 => repeat (first | exact (Zm aP.out HB.out) | (with_reducible refine Zk ?_ _) | (with_reducible refine Zj ?_ _) | (with_reducible refine Zl ?_))); (case side4 => exact aQ.out); rintro e w' ⟨rfl,⟨nd,rfl⟩⟩; refine ⟨_,rfl,?_⟩))
  go_ret
  exact ⟨by first | rfl | (simp [zzl,zzm] <;> rfl) | (simp [*,zzl,zzm] <;> rfl),by repeat (first | (with_reducible first | exact HB.out | apply Zq | apply Zp | apply Zo | refine Zn ?_ aj.out | refine Zn ?_ ay.out) | exact HB.out)⟩
end Go.Proofs.Ytpagkmdlmhdenaa.PAll
