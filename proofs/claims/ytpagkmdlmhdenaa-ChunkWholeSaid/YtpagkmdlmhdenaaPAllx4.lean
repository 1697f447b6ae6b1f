-- Written by a program of the session.
import Derived.Test.YtpagkmdlmhdenaaAlAll
import Derived.Test.YtpagkmdlmhdenaaPAllx0
import Derived.Test.YtpagkmdlmhdenaaGivenA
namespace Go.Proofs.Ytpagkmdlmhdenaa.PAll
open Go.RowKit Go.Proofs.YtpagkmdlmhdenaaW.PrintWords Go.Proofs.YtpagkmdlmhdenaaW.PrintLast Go.Proofs.YtpagkmdlmhdenaaW.PrintMore
attribute [local go_sem] max2_int min2_int max_two min_two max_three min_three max_four min_four   -- for this text's walks alone
set_option linter.unusedVariables false
set_option linter.unusedSimpArgs false
/-! ### chunk_Cut: function 9 -/
def chunk_Cut.f (af : Int) (ag : Int) (ad : List Int) (ae : List Int) (ac : ByteArray) (a1 : Int) : Option (ByteArray × Int) := if (ac.size : Int) > 65536 then (some ((⟨#[]⟩ : ByteArray),150)) else ((chunk_size.f (ac.size : Int) a1).bind fun ai => (if ai.2 = true then (if 0 ≤ a1 then (if a1 ≤ (wrap64 (a1 + ai.1)) then (if (wrap64 (a1 + ai.1)) ≤ (ac.size : Int) then (some (ac.extract (a1 : Int).toNat ((wrap64 (a1 + ai.1)) : Int).toNat,0)) else (none)) else (none)) else (none)) else (some ((⟨#[]⟩ : ByteArray),150))))
set_option maxHeartbeats 8000000 in
set_option maxRecDepth 100000 in
theorem chunk_Cut.calls (af : Int) (ag : Int) (aj : Option Addr) (ak : Nat) (ad : List Int) (al : Option Addr) (am : Nat) (ae : List Int) (ac : ByteArray) (a1 : Int) (r1 : ByteArray) (r2 : Int) (w : World) (ax : Kd.C (Kd.int .i64) w aj ad.length ad) (ay : ad.length ≤ ak) (az : Kd.C (Kd.int .i64) w al ae.length ae) (aA : ae.length ≤ am) (h : chunk_Cut.f af ag ad ae ac a1 = some (r1,r2)) :
 Calls Try.prog 9 #[.agg #[.int .i64 af,.int .i64 ag,.slice aj ad.length ak,.slice al ae.length am,.string ac],.int .i64 a1] w fun e w' => e = .returned (.tuple #[.string r1,.int .i64 r2]) ∧ Below w.heap.size w w' := by
 have hu26 := Try.underlying26
 have bw := zzk ax
 have bx := zzk ay
 clear ax ay
 have bz := zzk az
 have bA := zzk aA
 clear az aA
 have HB := zzk (Below.refl w.heap.size w)
 have H : (if (ac.size : Int) > 65536 then (some ((⟨#[]⟩ : ByteArray),150)) else ((chunk_size.f (ac.size : Int) a1).bind fun ai => (if ai.2 = true then (if 0 ≤ a1 then (if a1 ≤ (wrap64 (a1 + ai.1)) then (if (wrap64 (a1 + ai.1)) ≤ (ac.size : Int) then (some (ac.extract (a1 : Int).toNat ((wrap64 (a1 + ai.1)) : Int).toNat,0)) else (none)) else (none)) else (none)) else (some ((⟨#[]⟩ : ByteArray),150))))) = some (r1,r2) := h
 clear h
 by_cases c3 : (ac.size : Int) > 65536
 ·
  rw [if_pos c3] at H
  have aF : decide (65536 < (ac.size : Int)) = true := zzn c3
  have aG : decide (65536 < ac.size) = true := zzn (by omega)
  clear c3
  simp only [zzg,zzh] at H
  obtain ⟨rfl,rfl⟩ := H
  go_enter Try.func9,Try.ntmps9
  go_wp2_with (first | ((with_reducible refine Zy (N := 2) rfl ?_); refine zzc ?hg (N := 2) ?hd (cs := #[.int .i64 af,.int .i64 ag,.slice aj ad.length ak,.slice al ae.length am,.string ac]) (t := 26) ?hr ?_; (case hd => rfl); (case hg => rfl); (case hr => first | (go_simp; done) | (go_simp; rfl)); intro ab hg w4 hbox hb; have an := zzk (Zs (by repeat (first | (with_reducible first | exact HB.out | apply Zq | apply Zp | apply Zo) | exact HB.out)) hb); have ao := zzk (hbox); have aq := zzk ((by rw [hg]; exact (Zr (by repeat (first | (with_reducible first | exact HB.out | apply Zq | apply Zp | apply Zo) | exact HB.out))) : w.heap.size ≤ ab)); have ar := zzk ((by rw [hg]; exact (Zr (by repeat (first | (with_reducible first | exact HB.out | apply Zq | apply Zp | apply Zo) | exact HB.out))) : w.heap.size ≤ ab)); clear HB; have HB := an; have aa := ao; have aB := aq; have ap := ar; clear an ao aq ar; clear hb hbox hg; have bl : w4.cell? ⟨ab,0,none⟩ = some (.int .i64 af) := (zi aa.out 0).trans rfl; have bm : w4.cell? ⟨ab,1,none⟩ = some (.int .i64 ag) := (zi aa.out 1).trans rfl; have bn : w4.cell? ⟨ab,2,none⟩ = some (.slice aj ad.length ak) := (zi aa.out 2).trans rfl; have bo : w4.cell? ⟨ab,3,none⟩ = some (.slice al ae.length am) := (zi aa.out 3).trans rfl; have bq : w4.cell? ⟨ab,4,none⟩ = some (.string ac) := (zi aa.out 4).trans rfl; have br := zm aa.out 0; have bs := zm aa.out 1; have bt := zm aa.out 2; have bu := zm aa.out 3; have bv := zm aa.out 4))
  go_ret2
  exact ⟨by first | rfl | (simp [zzl,zzm] <;> rfl) | (simp [*,zzl,zzm] <;> rfl),by repeat (first | (with_reducible first | exact HB.out | apply Zq | apply Zp | apply Zo | refine Zn ?_ ap.out) | exact HB.out)⟩
 ·
  rw [if_neg c3] at H
  have aF : decide (65536 < (ac.size : Int)) = false := zzo c3
  have aG : decide (65536 < ac.size) = false := zzo (by omega)
  clear c3
  replace H := Option.bind_eq_some_iff.mp H
  obtain ⟨⟨ah,aD⟩,aE,H⟩ := H
  replace H : (if aD = true then (if 0 ≤ a1 then (if a1 ≤ (wrap64 (a1 + ah)) then (if (wrap64 (a1 + ah)) ≤ (ac.size : Int) then (some (ac.extract (a1 : Int).toNat ((wrap64 (a1 + ah)) : Int).toNat,0)) else (none)) else (none)) else (none)) else (some ((⟨#[]⟩ : ByteArray),150))) = some (r1,r2) := H
  have A6 := zzk aE
  clear aE
  by_cases c7 : aD = true
  ·
   subst c7
   have H1 : (if 0 ≤ a1 then (if a1 ≤ (wrap64 (a1 + ah)) then (if (wrap64 (a1 + ah)) ≤ (ac.size : Int) then (some (ac.extract (a1 : Int).toNat ((wrap64 (a1 + ah)) : Int).toNat,0)) else (none)) else (none)) else (none)) = some (r1,r2) := by rw [if_pos rfl] at H; exact H
   clear H
   have H := H1
   clear H1
   by_cases c8 : 0 ≤ a1
   ·
    rw [if_pos c8] at H
    have bD := eq_true c8
    have bE : decide (0 ≤ a1) = true := zzn c8
    clear c8
    by_cases c9 : a1 ≤ (wrap64 (a1 + ah))
    ·
     rw [if_pos c9] at H
     have bF := eq_true c9
     have bG : decide (a1 ≤ (wrap64 (a1 + ah))) = true := zzn c9
     by_cases aC : (wrap64 (a1 + ah)) ≤ (ac.size : Int)
     ·
      rw [if_pos aC] at H
      have bB := eq_true aC
      have bC : decide ((wrap64 (a1 + ah)) ≤ (ac.size : Int)) = true := zzn aC
      simp only [zzg,zzh] at H
      obtain ⟨rfl,rfl⟩ := H
      go_enter Try.func9,Try.ntmps9
      go_wp2_with (first | ((with_reducible refine Zy (N := 2) rfl ?_); refine zzc ?hg (N := 2) ?hd (cs := #[.int .i64 af,.int .i64 ag,.slice aj ad.length ak,.slice al ae.length am,.string ac]) (t := 26) ?hr ?_; (case hd => rfl); (case hg => rfl); (case hr => first | (go_simp; done) | (go_simp; rfl)); intro ab hg au hbox hb; have an := zzk (Zs (by repeat (first | (with_reducible first | exact HB.out | apply Zq | apply Zp | apply Zo) | exact HB.out)) hb); have ao := zzk (hbox); have aq := zzk ((by rw [hg]; exact (Zr (by repeat (first | (with_reducible first | exact HB.out | apply Zq | apply Zp | apply Zo) | exact HB.out))) : w.heap.size ≤ ab)); have ar := zzk ((by rw [hg]; exact (Zr (by repeat (first | (with_reducible first | exact HB.out | apply Zq | apply Zp | apply Zo) | exact HB.out))) : w.heap.size ≤ ab)); clear HB; have HB := an; have aa := ao; have aB := aq; have ap := ar; clear an ao aq ar; clear hb hbox hg; have aH : au.cell? ⟨ab,0,none⟩ = some (.int .i64 af) := (zi aa.out 0).trans rfl; have aI : au.cell? ⟨ab,1,none⟩ = some (.int .i64 ag) := (zi aa.out 1).trans rfl; have aJ : au.cell? ⟨ab,2,none⟩ = some (.slice aj ad.length ak) := (zi aa.out 2).trans rfl; have aK : au.cell? ⟨ab,3,none⟩ = some (.slice al ae.length am) := (zi aa.out 3).trans rfl; have aL : au.cell? ⟨ab,4,none⟩ = some (.string ac) := (zi aa.out 4).trans rfl; have aM := zm aa.out 0; have aN := zm aa.out 1; have aO := zm aa.out 2; have aP := zm aa.out 3; have aQ := zm aa.out 4) | ((with_reducible refine zza (f := 27) rfl ?_); refine zzd (some 17) rfl rfl Try.func27 (by kernel_rfl) rfl #[.int .i64 (ac.size : Int),.int .i64 a1] rfl (by (try simp only [zd,ze,zf]); first | done | rfl | (simp only [zg,zh]; rfl)) ?_; (with_reducible refine (chunk_size.calls (ac.size : Int) a1 ah true _ A6.out).mono ?_); rintro e av ⟨rfl,hb⟩; refine ⟨_,rfl,?_⟩; have an := zzk (zo (g := ab) (o := .cells #[.int .i64 af,.int .i64 ag,.slice aj ad.length ak,.slice al ae.length am,.string ac] 26 (0,0)) (by (with_reducible repeat (first | refine zj ?_ _ | refine zl ?_ | refine zk ?_ _)); exact aa.out) hb); have ao := zzk (Zs (by repeat (first | (with_reducible first | exact HB.out | apply Zq | apply Zp | apply Zo | refine Zn ?_ ap.out) | exact HB.out)) hb); clear aa; clear HB; have aa := an; have HB := ao; clear an ao; (try clear hb); (try clear hb2); (try clear hk); (try clear hi); have aR : av.cell? ⟨ab,0,none⟩ = some (.int .i64 af) := (zi aa.out 0).trans rfl; have aS : av.cell? ⟨ab,1,none⟩ = some (.int .i64 ag) := (zi aa.out 1).trans rfl; have aT : av.cell? ⟨ab,2,none⟩ = some (.slice aj ad.length ak) := (zi aa.out 2).trans rfl; have aU : av.cell? ⟨ab,3,none⟩ = some (.slice al ae.length am) := (zi aa.out 3).trans rfl; have aV : av.cell? ⟨ab,4,none⟩ = some (.string ac) := (zi aa.out 4).trans rfl; have aW := zm aa.out 0; have aX := zm aa.out 1; have aY := zm aa.out 2; have aZ := zm aa.out 3; have ba := zm aa.out 4))
      go_ret2
      exact ⟨by first | rfl | (simp [zzl,zzm] <;> rfl) | (simp [*,zzl,zzm] <;> rfl),by repeat (first | (with_reducible first | exact HB.out | apply Zq | apply Zp | apply Zo | refine Zn ?_ ap.out) | exact HB.out)⟩
     ·
      rw [if_neg aC] at H
      exact absurd H (by simp)
    ·
     rw [if_neg c9] at H
     exact absurd H (by simp)
   ·
    rw [if_neg c8] at H
    exact absurd H (by simp)
  ·
   replace c7 := Bool.eq_false_iff.mpr c7
   subst c7
   have H1 : (some ((⟨#[]⟩ : ByteArray),150)) = some (r1,r2) := by rw [if_neg (show ¬ (false = true) by decide)] at H; exact H
   clear H
   have H := H1
   clear H1
   simp only [zzg,zzh] at H
   obtain ⟨rfl,rfl⟩ := H
   go_enter Try.func9,Try.ntmps9
   go_wp2_with (first | ((with_reducible refine Zy (N := 2) rfl ?_); refine zzc ?hg (N := 2) ?hd (cs := #[.int .i64 af,.int .i64 ag,.slice aj ad.length ak,.slice al ae.length am,.string ac]) (t := 26) ?hr ?_; (case hd => rfl); (case hg => rfl); (case hr => first | (go_simp; done) | (go_simp; rfl)); intro ab hg aw hbox hb; have an := zzk (Zs (by repeat (first | (with_reducible first | exact HB.out | apply Zq | apply Zp | apply Zo) | exact HB.out)) hb); have ao := zzk (hbox); have aq := zzk ((by rw [hg]; exact (Zr (by repeat (first | (with_reducible first | exact HB.out | apply Zq | apply Zp | apply Zo) | exact HB.out))) : w.heap.size ≤ ab)); have ar := zzk ((by rw [hg]; exact (Zr (by repeat (first | (with_reducible first | exact HB.out | apply Zq | apply Zp | apply Zo) | exact HB.out))) : w.heap.size ≤ ab)); clear HB; have HB := an; have aa := ao; have aB := aq; have ap := ar; clear an ao aq ar; clear hb hbox hg; have bb : aw.cell? ⟨ab,0,none⟩ = some (.int .i64 af) := (zi aa.out 0).trans rfl; have bc : aw.cell? ⟨ab,1,none⟩ = some (.int .i64 ag) := (zi aa.out 1).trans rfl; have bd : aw.cell? ⟨ab,2,none⟩ = some (.slice aj ad.length ak) := (zi aa.out 2).trans rfl; have be : aw.cell? ⟨ab,3,none⟩ = some (.slice al ae.length am) := (zi aa.out 3).trans rfl; have bf : aw.cell? ⟨ab,4,none⟩ = some (.string ac) := (zi aa.out 4).trans rfl; have bg := zm aa.out 0; have bh := zm aa.out 1; have bi := zm aa.out 2; have bj := zm aa.out 3; have bk := zm aa.out 4) | ((with_reducible refine zza (f := 27) rfl ?_); refine zzd (some 17) rfl rfl Try.func27 (by kernel_rfl) rfl #[.int .i64 (ac.size : Int),.int .i64 a1] rfl (by (try simp only [zd,ze,zf]); first | done | rfl | (simp only [zg,zh]; rfl)) ?_; (with_reducible refine (chunk_size.calls (ac.size : Int) a1 ah false _ A6.out).mono ?_); rintro e bH ⟨rfl,hb⟩; refine ⟨_,rfl,?_⟩; have an := zzk (zo (g := ab) (o := .cells #[.int .i64 af,.int .i64 ag,.slice aj ad.length ak,.slice al ae.length am,.string ac] 26 (0,0)) (by (with_reducible repeat (first | refine zj ?_ _ | refine zl ?_ | refine zk ?_ _)); exact aa.out) hb); have ao := zzk (Zs (by repeat (first | (with_reducible first | exact HB.out | apply Zq | apply Zp | apply Zo | refine Zn ?_ ap.out) | exact HB.out)) hb); clear aa; clear HB; have aa := an; have HB := ao; clear an ao; (try clear hb); (try clear hb2); (try clear hk); (try clear hi)))
   go_ret2
   exact ⟨by first | rfl | (simp [zzl,zzm] <;> rfl) | (simp [*,zzl,zzm] <;> rfl),by repeat (first | (with_reducible first | exact HB.out | apply Zq | apply Zp | apply Zo | refine Zn ?_ ap.out) | exact HB.out)⟩
end Go.Proofs.Ytpagkmdlmhdenaa.PAll
