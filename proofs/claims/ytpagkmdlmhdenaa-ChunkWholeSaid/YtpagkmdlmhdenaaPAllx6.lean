-- Written by a program of the session.
import Derived.Test.YtpagkmdlmhdenaaAlAll
import Derived.Test.YtpagkmdlmhdenaaPAllx0
import Derived.Test.YtpagkmdlmhdenaaPAllx5
namespace Go.Proofs.Ytpagkmdlmhdenaa.PAll
open Go.RowKit Go.Proofs.YtpagkmdlmhdenaaW.PrintWords Go.Proofs.YtpagkmdlmhdenaaW.PrintLast Go.Proofs.YtpagkmdlmhdenaaW.PrintMore
attribute [local go_sem] max2_int min2_int max_two min_two max_three min_three max_four min_four   -- for this text's walks alone
set_option linter.unusedVariables false
set_option linter.unusedSimpArgs false
/-! ### r16_Cut: function 10 -/
def r16_Cut.f (k : Nat) (af : Int) (ag : Int) (ad : List Int) (ae : List Int) (ac : ByteArray) (a1 : Int) : Option (ByteArray × Int) := (r16_Part.f k (ac.size : Int) a1).bind fun ao => (if (ac.size : Int) > 65536 then (some ((⟨#[]⟩ : ByteArray),150)) else (if ao.2 = true then (if 0 ≤ a1 then (if a1 ≤ (wrap64 (a1 + ao.1)) then (if (wrap64 (a1 + ao.1)) ≤ (ac.size : Int) then (some (ac.extract (a1 : Int).toNat ((wrap64 (a1 + ao.1)) : Int).toNat,0)) else (none)) else (none)) else (none)) else (some ((⟨#[]⟩ : ByteArray),150))))
set_option maxHeartbeats 8000000 in
set_option maxRecDepth 100000 in
theorem r16_Cut.calls (k : Nat) (af : Int) (ag : Int) (ah : Option Addr) (ai : Nat) (ad : List Int) (aj : Option Addr) (ak : Nat) (ae : List Int) (ac : ByteArray) (a1 : Int) (r1 : ByteArray) (r2 : Int) (w : World) (aA : Kd.C (Kd.int .i64) w ah ad.length ad) (aB : ad.length ≤ ai) (aC : Kd.C (Kd.int .i64) w aj ae.length ae) (aD : ae.length ≤ ak) (h : r16_Cut.f k af ag ad ae ac a1 = some (r1,r2)) :
 Calls Try.prog 10 #[.agg #[.int .i64 af,.int .i64 ag,.slice ah ad.length ai,.slice aj ae.length ak,.string ac],.int .i64 a1] w fun e w' => e = .returned (.tuple #[.string r1,.int .i64 r2]) ∧ Below w.heap.size w w' := by
 have hu26 := Try.underlying26
 have bU := zzk aA
 have bV := zzk aB
 clear aA aB
 have bW := zzk aC
 have bX := zzk aD
 clear aC aD
 have HB := zzk (Below.refl w.heap.size w)
 have H : ((r16_Part.f k (ac.size : Int) a1).bind fun ao => (if (ac.size : Int) > 65536 then (some ((⟨#[]⟩ : ByteArray),150)) else (if ao.2 = true then (if 0 ≤ a1 then (if a1 ≤ (wrap64 (a1 + ao.1)) then (if (wrap64 (a1 + ao.1)) ≤ (ac.size : Int) then (some (ac.extract (a1 : Int).toNat ((wrap64 (a1 + ao.1)) : Int).toNat,0)) else (none)) else (none)) else (none)) else (some ((⟨#[]⟩ : ByteArray),150))))) = some (r1,r2) := h
 clear h
 replace H := Option.bind_eq_some_iff.mp H
 obtain ⟨⟨al,az⟩,aH,H⟩ := H
 replace H : (if (ac.size : Int) > 65536 then (some ((⟨#[]⟩ : ByteArray),150)) else (if az = true then (if 0 ≤ a1 then (if a1 ≤ (wrap64 (a1 + al)) then (if (wrap64 (a1 + al)) ≤ (ac.size : Int) then (some (ac.extract (a1 : Int).toNat ((wrap64 (a1 + al)) : Int).toNat,0)) else (none)) else (none)) else (none)) else (some ((⟨#[]⟩ : ByteArray),150)))) = some (r1,r2) := H
 have A3 := zzk aH
 clear aH
 by_cases c4 : (ac.size : Int) > 65536
 ·
  rw [if_pos c4] at H
  have aI : decide (65536 < (ac.size : Int)) = true := zzn c4
  have aJ : decide (65536 < ac.size) = true := zzn (by omega)
  clear c4
  simp only [zzg,zzh] at H
  obtain ⟨rfl,rfl⟩ := H
  go_enter Try.func10,Try.ntmps10
  go_wp2_with (first | ((with_reducible refine Zy (N := 2) rfl ?_); refine zzc ?hg (N := 2) ?hd (cs := #[.int .i64 af,.int .i64 ag,.slice ah ad.length ai,.slice aj ae.length ak,.string ac]) (t := 26) ?hr ?_; (case hd => rfl); (case hg => rfl); (case hr => first | (go_simp; done) | (go_simp; rfl)); intro ab hg w5 hbox hb; have am := zzk (Zs (by repeat (first | (with_reducible first | exact HB.out | apply Zq | apply Zp | apply Zo) | exact HB.out)) hb); have an := zzk (hbox); have aq := zzk ((by rw [hg]; exact (Zr (by repeat (first | (with_reducible first | exact HB.out | apply Zq | apply Zp | apply Zo) | exact HB.out))) : w.heap.size ≤ ab)); have ar := zzk ((by rw [hg]; exact (Zr (by repeat (first | (with_reducible first | exact HB.out | apply Zq | apply Zp | apply Zo) | exact HB.out))) : w.heap.size ≤ ab)); clear HB; have HB := am; have aa := an; have aE := aq; have ap := ar; clear am an aq ar; clear hb hbox hg; have bA : w5.cell? ⟨ab,0,none⟩ = some (.int .i64 af) := (zi aa.out 0).trans rfl; have bB : w5.cell? ⟨ab,1,none⟩ = some (.int .i64 ag) := (zi aa.out 1).trans rfl; have bC : w5.cell? ⟨ab,2,none⟩ = some (.slice ah ad.length ai) := (zi aa.out 2).trans rfl; have bD : w5.cell? ⟨ab,3,none⟩ = some (.slice aj ae.length ak) := (zi aa.out 3).trans rfl; have bE : w5.cell? ⟨ab,4,none⟩ = some (.string ac) := (zi aa.out 4).trans rfl; have bF := zm aa.out 0; have bG := zm aa.out 1; have bH := zm aa.out 2; have bI := zm aa.out 3; have bJ := zm aa.out 4) | ((with_reducible refine zza (f := 28) rfl ?_); refine zzd (some 13) rfl rfl Try.func28 (by kernel_rfl) rfl #[.int .i64 (ac.size : Int),.int .i64 a1] rfl (by (try simp only [zd,ze,zf]); first | done | rfl | (simp only [zg,zh]; rfl)) ?_; (with_reducible refine (r16_Part.calls k (ac.size : Int) a1 al az _ A3.out).mono ?_); rintro e w7 ⟨rfl,hb⟩; refine ⟨_,rfl,?_⟩; have am := zzk (zo (g := ab) (o := .cells #[.int .i64 af,.int .i64 ag,.slice ah ad.length ai,.slice aj ae.length ak,.string ac] 26 (0,0)) (by (with_reducible repeat (first | refine zj ?_ _ | refine zl ?_ | refine zk ?_ _)); exact aa.out) hb); have an := zzk (Zs (by repeat (first | (with_reducible first | exact HB.out | apply Zq | apply Zp | apply Zo | refine Zn ?_ ap.out) | exact HB.out)) hb); clear aa; clear HB; have aa := am; have HB := an; clear am an; (try clear hb); (try clear hb2); (try clear hk); (try clear hi); have bK : w7.cell? ⟨ab,0,none⟩ = some (.int .i64 af) := (zi aa.out 0).trans rfl; have bL : w7.cell? ⟨ab,1,none⟩ = some (.int .i64 ag) := (zi aa.out 1).trans rfl; have bM : w7.cell? ⟨ab,2,none⟩ = some (.slice ah ad.length ai) := (zi aa.out 2).trans rfl; have bN : w7.cell? ⟨ab,3,none⟩ = some (.slice aj ae.length ak) := (zi aa.out 3).trans rfl; have bO : w7.cell? ⟨ab,4,none⟩ = some (.string ac) := (zi aa.out 4).trans rfl; have bP := zm aa.out 0; have bQ := zm aa.out 1; have bR := zm aa.out 2; have bS := zm aa.out 3; have bT := zm aa.out 4))
  go_ret2
  exact ⟨by first | rfl | (simp [zzl,zzm] <;> rfl) | (simp [*,zzl,zzm] <;> rfl),by repeat (first | (with_reducible first | exact HB.out | apply Zq | apply Zp | apply Zo | refine Zn ?_ ap.out) | exact HB.out)⟩
 ·
  rw [if_neg c4] at H
  have aI : decide (65536 < (ac.size : Int)) = false := zzo c4
  have aJ : decide (65536 < ac.size) = false := zzo (by omega)
  clear c4
  by_cases c9 : az = true
  ·
   subst c9
   have H1 : (if 0 ≤ a1 then (if a1 ≤ (wrap64 (a1 + al)) then (if (wrap64 (a1 + al)) ≤ (ac.size : Int) then (some (ac.extract (a1 : Int).toNat ((wrap64 (a1 + al)) : Int).toNat,0)) else (none)) else (none)) else (none)) = some (r1,r2) := by rw [if_pos rfl] at H; exact H
   clear H
   have H := H1
   clear H1
   by_cases au : 0 ≤ a1
   ·
    rw [if_pos au] at H
    have bY := eq_true au
    have bZ : decide (0 ≤ a1) = true := zzn au
    clear au
    by_cases aF : a1 ≤ (wrap64 (a1 + al))
    ·
     rw [if_pos aF] at H
     have ca := eq_true aF
     have cb : decide (a1 ≤ (wrap64 (a1 + al))) = true := zzn aF
     by_cases aG : (wrap64 (a1 + al)) ≤ (ac.size : Int)
     ·
      rw [if_pos aG] at H
      have cc := eq_true aG
      have cd : decide ((wrap64 (a1 + al)) ≤ (ac.size : Int)) = true := zzn aG
      simp only [zzg,zzh] at H
      obtain ⟨rfl,rfl⟩ := H
      go_enter Try.func10,Try.ntmps10
      go_wp2_with (first | ((with_reducible refine Zy (N := 2) rfl ?_); refine zzc ?hg (N := 2) ?hd (cs := #[.int .i64 af,.int .i64 ag,.slice ah ad.length ai,.slice aj ae.length ak,.string ac]) (t := 26) ?hr ?_; (case hd => rfl); (case hg => rfl); (case hr => first | (go_simp; done) | (go_simp; rfl)); intro ab hg av hbox hb; have am := zzk (Zs (by repeat (first | (with_reducible first | exact HB.out | apply Zq | apply Zp | apply Zo) | exact HB.out)) hb); have an := zzk (hbox); have aq := zzk ((by rw [hg]; exact (Zr (by repeat (first | (with_reducible first | exact HB.out | apply Zq | apply Zp | apply Zo) | exact HB.out))) : w.heap.size ≤ ab)); have ar := zzk ((by rw [hg]; exact (Zr (by repeat (first | (with_reducible first | exact HB.out | apply Zq | apply Zp | apply Zo) | exact HB.out))) : w.heap.size ≤ ab)); clear HB; have HB := am; have aa := an; have aE := aq; have ap := ar; clear am an aq ar; clear hb hbox hg; have aK : av.cell? ⟨ab,0,none⟩ = some (.int .i64 af) := (zi aa.out 0).trans rfl; have aL : av.cell? ⟨ab,1,none⟩ = some (.int .i64 ag) := (zi aa.out 1).trans rfl; have aM : av.cell? ⟨ab,2,none⟩ = some (.slice ah ad.length ai) := (zi aa.out 2).trans rfl; have aN : av.cell? ⟨ab,3,none⟩ = some (.slice aj ae.length ak) := (zi aa.out 3).trans rfl; have aO : av.cell? ⟨ab,4,none⟩ = some (.string ac) := (zi aa.out 4).trans rfl; have aP := zm aa.out 0; have aQ := zm aa.out 1; have aR := zm aa.out 2; have aS := zm aa.out 3; have aT := zm aa.out 4) | ((with_reducible refine zza (f := 28) rfl ?_); refine zzd (some 13) rfl rfl Try.func28 (by kernel_rfl) rfl #[.int .i64 (ac.size : Int),.int .i64 a1] rfl (by (try simp only [zd,ze,zf]); first | done | rfl | (simp only [zg,zh]; rfl)) ?_; (with_reducible refine (r16_Part.calls k (ac.size : Int) a1 al true _ A3.out).mono ?_); rintro e aw ⟨rfl,hb⟩; refine ⟨_,rfl,?_⟩; have am := zzk (zo (g := ab) (o := .cells #[.int .i64 af,.int .i64 ag,.slice ah ad.length ai,.slice aj ae.length ak,.string ac] 26 (0,0)) (by (with_reducible repeat (first | refine zj ?_ _ | refine zl ?_ | refine zk ?_ _)); exact aa.out) hb); have an := zzk (Zs (by repeat (first | (with_reducible first | exact HB.out | apply Zq | apply Zp | apply Zo | refine Zn ?_ ap.out) | exact HB.out)) hb); clear aa; clear HB; have aa := am; have HB := an; clear am an; (try clear hb); (try clear hb2); (try clear hk); (try clear hi); have aU : aw.cell? ⟨ab,0,none⟩ = some (.int .i64 af) := (zi aa.out 0).trans rfl; have aV : aw.cell? ⟨ab,1,none⟩ = some (.int .i64 ag) := (zi aa.out 1).trans rfl; have aW : aw.cell? ⟨ab,2,none⟩ = some (.slice ah ad.length ai) := (zi aa.out 2).trans rfl; have aX : aw.cell? ⟨ab,3,none⟩ = some (.slice aj ae.length ak) := (zi aa.out 3).trans rfl; have aY : aw.cell? ⟨ab,4,none⟩ = some (.string ac) := (zi aa.out 4).trans rfl; have aZ := zm aa.out 0; have ba := zm aa.out 1; have bb := zm aa.out 2; have bc := zm aa.out 3; have bd := zm aa.out 4))
      go_ret2
      exact ⟨by first | rfl | (simp [zzl,zzm] <;> rfl) | (simp [*,zzl,zzm] <;> rfl),by repeat (first | (with_reducible first | exact HB.out | apply Zq | apply Zp | apply Zo | refine Zn ?_ ap.out) | exact HB.out)⟩
     ·
      rw [if_neg aG] at H
      exact absurd H (by simp)
    ·
     rw [if_neg aF] at H
     exact absurd H (by simp)
   ·
    rw [if_neg au] at H
    exact absurd H (by simp)
  ·
   replace c9 := Bool.eq_false_iff.mpr c9
   subst c9
   have H1 : (some ((⟨#[]⟩ : ByteArray),150)) = some (r1,r2) := by rw [if_neg (show ¬ (false = true) by decide)] at H; exact H
   clear H
   have H := H1
   clear H1
   simp only [zzg,zzh] at H
   obtain ⟨rfl,rfl⟩ := H
   go_enter Try.func10,Try.ntmps10
   go_wp2_with (first | ((with_reducible refine Zy (N := 2) rfl ?_); refine zzc ?hg (N := 2) ?hd (cs := #[.int .i64 af,.int .i64 ag,.slice ah ad.length ai,.slice aj ae.length ak,.string ac]) (t := 26) ?hr ?_; (case hd => rfl); (case hg => rfl); (case hr => first | (go_simp; done) | (go_simp; rfl)); intro ab hg ax hbox hb; have am := zzk (Zs (by repeat (first | (with_reducible first | exact HB.out | apply Zq | apply Zp | apply Zo) | exact HB.out)) hb); have an := zzk (hbox); have aq := zzk ((by rw [hg]; exact (Zr (by repeat (first | (with_reducible first | exact HB.out | apply Zq | apply Zp | apply Zo) | exact HB.out))) : w.heap.size ≤ ab)); have ar := zzk ((by rw [hg]; exact (Zr (by repeat (first | (with_reducible first | exact HB.out | apply Zq | apply Zp | apply Zo) | exact HB.out))) : w.heap.size ≤ ab)); clear HB; have HB := am; have aa := an; have aE := aq; have ap := ar; clear am an aq ar; clear hb hbox hg; have be : ax.cell? ⟨ab,0,none⟩ = some (.int .i64 af) := (zi aa.out 0).trans rfl; have bf : ax.cell? ⟨ab,1,none⟩ = some (.int .i64 ag) := (zi aa.out 1).trans rfl; have bg : ax.cell? ⟨ab,2,none⟩ = some (.slice ah ad.length ai) := (zi aa.out 2).trans rfl; have bh : ax.cell? ⟨ab,3,none⟩ = some (.slice aj ae.length ak) := (zi aa.out 3).trans rfl; have bi : ax.cell? ⟨ab,4,none⟩ = some (.string ac) := (zi aa.out 4).trans rfl; have bj := zm aa.out 0; have bk := zm aa.out 1; have bl := zm aa.out 2; have bm := zm aa.out 3; have bn := zm aa.out 4) | ((with_reducible refine zza (f := 28) rfl ?_); refine zzd (some 13) rfl rfl Try.func28 (by kernel_rfl) rfl #[.int .i64 (ac.size : Int),.int .i64 a1] rfl (by (try simp only [zd,ze,zf]); first | done | rfl | (simp only [zg,zh]; rfl)) ?_; (with_reducible refine (r16_Part.calls k (ac.size : Int) a1 al false _ A3.out).mono ?_); rintro e ay ⟨rfl,hb⟩; refine ⟨_,rfl,?_⟩; have am := zzk (zo (g := ab) (o := .cells #[.int .i64 af,.int .i64 ag,.slice ah ad.length ai,.slice aj ae.length ak,.string ac] 26 (0,0)) (by (with_reducible repeat (first | refine zj ?_ _ | refine zl ?_ | refine zk ?_ _)); exact aa.out) hb); have an := zzk (Zs (by repeat (first | (with_reducible first | exact HB.out | apply Zq | apply Zp | apply Zo | refine Zn ?_ ap.out) | exact HB.out)) hb); clear aa; clear HB; have aa := am; have HB := an; clear am an; (try clear hb); (try clear hb2); (try clear hk); (try clear hi); have bo : ay.cell? ⟨ab,0,none⟩ = some (.int .i64 af) := (zi aa.out 0).trans rfl; have bq : ay.cell? ⟨ab,1,none⟩ = some (.int .i64 ag) := (zi aa.out 1).trans rfl; have br : ay.cell? ⟨ab,2,none⟩ = some (.slice ah ad.length ai) := (zi aa.out 2).trans rfl; have bs : ay.cell? ⟨ab,3,none⟩ = some (.slice aj ae.length ak) := (zi aa.out 3).trans rfl; have bt : ay.cell? ⟨ab,4,none⟩ = some (.string ac) := (zi aa.out 4).trans rfl; have bu := zm aa.out 0; have bv := zm aa.out 1; have bw := zm aa.out 2; have bx := zm aa.out 3; have bz := zm aa.out 4))
   go_ret2
   exact ⟨by first | rfl | (simp [zzl,zzm] <;> rfl) | (simp [*,zzl,zzm] <;> rfl),by repeat (first | (with_reducible first | exact HB.out | apply Zq | apply Zp | apply Zo | refine Zn ?_ ap.out) | exact HB.out)⟩
end Go.Proofs.Ytpagkmdlmhdenaa.PAll
