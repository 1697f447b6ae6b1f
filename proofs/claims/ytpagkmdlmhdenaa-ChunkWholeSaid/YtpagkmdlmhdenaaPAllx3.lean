-- Written by a program of the session.
import Derived.Test.YtpagkmdlmhdenaaAlAll
import Derived.Test.YtpagkmdlmhdenaaPAllx0
import Derived.Test.YtpagkmdlmhdenaaPAllx2
namespace Go.Proofs.Ytpagkmdlmhdenaa.PAll
open Go.RowKit Go.Proofs.YtpagkmdlmhdenaaW.PrintWords Go.Proofs.YtpagkmdlmhdenaaW.PrintLast Go.Proofs.YtpagkmdlmhdenaaW.PrintMore
attribute [local go_sem] max2_int min2_int max_two min_two max_three min_three max_four min_four   -- for this text's walks alone
set_option linter.unusedVariables false
set_option linter.unusedSimpArgs false
/-! ### L_large: function 8 -/
def L_large.f (af : Int) (ag : Int) (ad : List Int) (ae : List Int) (ac : ByteArray) : Option (Bool) := if (ac.size : Int) > 262144 then (some true) else ((r08_BigCouncil.f ad ae).bind fun al => (some al))
set_option maxHeartbeats 8000000 in
set_option maxRecDepth 100000 in
theorem L_large.calls (af : Int) (ag : Int) (ah : Option Addr) (ai : Nat) (ad : List Int) (aj : Option Addr) (ak : Nat) (ae : List Int) (ac : ByteArray) (r : Bool) (w : World) (ar : Kd.C (Kd.int .i64) w ah ad.length ad) (au : ad.length ≤ ai) (av : Kd.C (Kd.int .i64) w aj ae.length ae) (aw : ae.length ≤ ak) (h : L_large.f af ag ad ae ac = some r) :
 Calls Try.prog 8 #[.agg #[.int .i64 af,.int .i64 ag,.slice ah ad.length ai,.slice aj ae.length ak,.string ac]] w fun e w' => e = .returned (.bool r) ∧ Below w.heap.size w w' := by
 have hu26 := Try.underlying26
 have hu24 := Try.underlying24
 have ax := zzk ar
 have ay := zzk au
 clear ar au
 have az := zzk av
 have aA := zzk aw
 clear av aw
 have HB := zzk (Below.refl w.heap.size w)
 have H : (if (ac.size : Int) > 262144 then (some true) else ((r08_BigCouncil.f ad ae).bind fun al => (some al))) = some r := h
 clear h
 by_cases c2 : (ac.size : Int) > 262144
 ·
  rw [if_pos c2] at H
  have aD : decide (262144 < (ac.size : Int)) = true := zzn c2
  have aE : decide (262144 < ac.size) = true := zzn (by omega)
  clear c2
  obtain rfl := zzu H
  go_enter Try.func8,Try.ntmps8
  go_wp2_with (first | ((with_reducible refine Zy (N := 1) rfl ?_); refine zzc ?hg (N := 1) ?hd (cs := #[.int .i64 af,.int .i64 ag,.slice ah ad.length ai,.slice aj ae.length ak,.string ac]) (t := 26) ?hr ?_; (case hd => rfl); (case hg => rfl); (case hr => first | (go_simp; done) | (go_simp; rfl)); intro ab hg w3 hbox hb; have am := zzk (Zs (by repeat (first | (with_reducible first | exact HB.out | apply Zq | apply Zp | apply Zo) | exact HB.out)) hb); have an := zzk (hbox); have ap := zzk ((by rw [hg]; exact (Zr (by repeat (first | (with_reducible first | exact HB.out | apply Zq | apply Zp | apply Zo) | exact HB.out))) : w.heap.size ≤ ab)); have aq := zzk ((by rw [hg]; exact (Zr (by repeat (first | (with_reducible first | exact HB.out | apply Zq | apply Zp | apply Zo) | exact HB.out))) : w.heap.size ≤ ab)); clear HB; have HB := am; have aa := an; have aB := ap; have ao := aq; clear am an ap aq; clear hb hbox hg; have aF : w3.cell? ⟨ab,0,none⟩ = some (.int .i64 af) := (zi aa.out 0).trans rfl; have aG : w3.cell? ⟨ab,1,none⟩ = some (.int .i64 ag) := (zi aa.out 1).trans rfl; have aH : w3.cell? ⟨ab,2,none⟩ = some (.slice ah ad.length ai) := (zi aa.out 2).trans rfl; have aI : w3.cell? ⟨ab,3,none⟩ = some (.slice aj ae.length ak) := (zi aa.out 3).trans rfl; have aJ : w3.cell? ⟨ab,4,none⟩ = some (.string ac) := (zi aa.out 4).trans rfl; have aK := zm aa.out 0; have aL := zm aa.out 1; have aM := zm aa.out 2; have aN := zm aa.out 3; have aO := zm aa.out 4))
  go_ret
  exact ⟨by first | rfl | (simp [zzl,zzm] <;> rfl) | (simp [*,zzl,zzm] <;> rfl),by repeat (first | (with_reducible first | exact HB.out | apply Zq | apply Zp | apply Zo | refine Zn ?_ ao.out) | exact HB.out)⟩
 ·
  rw [if_neg c2] at H
  have aD : decide (262144 < (ac.size : Int)) = false := zzo c2
  have aE : decide (262144 < ac.size) = false := zzo (by omega)
  clear c2
  replace H := Option.bind_eq_some_iff.mp H
  obtain ⟨al,aC,H⟩ := H
  replace H : (some al) = some r := H
  have A5 := zzk aC
  clear aC
  obtain rfl := zzu H
  go_enter Try.func8,Try.ntmps8
  go_wp2_with (first | ((with_reducible refine Zy (N := 1) rfl ?_); refine zzc ?hg (N := 1) ?hd (cs := #[.int .i64 af,.int .i64 ag,.slice ah ad.length ai,.slice aj ae.length ak,.string ac]) (t := 26) ?hr ?_; (case hd => rfl); (case hg => rfl); (case hr => first | (go_simp; done) | (go_simp; rfl)); intro ab hg w6 hbox hb; have am := zzk (Zs (by repeat (first | (with_reducible first | exact HB.out | apply Zq | apply Zp | apply Zo) | exact HB.out)) hb); have an := zzk (hbox); have ap := zzk ((by rw [hg]; exact (Zr (by repeat (first | (with_reducible first | exact HB.out | apply Zq | apply Zp | apply Zo) | exact HB.out))) : w.heap.size ≤ ab)); have aq := zzk ((by rw [hg]; exact (Zr (by repeat (first | (with_reducible first | exact HB.out | apply Zq | apply Zp | apply Zo) | exact HB.out))) : w.heap.size ≤ ab)); clear HB; have HB := am; have aa := an; have aB := ap; have ao := aq; clear am an ap aq; clear hb hbox hg; have aP : w6.cell? ⟨ab,0,none⟩ = some (.int .i64 af) := (zi aa.out 0).trans rfl; have aQ : w6.cell? ⟨ab,1,none⟩ = some (.int .i64 ag) := (zi aa.out 1).trans rfl; have aR : w6.cell? ⟨ab,2,none⟩ = some (.slice ah ad.length ai) := (zi aa.out 2).trans rfl; have aS : w6.cell? ⟨ab,3,none⟩ = some (.slice aj ae.length ak) := (zi aa.out 3).trans rfl; have aT : w6.cell? ⟨ab,4,none⟩ = some (.string ac) := (zi aa.out 4).trans rfl; have aU := zm aa.out 0; have aV := zm aa.out 1; have aW := zm aa.out 2; have aX := zm aa.out 3; have aY := zm aa.out 4) | (go_at_call 12; (with_reducible refine (r08_BigCouncil.calls _ _ ad _ _ ae al _ ?side1 ?side2 ?side3 ?side4 A5.out).mono ?_); (case side1 => repeat (first | exact (Zm ax.out HB.out) | (with_reducible refine Zk ?_ _) | (with_reducible refine Zj ?_ _) | (with_reducible refine Zl ?_))); (case side2 => exact ay.out); (case side3 => repeat (first | exact (Zm az.out HB.out) | (with_reducible refine Zk ?_ _) | (with_reducible refine Zj ?_ _) | (with_reducible refine Zl ?_))); (case side4 => exact aA.out); rintro e w8 ⟨rfl,hb⟩; have am := zzk (zo (g := ab) (o := .cells #[.int .i64 af,.int .i64 ag,.slice ah ad.length ai,.slice aj ae.length ak,.string ac] 26 (0,0)) (by (with_reducible repeat (first | refine zj ?_ _ | refine zl ?_ | refine zk ?_ _)); exact aa.out) hb); have an := zzk (Zs (by repeat (first | (with_reducible first | exact HB.out | apply Zq | apply Zp | apply Zo | refine Zn ?_ ao.out) | exact HB.out)) hb); clear aa; clear HB; have aa := am; have HB := an; clear am an; (try clear hb); (try clear hb2); (try clear hk); (try clear hi)))
  go_ret
  exact ⟨by first | rfl | (simp [zzl,zzm] <;> rfl) | (simp [*,zzl,zzm] <;> rfl),by repeat (first | (with_reducible first | exact HB.out | apply Zq | apply Zp | apply Zo | refine Zn ?_ ao.out) | exact HB.out)⟩
end Go.Proofs.Ytpagkmdlmhdenaa.PAll
