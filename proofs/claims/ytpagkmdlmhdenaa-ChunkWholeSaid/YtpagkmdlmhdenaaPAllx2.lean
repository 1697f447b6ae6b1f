-- Written by a program of the session.
import Derived.Test.YtpagkmdlmhdenaaAlAll
import Derived.Test.YtpagkmdlmhdenaaPAllx0
namespace Go.Proofs.Ytpagkmdlmhdenaa.PAll
open Go.RowKit Go.Proofs.YtpagkmdlmhdenaaW.PrintWords Go.Proofs.YtpagkmdlmhdenaaW.PrintLast Go.Proofs.YtpagkmdlmhdenaaW.PrintMore
attribute [local go_sem] max2_int min2_int max_two min_two max_three min_three max_four min_four   -- for this text's walks alone
set_option linter.unusedVariables false
set_option linter.unusedSimpArgs false
/-! ### r08_BigCouncil: function 12 -/
def r08_BigCouncil.f (aa : List Int) (ab : List Int) : Option (Bool) := if (aa.length : Int) > 5000 then (some true) else (some (decide ((ab.length : Int) > 5000)))
set_option maxHeartbeats 8000000 in
set_option maxRecDepth 100000 in
theorem r08_BigCouncil.calls (ae : Option Addr) (af : Nat) (aa : List Int) (ag : Option Addr) (ah : Nat) (ab : List Int) (r : Bool) (w : World) (an : Kd.C (Kd.int .i64) w ae aa.length aa) (ao : aa.length ≤ af) (ap : Kd.C (Kd.int .i64) w ag ab.length ab) (aq : ab.length ≤ ah) (h : r08_BigCouncil.f aa ab = some r) :
 Calls Try.prog 12 #[.agg #[.slice ae aa.length af,.slice ag ab.length ah]] w fun e w' => e = .returned (.bool r) ∧ Below w.heap.size w w' := by
 have hu24 := Try.underlying24
 have aE := zzk an
 have aF := zzk ao
 clear an ao
 have aG := zzk ap
 have aH := zzk aq
 clear ap aq
 have HB := zzk (Below.refl w.heap.size w)
 have H : (if (aa.length : Int) > 5000 then (some true) else (some (decide ((ab.length : Int) > 5000)))) = some r := h
 clear h
 by_cases c2 : (aa.length : Int) > 5000
 ·
  rw [if_pos c2] at H
  have au : decide (5000 < (aa.length : Int)) = true := zzn c2
  have av : decide (5000 < aa.length) = true := zzn (by omega)
  clear c2
  obtain rfl := zzu H
  go_enter Try.func12,Try.ntmps12
  go_wp2_with (first | ((with_reducible refine Zy (N := 1) rfl ?_); (try (refine Zz (by rfl) ?_; dsimp only)); refine zzc ?hg (N := 1) ?hd (cs := #[.slice ae aa.length af,.slice ag ab.length ah]) (t := 24) ?hr ?_; (case hd => rfl); (case hg => rfl); (case hr => first | (go_simp; done) | (go_simp; rfl)); intro ac hg w3 hbox hb; have aj := zzk (Zs (by repeat (first | (with_reducible first | exact HB.out | apply Zq | apply Zp | apply Zo) | exact HB.out)) hb); have ak := zzk (hbox); have al := zzk ((by rw [hg]; exact (Zr (by repeat (first | (with_reducible first | exact HB.out | apply Zq | apply Zp | apply Zo) | exact HB.out))) : w.heap.size ≤ ac)); have am := zzk ((by rw [hg]; exact (Zr (by repeat (first | (with_reducible first | exact HB.out | apply Zq | apply Zp | apply Zo) | exact HB.out))) : w.heap.size ≤ ac)); clear HB; have HB := aj; have ad := ak; have ar := al; have ai := am; clear aj ak al am; clear hb hbox hg; have aw : w3.cell? ⟨ac,0,none⟩ = some (.slice ae aa.length af) := (zi ad.out 0).trans rfl; have ax : w3.cell? ⟨ac,1,none⟩ = some (.slice ag ab.length ah) := (zi ad.out 1).trans rfl; have ay := zm ad.out 0; have az := zm ad.out 1))
  go_ret
  exact ⟨by first | rfl | (simp [zzl,zzm] <;> rfl) | (simp [*,zzl,zzm] <;> rfl),by repeat (first | (with_reducible first | exact HB.out | apply Zq | apply Zp | apply Zo | refine Zn ?_ ai.out) | exact HB.out)⟩
 ·
  rw [if_neg c2] at H
  have au : decide (5000 < (aa.length : Int)) = false := zzo c2
  have av : decide (5000 < aa.length) = false := zzo (by omega)
  clear c2
  obtain rfl := zzu H
  go_enter Try.func12,Try.ntmps12
  go_wp2_with (first | ((with_reducible refine Zy (N := 1) rfl ?_); (try (refine Zz (by rfl) ?_; dsimp only)); refine zzc ?hg (N := 1) ?hd (cs := #[.slice ae aa.length af,.slice ag ab.length ah]) (t := 24) ?hr ?_; (case hd => rfl); (case hg => rfl); (case hr => first | (go_simp; done) | (go_simp; rfl)); intro ac hg w5 hbox hb; have aj := zzk (Zs (by repeat (first | (with_reducible first | exact HB.out | apply Zq | apply Zp | apply Zo) | exact HB.out)) hb); have ak := zzk (hbox); have al := zzk ((by rw [hg]; exact (Zr (by repeat (first | (with_reducible first | exact HB.out | apply Zq | apply Zp | apply Zo) | exact HB.out))) : w.heap.size ≤ ac)); have am := zzk ((by rw [hg]; exact (Zr (by repeat (first | (with_reducible first | exact HB.out | apply Zq | apply Zp | apply Zo) | exact HB.out))) : w.heap.size ≤ ac)); clear HB; have HB := aj; have ad := ak; have ar := al; have ai := am; clear aj ak al am; clear hb hbox hg; have aA : w5.cell? ⟨ac,0,none⟩ = some (.slice ae aa.length af) := (zi ad.out 0).trans rfl; have aB : w5.cell? ⟨ac,1,none⟩ = some (.slice ag ab.length ah) := (zi ad.out 1).trans rfl; have aC := zm ad.out 0; have aD := zm ad.out 1))
  go_ret
  exact ⟨by first | rfl | (simp [zzl,zzm] <;> rfl) | (simp [*,zzl,zzm] <;> rfl),by repeat (first | (with_reducible first | exact HB.out | apply Zq | apply Zp | apply Zo | refine Zn ?_ ai.out) | exact HB.out)⟩
end Go.Proofs.Ytpagkmdlmhdenaa.PAll
