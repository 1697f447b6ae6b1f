-- Written by a program of the session.
import Derived.Test.YtpagkmdlmhdenaaAlAll
import Derived.Test.YtpagkmdlmhdenaaPAllx0
import Derived.Test.YtpagkmdlmhdenaaPAllx1
namespace Go.Proofs.Ytpagkmdlmhdenaa.PAll
open Go.RowKit Go.Proofs.YtpagkmdlmhdenaaW.PrintWords Go.Proofs.YtpagkmdlmhdenaaW.PrintLast Go.Proofs.YtpagkmdlmhdenaaW.PrintMore
attribute [local go_sem] max2_int min2_int max_two min_two max_three min_three max_four min_four   -- for this text's walks alone
set_option linter.unusedVariables false
set_option linter.unusedSimpArgs false
attribute [local go_sem high] eqA64
/-! ### chunk_none: function 35 -/
def chunk_none.f (ac : Int) (ad : Int) (ae : Int) (af : Int) (aj : List Int) (ak : List Int) (ag : Int) (ah : ByteArray) (ai : Bool) : Option (Bool) := if (ac == 0 && (ad == 0 && (ae == 0 && (af == 0 && (ag == 0 && (ah.toList.isEmpty && (!ai))))))) = true then (some ((wrap64 ((aj.length : Int) + (ak.length : Int))) == 0)) else (some false)
set_option maxHeartbeats 8000000 in
set_option maxRecDepth 100000 in
theorem chunk_none.calls (ac : Int) (ad : Int) (ae : Int) (af : Int) (al : Option Addr) (am : Nat) (aj : List Int) (an : Option Addr) (ao : Nat) (ak : List Int) (ag : Int) (ah : ByteArray) (ai : Bool) (r : Bool) (w : World) (aw : Kd.C (Kd.int .i64) w al aj.length aj) (ax : aj.length ≤ am) (ay : Kd.C (Kd.int .i64) w an ak.length ak) (az : ak.length ≤ ao) (h : chunk_none.f ac ad ae af aj ak ag ah ai = some r) :
 Calls Try.prog 35 #[.agg #[.int .i64 ac,.int .i64 ad,.int .i64 ae,.int .i64 af,.slice al aj.length am,.slice an ak.length ao,.int .i64 ag,.string ah,.bool ai]] w fun e w' => e = .returned (.bool r) ∧ Below w.heap.size w w' := by
 have hu34 := Try.underlying34
 have hu64 := Try.underlying64
 have bo := zzk aw
 have bq := zzk ax
 clear aw ax
 have br := zzk ay
 have bs := zzk az
 clear ay az
 have HB := zzk (Below.refl w.heap.size w)
 have H : (if (ac == 0 && (ad == 0 && (ae == 0 && (af == 0 && (ag == 0 && (ah.toList.isEmpty && (!ai))))))) = true then (some ((wrap64 ((aj.length : Int) + (ak.length : Int))) == 0)) else (some false)) = some r := h
 clear h
 by_cases c2 : (ac == 0 && (ad == 0 && (ae == 0 && (af == 0 && (ag == 0 && (ah.toList.isEmpty && (!ai))))))) = true
 ·
  rw [if_pos c2] at H
  have aB : (ac == 0 && (ad == 0 && (ae == 0 && (af == 0 && (ag == 0 && (ah.toList.isEmpty && (!ai))))))) = true := c2
  (try (have aC : decide (ac = 0 && (ad == 0 && (ae == 0 && (af == 0 && (ag == 0 && (ah.toList.isEmpty && (!ai))))))) = true := by simpa using c2))
  (try (have aD : (ac == 0 && (ad == 0 && (ae == 0 && (af == 0 && (ag == 0 && (ah.toList.isEmpty && (!ai))))))) = true := by simpa using c2))
  clear c2
  obtain rfl := zzu H
  go_enter Try.func35,Try.ntmps35
  go_wp2_with (first | ((with_reducible refine Zy (N := 1) rfl ?_); (try (refine Zz (by rfl) ?_; dsimp only)); refine zzc ?hg (N := 1) ?hd (cs := #[.int .i64 ac,.int .i64 ad,.int .i64 ae,.int .i64 af,.slice al aj.length am,.slice an ak.length ao,.int .i64 ag,.string ah,.bool ai]) (t := 34) ?hr ?_; (case hd => rfl); (case hg => rfl); (case hr => first | (go_simp; done) | (go_simp; rfl)); intro ab hg w3 hbox hb; have aq := zzk (Zs (by repeat (first | (with_reducible first | exact HB.out | apply Zq | apply Zp | apply Zo) | exact HB.out)) hb); have ar := zzk (hbox); have au := zzk ((by rw [hg]; exact (Zr (by repeat (first | (with_reducible first | exact HB.out | apply Zq | apply Zp | apply Zo) | exact HB.out))) : w.heap.size ≤ ab)); have av := zzk ((by rw [hg]; exact (Zr (by repeat (first | (with_reducible first | exact HB.out | apply Zq | apply Zp | apply Zo) | exact HB.out))) : w.heap.size ≤ ab)); clear HB; have HB := aq; have aa := ar; have aA := au; have ap := av; clear aq ar au av; clear hb hbox hg; have aE : w3.cell? ⟨ab,0,none⟩ = some (.int .i64 ac) := (zi aa.out 0).trans rfl; have aF : w3.cell? ⟨ab,1,none⟩ = some (.int .i64 ad) := (zi aa.out 1).trans rfl; have aG : w3.cell? ⟨ab,2,none⟩ = some (.int .i64 ae) := (zi aa.out 2).trans rfl; have aH : w3.cell? ⟨ab,3,none⟩ = some (.int .i64 af) := (zi aa.out 3).trans rfl; have aI : w3.cell? ⟨ab,4,none⟩ = some (.slice al aj.length am) := (zi aa.out 4).trans rfl; have aJ : w3.cell? ⟨ab,5,none⟩ = some (.slice an ak.length ao) := (zi aa.out 5).trans rfl; have aK : w3.cell? ⟨ab,6,none⟩ = some (.int .i64 ag) := (zi aa.out 6).trans rfl; have aL : w3.cell? ⟨ab,7,none⟩ = some (.string ah) := (zi aa.out 7).trans rfl; have aM : w3.cell? ⟨ab,8,none⟩ = some (.bool ai) := (zi aa.out 8).trans rfl; have aN := zm aa.out 0; have aO := zm aa.out 1; have aP := zm aa.out 2; have aQ := zm aa.out 3; have aR := zm aa.out 4; have aS := zm aa.out 5; have aT := zm aa.out 6; have aU := zm aa.out 7; have aV := zm aa.out 8))
  go_ret
  exact ⟨by first | rfl | (simp [zzl,zzm] <;> rfl) | (simp [*,zzl,zzm] <;> rfl),by repeat (first | (with_reducible first | exact HB.out | apply Zq | apply Zp | apply Zo | refine Zn ?_ ap.out) | exact HB.out)⟩
 ·
  rw [if_neg c2] at H
  have aB : (ac == 0 && (ad == 0 && (ae == 0 && (af == 0 && (ag == 0 && (ah.toList.isEmpty && (!ai))))))) = false := by simpa using c2
  (try (have aC : decide (ac = 0 && (ad == 0 && (ae == 0 && (af == 0 && (ag == 0 && (ah.toList.isEmpty && (!ai))))))) = false := by simpa using c2))
  (try (have aD : (ac == 0 && (ad == 0 && (ae == 0 && (af == 0 && (ag == 0 && (ah.toList.isEmpty && (!ai))))))) = false := by simpa using c2))
  (try (have bt : ¬ (ac = 0 && (ad == 0 && (ae == 0 && (af == 0 && (ag == 0 && (ah.toList.isEmpty && (!ai))))))) := by simpa using c2))
  clear c2
  obtain rfl := zzu H
  go_enter Try.func35,Try.ntmps35
  go_wp2_with (first | ((with_reducible refine Zy (N := 1) rfl ?_); (try (refine Zz (by rfl) ?_; dsimp only)); refine zzc ?hg (N := 1) ?hd (cs := #[.int .i64 ac,.int .i64 ad,.int .i64 ae,.int .i64 af,.slice al aj.length am,.slice an ak.length ao,.int .i64 ag,.string ah,.bool ai]) (t := 34) ?hr ?_; (case hd => rfl); (case hg => rfl); (case hr => first | (go_simp; done) | (go_simp; rfl)); intro ab hg w5 hbox hb; have aq := zzk (Zs (by repeat (first | (with_reducible first | exact HB.out | apply Zq | apply Zp | apply Zo) | exact HB.out)) hb); have ar := zzk (hbox); have au := zzk ((by rw [hg]; exact (Zr (by repeat (first | (with_reducible first | exact HB.out | apply Zq | apply Zp | apply Zo) | exact HB.out))) : w.heap.size ≤ ab)); have av := zzk ((by rw [hg]; exact (Zr (by repeat (first | (with_reducible first | exact HB.out | apply Zq | apply Zp | apply Zo) | exact HB.out))) : w.heap.size ≤ ab)); clear HB; have HB := aq; have aa := ar; have aA := au; have ap := av; clear aq ar au av; clear hb hbox hg; have aW : w5.cell? ⟨ab,0,none⟩ = some (.int .i64 ac) := (zi aa.out 0).trans rfl; have aX : w5.cell? ⟨ab,1,none⟩ = some (.int .i64 ad) := (zi aa.out 1).trans rfl; have aY : w5.cell? ⟨ab,2,none⟩ = some (.int .i64 ae) := (zi aa.out 2).trans rfl; have aZ : w5.cell? ⟨ab,3,none⟩ = some (.int .i64 af) := (zi aa.out 3).trans rfl; have ba : w5.cell? ⟨ab,4,none⟩ = some (.slice al aj.length am) := (zi aa.out 4).trans rfl; have bb : w5.cell? ⟨ab,5,none⟩ = some (.slice an ak.length ao) := (zi aa.out 5).trans rfl; have bc : w5.cell? ⟨ab,6,none⟩ = some (.int .i64 ag) := (zi aa.out 6).trans rfl; have bd : w5.cell? ⟨ab,7,none⟩ = some (.string ah) := (zi aa.out 7).trans rfl; have be : w5.cell? ⟨ab,8,none⟩ = some (.bool ai) := (zi aa.out 8).trans rfl; have bf := zm aa.out 0; have bg := zm aa.out 1; have bh := zm aa.out 2; have bi := zm aa.out 3; have bj := zm aa.out 4; have bk := zm aa.out 5; have bl := zm aa.out 6; have bm := zm aa.out 7; have bn := zm aa.out 8))
  go_ret
  exact ⟨by first | rfl | (simp [zzl,zzm] <;> rfl) | (simp [*,zzl,zzm] <;> rfl),by repeat (first | (with_reducible first | exact HB.out | apply Zq | apply Zp | apply Zo | refine Zn ?_ ap.out) | exact HB.out)⟩
end Go.Proofs.Ytpagkmdlmhdenaa.PAll
