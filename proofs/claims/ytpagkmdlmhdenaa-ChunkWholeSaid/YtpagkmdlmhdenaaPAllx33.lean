-- Written by a program of the session.
import Derived.Test.YtpagkmdlmhdenaaAlAll
import Derived.Test.YtpagkmdlmhdenaaPAllx0
import Derived.Test.YtpagkmdlmhdenaaPAllx11
import Derived.Test.YtpagkmdlmhdenaaPAllx26
import Derived.Test.YtpagkmdlmhdenaaPAllx27
namespace Go.Proofs.Ytpagkmdlmhdenaa.PAll
open Go.RowKit Go.Proofs.YtpagkmdlmhdenaaW.PrintWords Go.Proofs.YtpagkmdlmhdenaaW.PrintLast Go.Proofs.YtpagkmdlmhdenaaW.PrintMore
attribute [local go_sem] max2_int min2_int max_two min_two max_three min_three max_four min_four   -- for this text's walks alone
set_option linter.unusedVariables false
set_option linter.unusedSimpArgs false
/-! ### r16_Whole: function 25 -/
def r16_Whole.j0 : Nat → Bool → Int → Int → Int → Int → List Int → List Int → Int → ByteArray → Bool → Option (Int × Int × List Int × List Int × ByteArray × Int)
 | 0,_,_,_,_,_,_,_,_,_,_ => none
 | k + 1,dL,dx,dy,bb,bc,bd,be,dz,bf,dA => if dL = true then (some (0,0,([] : List Int),([] : List Int),(⟨#[]⟩ : ByteArray),150)) else ((r08_OwnCouncil.f bd be).bind fun aG => (some (bb,bc,aG.1,aG.2,bf,0)))
def r16_Whole.f (k : Nat) (al : Int) (am : Int) (af : Int) (ag : Int) (ai : List Int) (aj : List Int) (an : Int) (ak : ByteArray) (ah : Bool) : Option (Int × Int × List Int × List Int × ByteArray × Int) := (r16_Right.f k al am af ag ai aj an ak ah).bind fun aK => (if aK = true then ((r16_Zero.f al am af ag ai aj an ak ah).bind fun aA => (if aA = true then (r16_Whole.j0 k true al am af ag ai aj an ak ah) else (r16_Whole.j0 k ah al am af ag ai aj an ak ah))) else (r16_Whole.j0 k true al am af ag ai aj an ak ah))
def r16_Whole.T3 : Bool × List (List Nat × List Nat) := (true,[([],[]),([0],[0]),([],[]),([2],[2]),([],[]),([4],[4]),([5],[5]),([],[]),([7],[7]),([1,3,6,8],[1,3,6,8]),([9,6,0,1,2,3,4,5,6,7,8,9],[9]),([10,0,1,2,3,4,5,6,7,8,9,10],[])])
def r16_Whole.B3 : List Nat := [0,1,0,4,0,16,48,0,128,511,1023,2047]
theorem r16_Whole.tab3 : rtab .any (opsOf Try.f25 3) = r16_Whole.T3 := by kernel_rfl
theorem r16_Whole.bits3 : waitsOk r16_Whole.T3.2 r16_Whole.B3 = true := by kernel_rfl
set_option maxHeartbeats 8000000 in
set_option maxRecDepth 100000 in
theorem r16_Whole.calls (k : Nat) (al : Int) (am : Int) (af : Int) (ag : Int) (ao : Option Addr) (ap : Nat) (ai : List Int) (aq : Option Addr) (ar : Nat) (aj : List Int) (an : Int) (ak : ByteArray) (ah : Bool) (r1 : Int) (r2 : Int) (r3 : List Int) (r4 : List Int) (r5 : ByteArray) (r6 : Int) (w : World) (aU : Kd.C (Kd.int .i64) w ao ai.length ai) (aV : ai.length ≤ ap) (aW : Kd.C (Kd.int .i64) w aq aj.length aj) (aX : aj.length ≤ ar) (h : r16_Whole.f k al am af ag ai aj an ak ah = some (r1,r2,r3,r4,r5,r6)) :
 Calls Try.prog 25 #[.agg #[.int .i64 al,.int .i64 am,.int .i64 af,.int .i64 ag,.slice ao ai.length ap,.slice aq aj.length ar,.int .i64 an,.string ak,.bool ah]] w fun e w' => ∃ dn dp : Value,e = .returned (.tuple #[.agg #[.int .i64 r1,.int .i64 r2,dn,dp,.string r5],.int .i64 r6]) ∧ Kd.R (Kd.int .i64) 3 w' w.heap.size (fun k_ => some k_ ≠ (dp : Value).ownBlock) dn r3 ∧ Kd.R (Kd.int .i64) 3 w' w.heap.size (fun k_ => some k_ ≠ (dn : Value).ownBlock) dp r4 ∧ Below w.heap.size w w' := by
 have hu34 := Try.underlying34
 have hu26 := Try.underlying26
 have hu24 := Try.underlying24
 have aB := zzk aU
 have aC := zzk aV
 clear aU aV
 have aD := zzk aW
 have aE := zzk aX
 clear aW aX
 have HB := zzk (Below.refl w.heap.size w)
 have H : ((r16_Right.f k al am af ag ai aj an ak ah).bind fun aK => (if aK = true then ((r16_Zero.f al am af ag ai aj an ak ah).bind fun aA => (if aA = true then (r16_Whole.j0 k true al am af ag ai aj an ak ah) else (r16_Whole.j0 k ah al am af ag ai aj an ak ah))) else (r16_Whole.j0 k true al am af ag ai aj an ak ah))) = some (r1,r2,r3,r4,r5,r6) := h
 clear h
 have dq := zzk H
 clear H
 go_enter Try.func25,Try.ntmps25
 go_upto_region 1 with (first | ((with_reducible refine Zy (N := 1) rfl ?_); refine zzc ?hg (N := 1) ?hd (cs := #[.int .i64 al,.int .i64 am,.int .i64 af,.int .i64 ag,.slice ao ai.length ap,.slice aq aj.length ar,.int .i64 an,.string ak,.bool ah]) (t := 34) ?hr ?_; (case hd => rfl); (case hg => rfl); (case hr => first | (go_simp; done) | (go_simp; rfl)); intro ad hg w3 hbox hb; have aw := zzk (Zs (by repeat (first | (with_reducible first | exact HB.out | apply Zq | apply Zp | apply Zo) | exact HB.out)) hb); have ax := zzk (hbox); have ay := zzk ((by rw [hg]; exact (Zr (by repeat (first | (with_reducible first | exact HB.out | apply Zq | apply Zp | apply Zo) | exact HB.out))) : w.heap.size ≤ ad)); have aM := zzk ((by rw [hg]; exact (Zr (by repeat (first | (with_reducible first | exact HB.out | apply Zq | apply Zp | apply Zo) | exact HB.out))) : w.heap.size ≤ ad)); clear HB; have HB := aw; have aa := ax; have dO := ay; have av := aM; clear aw ax ay aM; clear hb hbox hg) | ((with_reducible refine Zy (N := 2) rfl ?_); refine zzc ?hg (N := 2) ?hd (cs := #[.int .i64 0,.int .i64 0,.slice none 0 0,.slice none 0 0,.string (⟨#[]⟩ : ByteArray)]) (t := 26) ?hr ?_; (case hd => rfl); (case hg => rfl); (case hr => first | (go_simp; done) | (go_simp; rfl)); intro ac hg w4 hbox hb; have aw := zzk (zo (g := ad) (o := .cells #[.int .i64 al,.int .i64 am,.int .i64 af,.int .i64 ag,.slice ao ai.length ap,.slice aq aj.length ar,.int .i64 an,.string ak,.bool ah] 34 (0,0)) (by (with_reducible repeat (first | refine zj ?_ _ | refine zl ?_ | refine zk ?_ _)); exact aa.out) hb); have ax := zzk (Zs (by repeat (first | (with_reducible first | exact HB.out | apply Zq | apply Zp | apply Zo | refine Zn ?_ av.out) | exact HB.out)) hb); have ay := zzk (hbox); have aM := zzk ((by rw [hg]; exact (Zr (by repeat (first | (with_reducible first | exact HB.out | apply Zq | apply Zp | apply Zo | refine Zn ?_ av.out) | exact HB.out))) : w.heap.size ≤ ac)); have aS := zzk ((by rw [hg]; exact (Zr (by repeat (first | (with_reducible first | exact HB.out | apply Zq | apply Zp | apply Zo | refine Zn ?_ av.out) | exact HB.out))) : w.heap.size ≤ ac)); have dt := zzk ((by rw [hg]; exact Nat.ne_of_lt (zq (g := ad) (o := .cells #[.int .i64 al,.int .i64 am,.int .i64 af,.int .i64 ag,.slice ao ai.length ap,.slice aq aj.length ar,.int .i64 an,.string ak,.bool ah] 34 (0,0)) (by (with_reducible repeat (first | refine zj ?_ _ | refine zl ?_ | refine zk ?_ _)); exact aa.out)) : ad ≠ ac)); have du := zzk ((by rw [hg]; exact Nat.ne_of_gt (zq (g := ad) (o := .cells #[.int .i64 al,.int .i64 am,.int .i64 af,.int .i64 ag,.slice ao ai.length ap,.slice aq aj.length ar,.int .i64 an,.string ak,.bool ah] 34 (0,0)) (by (with_reducible repeat (first | refine zj ?_ _ | refine zl ?_ | refine zk ?_ _)); exact aa.out)) : ac ≠ ad)); clear aa; clear HB; have aa := aw; have HB := ax; have ae := ay; have dP := aM; have az := aS; have ab := dt; have au := du; clear aw ax ay aM aS dt du; clear hb hbox hg))
 (try simp only [Act.put,za,zb,zc])
 go_cut [14] (fun dM wc => ∃ (kq : Nat) (aN : Bool),dM = .bool aN ∧ Aside0 (r16_Whole.j0 kq aN al am af ag ai aj an ak ah = some (r1,r2,r3,r4,r5,r6)) ∧ Aside0 (kq ≤ k) ∧ Aside0 (wc.heap[ad]? = some (.cells #[.int .i64 al,.int .i64 am,.int .i64 af,.int .i64 ag,(.slice ao ai.length ap),(.slice aq aj.length ar),.int .i64 an,.string ak,.bool ah] 34 (0,0))) ∧ Aside0 (wc.heap[ac]? = some (.cells #[.int .i64 0,.int .i64 0,(.slice none 0 0),(.slice none 0 0),.string (⟨#[]⟩ : ByteArray)] 26 (0,0))) ∧ Aside0 (Below w.heap.size w wc))
 case first =>
  have H := dq.out
  clear dq
  replace H := Option.bind_eq_some_iff.mp H
  obtain ⟨aK,dv,H⟩ := H
  replace H : (if aK = true then ((r16_Zero.f al am af ag ai aj an ak ah).bind fun aA => (if aA = true then (r16_Whole.j0 k true al am af ag ai aj an ak ah) else (r16_Whole.j0 k ah al am af ag ai aj an ak ah))) else (r16_Whole.j0 k true al am af ag ai aj an ak ah)) = some (r1,r2,r3,r4,r5,r6) := H
  have A5 := zzk dv
  clear dv
  by_cases c6 : aK = true
  ·
   subst c6
   have H1 : ((r16_Zero.f al am af ag ai aj an ak ah).bind fun aA => (if aA = true then (r16_Whole.j0 k true al am af ag ai aj an ak ah) else (r16_Whole.j0 k ah al am af ag ai aj an ak ah))) = some (r1,r2,r3,r4,r5,r6) := by rw [if_pos rfl] at H; exact H
   clear H
   have H := H1
   clear H1
   replace H := Option.bind_eq_some_iff.mp H
   obtain ⟨aA,dw,H⟩ := H
   replace H : (if aA = true then (r16_Whole.j0 k true al am af ag ai aj an ak ah) else (r16_Whole.j0 k ah al am af ag ai aj an ak ah)) = some (r1,r2,r3,r4,r5,r6) := H
   have A7 := zzk dw
   clear dw
   by_cases c8 : aA = true
   ·
    subst c8
    have H1 : (r16_Whole.j0 k true al am af ag ai aj an ak ah) = some (r1,r2,r3,r4,r5,r6) := by rw [if_pos rfl] at H; exact H
    clear H
    have H := H1
    clear H1
    have H' := zzk H
    clear H
    have dW := ab.out
    have dX := au.out
    have bg : w4.cell? ⟨ad,0,none⟩ = some (.int .i64 al) := (zi aa.out 0).trans rfl
    have bh : w4.cell? ⟨ad,1,none⟩ = some (.int .i64 am) := (zi aa.out 1).trans rfl
    have bi : w4.cell? ⟨ad,2,none⟩ = some (.int .i64 af) := (zi aa.out 2).trans rfl
    have bj : w4.cell? ⟨ad,3,none⟩ = some (.int .i64 ag) := (zi aa.out 3).trans rfl
    have bk : w4.cell? ⟨ad,4,none⟩ = some (.slice ao ai.length ap) := (zi aa.out 4).trans rfl
    have bl : w4.cell? ⟨ad,5,none⟩ = some (.slice aq aj.length ar) := (zi aa.out 5).trans rfl
    have bm : w4.cell? ⟨ad,6,none⟩ = some (.int .i64 an) := (zi aa.out 6).trans rfl
    have bn : w4.cell? ⟨ad,7,none⟩ = some (.string ak) := (zi aa.out 7).trans rfl
    have bo : w4.cell? ⟨ad,8,none⟩ = some (.bool ah) := (zi aa.out 8).trans rfl
    have bq := zm aa.out 0
    have br := zm aa.out 1
    have bs := zm aa.out 2
    have bt := zm aa.out 3
    have bu := zm aa.out 4
    have bv := zm aa.out 5
    have bw := zm aa.out 6
    have bx := zm aa.out 7
    have bz := zm aa.out 8
    go_wp2_with (first | ((with_reducible refine zza (f := 20) rfl ?_); refine zzd (some 5) rfl rfl Try.func20 (by kernel_rfl) rfl #[.agg #[.int .i64 al,.int .i64 am,.int .i64 af,.int .i64 ag,.slice ao ai.length ap,.slice aq aj.length ar,.int .i64 an,.string ak,.bool ah]] rfl (by (try simp only [zd,ze,zf]); first | done | rfl | (simp only [zg,zh]; rfl)) ?_; (with_reducible refine (r16_Right.calls k al am af ag _ _ ai _ _ aj an ak ah true _ ?side1 ?side2 ?side3 ?side4 A5.out).mono ?_); (case side1 => repeat (first | exact (Zm aB.out HB.out) | (with_reducible refine Zk ?_ _) | (with_reducible refine Zj ?_ _) | (with_reducible refine Zl ?_))); (case side2 => exact aC.out); (case side3 => repeat (first | exact (Zm aD.out HB.out) | (with_reducible refine Zk ?_ _) | (with_reducible refine Zj ?_ _) | (with_reducible refine Zl ?_))); (case side4 => exact aE.out); rintro e aH ⟨rfl,hb⟩; refine ⟨_,rfl,?_⟩; have aw := zzk (zo (g := ad) (o := .cells #[.int .i64 al,.int .i64 am,.int .i64 af,.int .i64 ag,.slice ao ai.length ap,.slice aq aj.length ar,.int .i64 an,.string ak,.bool ah] 34 (0,0)) (by (with_reducible repeat (first | refine zj ?_ _ | refine zl ?_ | refine zk ?_ _)); exact aa.out) hb); have ax := zzk (zo (g := ac) (o := .cells #[.int .i64 0,.int .i64 0,.slice none 0 0,.slice none 0 0,.string (⟨#[]⟩ : ByteArray)] 26 (0,0)) (by (with_reducible repeat (first | refine zj ?_ _ | refine zl ?_ | refine zk ?_ _)); exact ae.out) hb); have ay := zzk (Zs (by repeat (first | (with_reducible first | exact HB.out | apply Zq | apply Zp | apply Zo | refine Zn ?_ av.out | refine Zn ?_ az.out) | exact HB.out)) hb); clear aa; clear ae; clear HB; have aa := aw; have ae := ax; have HB := ay; clear aw ax ay; (try clear hb); (try clear hb2); (try clear hk); (try clear hi); have bA : aH.cell? ⟨ad,0,none⟩ = some (.int .i64 al) := (zi aa.out 0).trans rfl; have bB : aH.cell? ⟨ad,1,none⟩ = some (.int .i64 am) := (zi aa.out 1).trans rfl; have bC : aH.cell? ⟨ad,2,none⟩ = some (.int .i64 af) := (zi aa.out 2).trans rfl; have bD : aH.cell? ⟨ad,3,none⟩ = some (.int .i64 ag) := (zi aa.out 3).trans rfl; have bE : aH.cell? ⟨ad,4,none⟩ = some (.slice ao ai.length ap) := (zi aa.out 4).trans rfl; have bF : aH.cell? ⟨ad,5,none⟩ = some (.slice aq aj.length ar) := (zi aa.out 5).trans rfl; have bG : aH.cell? ⟨ad,6,none⟩ = some (.int .i64 an) := (zi aa.out 6).trans rfl; have bH : aH.cell? ⟨ad,7,none⟩ = some (.string ak) := (zi aa.out 7).trans rfl; have bI : aH.cell? ⟨ad,8,none⟩ = some (.bool ah) := (zi aa.out 8).trans rfl; have bJ := zm aa.out 0; have bK := zm aa.out 1; have bL := zm aa.out 2; have bM := zm aa.out 3; have bN := zm aa.out 4; have bO := zm aa.out 5; have bP := zm aa.out 6; have bQ := zm aa.out 7; have bR := zm aa.out 8) | (go_at_call 37; (with_reducible refine (r16_Zero.calls al am af ag _ _ ai _ _ aj an ak ah true _ ?side1 ?side2 ?side3 ?side4 A7.out).mono ?_); (case side1 => repeat (first | exact (Zm aB.out HB.out) | (with_reducible refine Zk ?_ _) | (with_reducible refine Zj ?_ _) | (with_reducible refine Zl ?_))); (case side2 => exact aC.out); (case side3 => repeat (first | exact (Zm aD.out HB.out) | (with_reducible refine Zk ?_ _) | (with_reducible refine Zj ?_ _) | (with_reducible refine Zl ?_))); (case side4 => exact aE.out); rintro e ea ⟨rfl,hb⟩; have aw := zzk (zo (g := ad) (o := .cells #[.int .i64 al,.int .i64 am,.int .i64 af,.int .i64 ag,.slice ao ai.length ap,.slice aq aj.length ar,.int .i64 an,.string ak,.bool ah] 34 (0,0)) (by (with_reducible repeat (first | refine zj ?_ _ | refine zl ?_ | refine zk ?_ _)); exact aa.out) hb); have ax := zzk (zo (g := ac) (o := .cells #[.int .i64 0,.int .i64 0,.slice none 0 0,.slice none 0 0,.string (⟨#[]⟩ : ByteArray)] 26 (0,0)) (by (with_reducible repeat (first | refine zj ?_ _ | refine zl ?_ | refine zk ?_ _)); exact ae.out) hb); have ay := zzk (Zs (by repeat (first | (with_reducible first | exact HB.out | apply Zq | apply Zp | apply Zo | refine Zn ?_ av.out | refine Zn ?_ az.out) | exact HB.out)) hb); clear aa; clear ae; clear HB; have aa := aw; have ae := ax; have HB := ay; clear aw ax ay; (try clear hb); (try clear hb2); (try clear hk); (try clear hi)))
    go_meet
    case rel => exact ⟨_,(true),(by first | rfl | (simp; done) | (simp [*]; done)),H',⟨by first | omega | exact Nat.le_refl _⟩,⟨by (with_reducible repeat (first | refine zj ?_ _ | refine zl ?_ | refine zk ?_ _)); exact aa.out⟩,⟨by (with_reducible repeat (first | refine zj ?_ _ | refine zl ?_ | refine zk ?_ _)); exact ae.out⟩,⟨by repeat (first | (with_reducible first | exact HB.out | apply Zq | apply Zp | apply Zo | refine Zn ?_ av.out | refine Zn ?_ az.out) | exact HB.out)⟩⟩
   ·
    replace c8 := Bool.eq_false_iff.mpr c8
    subst c8
    have H1 : (r16_Whole.j0 k ah al am af ag ai aj an ak ah) = some (r1,r2,r3,r4,r5,r6) := by rw [if_neg (show ¬ (false = true) by decide)] at H; exact H
    clear H
    have H := H1
    clear H1
    have H' := zzk H
    clear H
    have dQ := ab.out
    have dR := au.out
    have bS : w4.cell? ⟨ad,0,none⟩ = some (.int .i64 al) := (zi aa.out 0).trans rfl
    have bT : w4.cell? ⟨ad,1,none⟩ = some (.int .i64 am) := (zi aa.out 1).trans rfl
    have bU : w4.cell? ⟨ad,2,none⟩ = some (.int .i64 af) := (zi aa.out 2).trans rfl
    have bV : w4.cell? ⟨ad,3,none⟩ = some (.int .i64 ag) := (zi aa.out 3).trans rfl
    have bW : w4.cell? ⟨ad,4,none⟩ = some (.slice ao ai.length ap) := (zi aa.out 4).trans rfl
    have bX : w4.cell? ⟨ad,5,none⟩ = some (.slice aq aj.length ar) := (zi aa.out 5).trans rfl
    have bY : w4.cell? ⟨ad,6,none⟩ = some (.int .i64 an) := (zi aa.out 6).trans rfl
    have bZ : w4.cell? ⟨ad,7,none⟩ = some (.string ak) := (zi aa.out 7).trans rfl
    have ca : w4.cell? ⟨ad,8,none⟩ = some (.bool ah) := (zi aa.out 8).trans rfl
    have cb := zm aa.out 0
    have cc := zm aa.out 1
    have cd := zm aa.out 2
    have ce := zm aa.out 3
    have cf := zm aa.out 4
    have cg := zm aa.out 5
    have ch := zm aa.out 6
    have ci := zm aa.out 7
    have cj := zm aa.out 8
    go_wp2_with (first | ((with_reducible refine zza (f := 20) rfl ?_); refine zzd (some 5) rfl rfl Try.func20 (by kernel_rfl) rfl #[.agg #[.int .i64 al,.int .i64 am,.int .i64 af,.int .i64 ag,.slice ao ai.length ap,.slice aq aj.length ar,.int .i64 an,.string ak,.bool ah]] rfl (by (try simp only [zd,ze,zf]); first | done | rfl | (simp only [zg,zh]; rfl)) ?_; (with_reducible refine (r16_Right.calls k al am af ag _ _ ai _ _ aj an ak ah true _ ?side1 ?side2 ?side3 ?side4 A5.out).mono ?_); (case side1 => repeat (first | exact (Zm aB.out HB.out) | (with_reducible refine Zk ?_ _) | (with_reducible refine Zj ?_ _) | (with_reducible refine Zl ?_))); (case side2 => exact aC.out); (case side3 => repeat (first | exact (Zm aD.out HB.out) | (with_reducible refine Zk ?_ _) | (with_reducible refine Zj ?_ _) | (with_reducible refine Zl ?_))); (case side4 => exact aE.out); rintro e aI ⟨rfl,hb⟩; refine ⟨_,rfl,?_⟩; have aw := zzk (zo (g := ad) (o := .cells #[.int .i64 al,.int .i64 am,.int .i64 af,.int .i64 ag,.slice ao ai.length ap,.slice aq aj.length ar,.int .i64 an,.string ak,.bool ah] 34 (0,0)) (by (with_reducible repeat (first | refine zj ?_ _ | refine zl ?_ | refine zk ?_ _)); exact aa.out) hb); have ax := zzk (zo (g := ac) (o := .cells #[.int .i64 0,.int .i64 0,.slice none 0 0,.slice none 0 0,.string (⟨#[]⟩ : ByteArray)] 26 (0,0)) (by (with_reducible repeat (first | refine zj ?_ _ | refine zl ?_ | refine zk ?_ _)); exact ae.out) hb); have ay := zzk (Zs (by repeat (first | (with_reducible first | exact HB.out | apply Zq | apply Zp | apply Zo | refine Zn ?_ av.out | refine Zn ?_ az.out) | exact HB.out)) hb); clear aa; clear ae; clear HB; have aa := aw; have ae := ax; have HB := ay; clear aw ax ay; (try clear hb); (try clear hb2); (try clear hk); (try clear hi); have ck : aI.cell? ⟨ad,0,none⟩ = some (.int .i64 al) := (zi aa.out 0).trans rfl; have cl : aI.cell? ⟨ad,1,none⟩ = some (.int .i64 am) := (zi aa.out 1).trans rfl; have cm : aI.cell? ⟨ad,2,none⟩ = some (.int .i64 af) := (zi aa.out 2).trans rfl; have cn : aI.cell? ⟨ad,3,none⟩ = some (.int .i64 ag) := (zi aa.out 3).trans rfl; have co : aI.cell? ⟨ad,4,none⟩ = some (.slice ao ai.length ap) := (zi aa.out 4).trans rfl; have cp : aI.cell? ⟨ad,5,none⟩ = some (.slice aq aj.length ar) := (zi aa.out 5).trans rfl; have cq : aI.cell? ⟨ad,6,none⟩ = some (.int .i64 an) := (zi aa.out 6).trans rfl; have cr : aI.cell? ⟨ad,7,none⟩ = some (.string ak) := (zi aa.out 7).trans rfl; have ct : aI.cell? ⟨ad,8,none⟩ = some (.bool ah) := (zi aa.out 8).trans rfl; have cu := zm aa.out 0; have cv := zm aa.out 1; have cw := zm aa.out 2; have cx := zm aa.out 3; have cy := zm aa.out 4; have cz := zm aa.out 5; have cA := zm aa.out 6; have cB := zm aa.out 7; have cC := zm aa.out 8) | (go_at_call 37; (with_reducible refine (r16_Zero.calls al am af ag _ _ ai _ _ aj an ak ah false _ ?side1 ?side2 ?side3 ?side4 A7.out).mono ?_); (case side1 => repeat (first | exact (Zm aB.out HB.out) | (with_reducible refine Zk ?_ _) | (with_reducible refine Zj ?_ _) | (with_reducible refine Zl ?_))); (case side2 => exact aC.out); (case side3 => repeat (first | exact (Zm aD.out HB.out) | (with_reducible refine Zk ?_ _) | (with_reducible refine Zj ?_ _) | (with_reducible refine Zl ?_))); (case side4 => exact aE.out); rintro e aJ ⟨rfl,hb⟩; have aw := zzk (zo (g := ad) (o := .cells #[.int .i64 al,.int .i64 am,.int .i64 af,.int .i64 ag,.slice ao ai.length ap,.slice aq aj.length ar,.int .i64 an,.string ak,.bool ah] 34 (0,0)) (by (with_reducible repeat (first | refine zj ?_ _ | refine zl ?_ | refine zk ?_ _)); exact aa.out) hb); have ax := zzk (zo (g := ac) (o := .cells #[.int .i64 0,.int .i64 0,.slice none 0 0,.slice none 0 0,.string (⟨#[]⟩ : ByteArray)] 26 (0,0)) (by (with_reducible repeat (first | refine zj ?_ _ | refine zl ?_ | refine zk ?_ _)); exact ae.out) hb); have ay := zzk (Zs (by repeat (first | (with_reducible first | exact HB.out | apply Zq | apply Zp | apply Zo | refine Zn ?_ av.out | refine Zn ?_ az.out) | exact HB.out)) hb); clear aa; clear ae; clear HB; have aa := aw; have ae := ax; have HB := ay; clear aw ax ay; (try clear hb); (try clear hb2); (try clear hk); (try clear hi); have cD : aJ.cell? ⟨ad,0,none⟩ = some (.int .i64 al) := (zi aa.out 0).trans rfl; have cE : aJ.cell? ⟨ad,1,none⟩ = some (.int .i64 am) := (zi aa.out 1).trans rfl; have cF : aJ.cell? ⟨ad,2,none⟩ = some (.int .i64 af) := (zi aa.out 2).trans rfl; have cG : aJ.cell? ⟨ad,3,none⟩ = some (.int .i64 ag) := (zi aa.out 3).trans rfl; have cH : aJ.cell? ⟨ad,4,none⟩ = some (.slice ao ai.length ap) := (zi aa.out 4).trans rfl; have cI : aJ.cell? ⟨ad,5,none⟩ = some (.slice aq aj.length ar) := (zi aa.out 5).trans rfl; have cJ : aJ.cell? ⟨ad,6,none⟩ = some (.int .i64 an) := (zi aa.out 6).trans rfl; have cK : aJ.cell? ⟨ad,7,none⟩ = some (.string ak) := (zi aa.out 7).trans rfl; have cL : aJ.cell? ⟨ad,8,none⟩ = some (.bool ah) := (zi aa.out 8).trans rfl; have cM := zm aa.out 0; have cN := zm aa.out 1; have cO := zm aa.out 2; have cP := zm aa.out 3; have cQ := zm aa.out 4; have cR := zm aa.out 5; have cS := zm aa.out 6; have cT := zm aa.out 7; have cU := zm aa.out 8))
    go_meet
    case rel => exact ⟨_,(ah),(by first | rfl | (simp; done) | (simp [*]; done)),H',⟨by first | omega | exact Nat.le_refl _⟩,⟨by (with_reducible repeat (first | refine zj ?_ _ | refine zl ?_ | refine zk ?_ _)); exact aa.out⟩,⟨by (with_reducible repeat (first | refine zj ?_ _ | refine zl ?_ | refine zk ?_ _)); exact ae.out⟩,⟨by repeat (first | (with_reducible first | exact HB.out | apply Zq | apply Zp | apply Zo | refine Zn ?_ av.out | refine Zn ?_ az.out) | exact HB.out)⟩⟩
  ·
   replace c6 := Bool.eq_false_iff.mpr c6
   subst c6
   have H1 : (r16_Whole.j0 k true al am af ag ai aj an ak ah) = some (r1,r2,r3,r4,r5,r6) := by rw [if_neg (show ¬ (false = true) by decide)] at H; exact H
   clear H
   have H := H1
   clear H1
   have H' := zzk H
   clear H
   have dS := ab.out
   have dT := au.out
   have cV : w4.cell? ⟨ad,0,none⟩ = some (.int .i64 al) := (zi aa.out 0).trans rfl
   have cW : w4.cell? ⟨ad,1,none⟩ = some (.int .i64 am) := (zi aa.out 1).trans rfl
   have cX : w4.cell? ⟨ad,2,none⟩ = some (.int .i64 af) := (zi aa.out 2).trans rfl
   have cY : w4.cell? ⟨ad,3,none⟩ = some (.int .i64 ag) := (zi aa.out 3).trans rfl
   have cZ : w4.cell? ⟨ad,4,none⟩ = some (.slice ao ai.length ap) := (zi aa.out 4).trans rfl
   have da : w4.cell? ⟨ad,5,none⟩ = some (.slice aq aj.length ar) := (zi aa.out 5).trans rfl
   have db : w4.cell? ⟨ad,6,none⟩ = some (.int .i64 an) := (zi aa.out 6).trans rfl
   have dc : w4.cell? ⟨ad,7,none⟩ = some (.string ak) := (zi aa.out 7).trans rfl
   have dd : w4.cell? ⟨ad,8,none⟩ = some (.bool ah) := (zi aa.out 8).trans rfl
   have de := zm aa.out 0
   have df := zm aa.out 1
   have dg := zm aa.out 2
   have dh := zm aa.out 3
   have di := zm aa.out 4
   have dj := zm aa.out 5
   have dk := zm aa.out 6
   have dl := zm aa.out 7
   have dm := zm aa.out 8
   go_wp2_with (first | ((with_reducible refine zza (f := 20) rfl ?_); refine zzd (some 5) rfl rfl Try.func20 (by kernel_rfl) rfl #[.agg #[.int .i64 al,.int .i64 am,.int .i64 af,.int .i64 ag,.slice ao ai.length ap,.slice aq aj.length ar,.int .i64 an,.string ak,.bool ah]] rfl (by (try simp only [zd,ze,zf]); first | done | rfl | (simp only [zg,zh]; rfl)) ?_; (with_reducible refine (r16_Right.calls k al am af ag _ _ ai _ _ aj an ak ah false _ ?side1 ?side2 ?side3 ?side4 A5.out).mono ?_); (case side1 => repeat (first | exact (Zm aB.out HB.out) | (with_reducible refine Zk ?_ _) | (with_reducible refine Zj ?_ _) | (with_reducible refine Zl ?_))); (case side2 => exact aC.out); (case side3 => repeat (first | exact (Zm aD.out HB.out) | (with_reducible refine Zk ?_ _) | (with_reducible refine Zj ?_ _) | (with_reducible refine Zl ?_))); (case side4 => exact aE.out); rintro e eb ⟨rfl,hb⟩; refine ⟨_,rfl,?_⟩; have aw := zzk (zo (g := ad) (o := .cells #[.int .i64 al,.int .i64 am,.int .i64 af,.int .i64 ag,.slice ao ai.length ap,.slice aq aj.length ar,.int .i64 an,.string ak,.bool ah] 34 (0,0)) (by (with_reducible repeat (first | refine zj ?_ _ | refine zl ?_ | refine zk ?_ _)); exact aa.out) hb); have ax := zzk (zo (g := ac) (o := .cells #[.int .i64 0,.int .i64 0,.slice none 0 0,.slice none 0 0,.string (⟨#[]⟩ : ByteArray)] 26 (0,0)) (by (with_reducible repeat (first | refine zj ?_ _ | refine zl ?_ | refine zk ?_ _)); exact ae.out) hb); have ay := zzk (Zs (by repeat (first | (with_reducible first | exact HB.out | apply Zq | apply Zp | apply Zo | refine Zn ?_ av.out | refine Zn ?_ az.out) | exact HB.out)) hb); clear aa; clear ae; clear HB; have aa := aw; have ae := ax; have HB := ay; clear aw ax ay; (try clear hb); (try clear hb2); (try clear hk); (try clear hi)))
   go_meet
   case rel => exact ⟨_,(true),(by first | rfl | (simp; done) | (simp [*]; done)),H',⟨by first | omega | exact Nat.le_refl _⟩,⟨by (with_reducible repeat (first | refine zj ?_ _ | refine zl ?_ | refine zk ?_ _)); exact aa.out⟩,⟨by (with_reducible repeat (first | refine zj ?_ _ | refine zl ?_ | refine zk ?_ _)); exact ae.out⟩,⟨by repeat (first | (with_reducible first | exact HB.out | apply Zq | apply Zp | apply Zo | refine Zn ?_ av.out | refine Zn ?_ az.out) | exact HB.out)⟩⟩
 case rest =>
  clear dq
  try clear c1
  try clear c2
  try clear p2
  try clear c6
  try clear c8
  try clear c9
  try clear ec
  try clear ed
  try clear bg
  try clear bh
  try clear bi
  try clear bj
  try clear bk
  try clear bl
  try clear bm
  try clear bn
  try clear bo
  try clear bA
  try clear bB
  try clear bC
  try clear bD
  try clear bE
  try clear bF
  try clear bG
  try clear bH
  try clear bI
  try clear bS
  try clear bT
  try clear bU
  try clear bV
  try clear bW
  try clear bX
  try clear bY
  try clear bZ
  try clear ca
  try clear ck
  try clear cl
  try clear cm
  try clear cn
  try clear co
  try clear cp
  try clear cq
  try clear cr
  try clear ct
  try clear cD
  try clear cE
  try clear cF
  try clear cG
  try clear cH
  try clear cI
  try clear cJ
  try clear cK
  try clear cL
  try clear cV
  try clear cW
  try clear cX
  try clear cY
  try clear cZ
  try clear da
  try clear db
  try clear dc
  try clear dd
  try clear bq
  try clear br
  try clear bs
  try clear bt
  try clear bu
  try clear bv
  try clear bw
  try clear bx
  try clear bz
  try clear bJ
  try clear bK
  try clear bL
  try clear bM
  try clear bN
  try clear bO
  try clear bP
  try clear bQ
  try clear bR
  try clear cb
  try clear cc
  try clear cd
  try clear ce
  try clear cf
  try clear cg
  try clear ch
  try clear ci
  try clear cj
  try clear cu
  try clear cv
  try clear cw
  try clear cx
  try clear cy
  try clear cz
  try clear cA
  try clear cB
  try clear cC
  try clear cM
  try clear cN
  try clear cO
  try clear cP
  try clear cQ
  try clear cR
  try clear cS
  try clear cT
  try clear cU
  try clear de
  try clear df
  try clear dg
  try clear dh
  try clear di
  try clear dj
  try clear dk
  try clear dl
  try clear dm
  obtain ⟨kq,aN,rfl,HA,HJ1,aa,ae,HB⟩ := hcut
  cases kq with
  | zero => exact absurd HA.out (by simp [r16_Whole.j0])
  | succ ee =>
   have H := HA.out
   clear HA
   simp only [r16_Whole.j0] at H
   by_cases aY : aN = true
   ·
    subst aY
    have H1 : (some (0,0,([] : List Int),([] : List Int),(⟨#[]⟩ : ByteArray),150)) = some (r1,r2,r3,r4,r5,r6) := by rw [if_pos rfl] at H; exact H
    clear H
    have H := H1
    clear H1
    simp only [zzg,zzh] at H
    obtain ⟨rfl,rfl,rfl,rfl,rfl,rfl⟩ := H
    have dU := au.out
    have dV := ab.out
    have dB : wc.cell? ⟨ac,0,none⟩ = some (.int .i64 0) := (zi ae.out 0).trans rfl
    have dC : wc.cell? ⟨ac,1,none⟩ = some (.int .i64 0) := (zi ae.out 1).trans rfl
    have dD : wc.cell? ⟨ac,2,none⟩ = some (.slice none 0 0) := (zi ae.out 2).trans rfl
    have dE : wc.cell? ⟨ac,3,none⟩ = some (.slice none 0 0) := (zi ae.out 3).trans rfl
    have dF : wc.cell? ⟨ac,4,none⟩ = some (.string (⟨#[]⟩ : ByteArray)) := (zi ae.out 4).trans rfl
    have dG := zm ae.out 0
    have dH := zm ae.out 1
    have dI := zm ae.out 2
    have dJ := zm ae.out 3
    have dK := zm ae.out 4
    go_wp2
    refine zzf (results_ct rfl _ _ ac 26 #[.int .i64 0,.int .i64 0,.slice none 0 0,.slice none 0 0,.string (⟨#[]⟩ : ByteArray)] (0,0) _ rfl (by (with_reducible repeat (first | refine zj ?_ _ | refine zl ?_ | refine zk ?_ _)); refine zp (cs := #[.int .i64 0,.int .i64 0,.slice none 0 0,.slice none 0 0,.string (⟨#[]⟩ : ByteArray)]) ?_ 4 _ rfl; (with_reducible repeat (first | refine zj ?_ _ | refine zl ?_ | refine zk ?_ _)); refine zp (cs := #[.int .i64 0,.int .i64 0,.slice none 0 0,.slice none 0 0,.string (⟨#[]⟩ : ByteArray)]) ?_ 3 _ rfl; (with_reducible repeat (first | refine zj ?_ _ | refine zl ?_ | refine zk ?_ _)); refine zp (cs := #[.int .i64 0,.int .i64 0,.slice none 0 0,.slice none 0 0,.string (⟨#[]⟩ : ByteArray)]) ?_ 2 _ rfl; (with_reducible repeat (first | refine zj ?_ _ | refine zl ?_ | refine zk ?_ _)); refine zp (cs := #[.int .i64 0,.int .i64 0,.slice none 0 0,.slice none 0 0,.string (⟨#[]⟩ : ByteArray)]) ?_ 1 _ rfl; (with_reducible repeat (first | refine zj ?_ _ | refine zl ?_ | refine zk ?_ _)); refine zp (cs := #[.int .i64 0,.int .i64 0,.slice none 0 0,.slice none 0 0,.string (⟨#[]⟩ : ByteArray)]) ?_ 0 _ rfl; (with_reducible repeat (first | refine zj ?_ _ | refine zl ?_ | refine zk ?_ _)); exact ae.out) Try.underlying26 rfl (by kernel_rfl)) rfl ?_
    exact ⟨_,_,by first | rfl | (simp [zzl,zzm] <;> rfl) | (simp [*,zzl,zzm] <;> rfl),by first | exact Ze _ _ _ _ _ | exact Zf _ _ _ _ _ | exact Zg _ _ _ _ _ | exact Zh _ _ _ _ _ | exact Zi _ _ _ _ _,by first | exact Ze _ _ _ _ _ | exact Zf _ _ _ _ _ | exact Zg _ _ _ _ _ | exact Zh _ _ _ _ _ | exact Zi _ _ _ _ _,by repeat (first | (with_reducible first | exact HB.out | apply Zq | apply Zp | apply Zo | refine Zn ?_ av.out | refine Zn ?_ az.out) | exact HB.out)⟩
   ·
    replace aY := Bool.eq_false_iff.mpr aY
    subst aY
    have H1 : ((r08_OwnCouncil.f ai aj).bind fun aG => (some (af,ag,aG.1,aG.2,ak,0))) = some (r1,r2,r3,r4,r5,r6) := by rw [if_neg (show ¬ (false = true) by decide)] at H; exact H
    clear H
    have H := H1
    clear H1
    replace H := Option.bind_eq_some_iff.mp H
    obtain ⟨⟨aF,aL⟩,dr,H⟩ := H
    replace H : (some (af,ag,aF,aL,ak,0)) = some (r1,r2,r3,r4,r5,r6) := H
    have dN := zzk dr
    clear dr
    simp only [zzg,zzh] at H
    obtain ⟨rfl,rfl,rfl,rfl,rfl,rfl⟩ := H
    try go_wp2
    have aw := zzk (zl aa.out)
    have ax := zzk (zl ae.out)
    have ay := zzk (Zo HB.out)
    clear aa
    clear ae
    clear HB
    have aa := aw
    have ae := ax
    have HB := ay
    clear aw ax ay
    refine start_ (n := 12) (S := fun w' => w'.cell? ⟨ad,0,none⟩ = some (.int .i64 al) ∧ w'.cell? ⟨ad,1,none⟩ = some (.int .i64 am) ∧ w'.cell? ⟨ad,2,none⟩ = some (.int .i64 af) ∧ w'.cell? ⟨ad,3,none⟩ = some (.int .i64 ag) ∧ w'.cell? ⟨ad,4,none⟩ = some (.slice ao ai.length ap) ∧ w'.cell? ⟨ad,5,none⟩ = some (.slice aq aj.length ar) ∧ w'.cell? ⟨ad,6,none⟩ = some (.int .i64 an) ∧ w'.cell? ⟨ad,7,none⟩ = some (.string ak) ∧ w'.cell? ⟨ad,8,none⟩ = some (.bool ah)) (ds := []) #[false,false,false,false,false,false,false,false,false,false,false,false] (by kernel_rfl) rfl rfl ⟨(zi aa.out 0).trans rfl,(zi aa.out 1).trans rfl,(zi aa.out 2).trans rfl,(zi aa.out 3).trans rfl,(zi aa.out 4).trans rfl,(zi aa.out 5).trans rfl,(zi aa.out 6).trans rfl,(zi aa.out 7).trans rfl,(zi aa.out 8).trans rfl⟩ (fun hHeld => ?_); refine with_tabW r16_Whole.tab3 r16_Whole.bits3 (fun HT_ HW_ => ?_)
    generalize wc.drew = ef at aa ae HB hHeld ⊢
    refine pure_ (i := 0) (N := some 16) (v := ?_) (a' := ?_) #[true,false,false,false,false,false,false,false,false,false,false,false] rfl rfl (Zu HT_.out (by kernel_rfl)) (fun _ _ _ h => h) (Or.inl ⟨by rfl,?_⟩) ?_ ?_
    rotate_left
    ·
     intro w'
     go_simp
     with_reducible rfl
    rotate_left
    ·
     simp only [Act.put,za,zb,zc,Zv,Zw]
     rfl
    refine pure_ (i := 2) (N := some 18) (v := ?_) (a' := ?_) #[true,false,true,false,false,false,false,false,false,false,false,false] rfl rfl (Zu HT_.out (by kernel_rfl)) (fun _ _ _ h => h) (Or.inl ⟨by rfl,?_⟩) ?_ ?_
    rotate_left
    ·
     intro w'
     go_simp
     with_reducible rfl
    rotate_left
    ·
     simp only [Act.put,za,zb,zc,Zv,Zw]
     rfl
    refine pure_ (i := 4) (N := some 20) (v := ?_) (a' := ?_) #[true,false,true,false,true,false,false,false,false,false,false,false] rfl rfl (Zu HT_.out (by kernel_rfl)) (fun _ _ _ h => h) (Or.inl ⟨by rfl,?_⟩) ?_ ?_
    rotate_left
    ·
     intro w'
     go_simp
     with_reducible rfl
    rotate_left
    ·
     simp only [Act.put,za,zb,zc,Zv,Zw]
     rfl
    refine pure_ (i := 7) (N := some 23) (v := ?_) (a' := ?_) #[true,false,true,false,true,false,false,true,false,false,false,false] rfl rfl (Zu HT_.out (by kernel_rfl)) (fun _ _ _ h => h) (Or.inl ⟨by rfl,?_⟩) ?_ ?_
    rotate_left
    ·
     intro w'
     go_simp
     with_reducible rfl
    rotate_left
    ·
     simp only [Act.put,za,zb,zc,Zv,Zw]
     rfl
    refine take_ (i := 1) (N := some 17) (v := ?_) (a' := ?_) #[true,true,true,false,true,false,false,true,false,false,false,false] rfl rfl (take_ofW HT_.out HW_.out (by kernel_rfl)) (fun _ _ _ h => h) (Or.inl ⟨by rfl,?_⟩) hHeld ?_ ?_
    rotate_left
    ·
     rintro w' ⟨s0,s1,s2,s3,s4,s5,s6,s7,s8⟩
     go_simp
     with_reducible rfl
    rotate_left
    ·
     simp only [Act.put,za,zb,zc,Zv,Zw]
     rfl
    refine take_ (i := 3) (N := some 19) (v := ?_) (a' := ?_) #[true,true,true,true,true,false,false,true,false,false,false,false] rfl rfl (take_ofW HT_.out HW_.out (by kernel_rfl)) (fun _ _ _ h => h) (Or.inl ⟨by rfl,?_⟩) hHeld ?_ ?_
    rotate_left
    ·
     rintro w' ⟨s0,s1,s2,s3,s4,s5,s6,s7,s8⟩
     go_simp
     with_reducible rfl
    rotate_left
    ·
     simp only [Act.put,za,zb,zc,Zv,Zw]
     rfl
    refine take_ (i := 5) (N := some 21) (v := ?_) (a' := ?_) #[true,true,true,true,true,true,false,true,false,false,false,false] rfl rfl (take_ofW HT_.out HW_.out (by kernel_rfl)) (fun _ _ _ h => h) (Or.inl ⟨by rfl,?_⟩) hHeld ?_ ?_
    rotate_left
    ·
     rintro w' ⟨s0,s1,s2,s3,s4,s5,s6,s7,s8⟩
     go_simp
     with_reducible rfl
    rotate_left
    ·
     simp only [Act.put,za,zb,zc,Zv,Zw]
     rfl
    refine take_ (i := 8) (N := some 24) (v := ?_) (a' := ?_) #[true,true,true,true,true,true,false,true,true,false,false,false] rfl rfl (take_ofW HT_.out HW_.out (by kernel_rfl)) (fun _ _ _ h => h) (Or.inl ⟨by rfl,?_⟩) hHeld ?_ ?_
    rotate_left
    ·
     rintro w' ⟨s0,s1,s2,s3,s4,s5,s6,s7,s8⟩
     go_simp
     with_reducible rfl
    rotate_left
    ·
     simp only [Act.put,za,zb,zc,Zv,Zw]
     rfl
    refine one_ (i := 6) (N := some 22) #[true,true,true,true,true,true,true,true,true,false,false,false] rfl rfl (one_of HT_.out (by kernel_rfl)) (by decide) (fun K hK => ?_)
    refine goes_ Try.func30 (by kernel_rfl) rfl #[.agg #[.slice ao ai.length ap,.slice aq aj.length ar]] (by rfl) rfl rfl (by (try simp only [zd,ze,zf]); first | done | rfl | (simp only [zg,zh]; rfl)) ?_
    with_reducible refine (r08_OwnCouncil.calls _ _ ai _ _ aj aF aL _ ?side1 ?side2 ?side3 ?side4 dN.out).mono ?_
    (case side1 => repeat (first | exact (Zm aB.out HB.out) | (with_reducible refine Zk ?_ _) | (with_reducible refine Zj ?_ _) | (with_reducible refine Zl ?_)))
    (case side2 => exact aC.out)
    (case side3 => repeat (first | exact (Zm aD.out HB.out) | (with_reducible refine Zk ?_ _) | (with_reducible refine Zj ?_ _) | (with_reducible refine Zl ?_)))
    (case side4 => exact aE.out)
    rintro e aT ⟨dY,dZ,rfl,ho0,ho1,hb⟩
    refine ⟨_,rfl,?_⟩
    have aw := zzk (Za ho0 (Zr (by repeat (first | (with_reducible first | exact HB.out | apply Zq | apply Zp | apply Zo | refine Zn ?_ av.out | refine Zn ?_ az.out) | exact HB.out))))
    have ax := zzk (Za ho1 (Zr (by repeat (first | (with_reducible first | exact HB.out | apply Zq | apply Zp | apply Zo | refine Zn ?_ av.out | refine Zn ?_ az.out) | exact HB.out))))
    have ay := zzk (zo (g := ad) (o := .cells #[.int .i64 al,.int .i64 am,.int .i64 af,.int .i64 ag,.slice ao ai.length ap,.slice aq aj.length ar,.int .i64 an,.string ak,.bool ah] 34 (0,0)) (by (with_reducible repeat (first | refine zj ?_ _ | refine zl ?_ | refine zk ?_ _)); exact aa.out) hb)
    have aM := zzk (zo (g := ac) (o := .cells #[.int .i64 0,.int .i64 0,.slice none 0 0,.slice none 0 0,.string (⟨#[]⟩ : ByteArray)] 26 (0,0)) (by (with_reducible repeat (first | refine zj ?_ _ | refine zl ?_ | refine zk ?_ _)); exact ae.out) hb)
    have aS := zzk (Zs (by repeat (first | (with_reducible first | exact HB.out | apply Zq | apply Zp | apply Zo | refine Zn ?_ av.out | refine Zn ?_ az.out) | exact HB.out)) hb)
    clear aa
    clear ae
    clear HB
    have aZ := aw
    have ba := ax
    have aa := ay
    have ae := aM
    have HB := aS
    clear aw ax ay aM aS
    (try clear hb)
    (try clear hb2)
    (try clear hk)
    (try clear hi)
    (try clear ho0)
    (try clear ho1)
    obtain ⟨aQ,aR,eo29⟩ := zz ba.out
    (first | subst eo29 | (injection eo29 with f1_ f2_ f3_; have f4_ := f1_.symm; have f5_ := f3_.symm; clear f1_ f2_ f3_; subst f4_; subst f5_))
    obtain ⟨aO,aP,eo30⟩ := zz aZ.out
    (first | subst eo30 | (injection eo30 with f1_ f2_ f3_; have f4_ := f1_.symm; have f5_ := f3_.symm; clear f1_ f2_ f3_; subst f4_; subst f5_))
    refine hK.out _ _ ⟨(zi aa.out 0).trans rfl,(zi aa.out 1).trans rfl,(zi aa.out 2).trans rfl,(zi aa.out 3).trans rfl,(zi aa.out 4).trans rfl,(zi aa.out 5).trans rfl,(zi aa.out 6).trans rfl,(zi aa.out 7).trans rfl,(zi aa.out 8).trans rfl⟩ (fun hHeld => ?_)
    clear hK K
    refine norm_ (a' := ?_) ?_ ?_
    rotate_left
    ·
     show Act.put _ (some 22) _ = _
     simp only [Act.put,za,zb,zc,Zv,Zw]
     rfl
    refine pure_ (i := 9) (N := some 25) (v := ?_) (a' := ?_) #[true,true,true,true,true,true,true,true,true,true,false,false] rfl rfl (Zu HT_.out (by kernel_rfl)) (fun _ _ _ h => h) (Or.inl ⟨by rfl,?_⟩) ?_ ?_
    rotate_left
    ·
     intro w'
     go_simp
     with_reducible rfl
    rotate_left
    ·
     simp only [Act.put,za,zb,zc,Zv,Zw]
     rfl
    refine one_ (i := 10) (N := none) #[true,true,true,true,true,true,true,true,true,true,true,false] rfl rfl (one_of HT_.out (by kernel_rfl)) (by decide) (fun K hK => ?_)
    have hs31 : aT.cell? ⟨ac,0,none⟩ = some (.int .i64 0) := (zi ae.out 0).trans rfl
    have hfs31 := zm ae.out 0
    have hns31_0 := ab.out
    have hms31_0 := au.out
    have hs32 : aT.cell? ⟨ac,1,none⟩ = some (.int .i64 0) := (zi ae.out 1).trans rfl
    have hfs32 := zm ae.out 1
    have hns32_0 := ab.out
    have hms32_0 := au.out
    have hs33 : aT.cell? ⟨ac,2,none⟩ = some (.slice none 0 0) := (zi ae.out 2).trans rfl
    have hfs33 := zm ae.out 2
    have hns33_0 := ab.out
    have hms33_0 := au.out
    have hs34 : aT.cell? ⟨ac,3,none⟩ = some (.slice none 0 0) := (zi ae.out 3).trans rfl
    have hfs34 := zm ae.out 3
    have hns34_0 := ab.out
    have hms34_0 := au.out
    have hs35 : aT.cell? ⟨ac,4,none⟩ = some (.string (⟨#[]⟩ : ByteArray)) := (zi ae.out 4).trans rfl
    have hfs35 := zm ae.out 4
    have hns35_0 := ab.out
    have hms35_0 := au.out
    refine skip_ (w1 := ?_) (by rfl) rfl ?_ ?_
    rotate_left
    ·
     go_simp
     rfl
    refine hK.out _ _ ⟨((Zx (p := ⟨ac,_,none⟩) ab.out _).trans (((Zx (p := ⟨ac,_,none⟩) ab.out _).trans (((Zx (p := ⟨ac,_,none⟩) ab.out _).trans (((Zx (p := ⟨ac,_,none⟩) ab.out _).trans (((Zx (p := ⟨ac,_,none⟩) ab.out _).trans (hHeld.1)))))))))),((Zx (p := ⟨ac,_,none⟩) ab.out _).trans (((Zx (p := ⟨ac,_,none⟩) ab.out _).trans (((Zx (p := ⟨ac,_,none⟩) ab.out _).trans (((Zx (p := ⟨ac,_,none⟩) ab.out _).trans (((Zx (p := ⟨ac,_,none⟩) ab.out _).trans (hHeld.2.1)))))))))),((Zx (p := ⟨ac,_,none⟩) ab.out _).trans (((Zx (p := ⟨ac,_,none⟩) ab.out _).trans (((Zx (p := ⟨ac,_,none⟩) ab.out _).trans (((Zx (p := ⟨ac,_,none⟩) ab.out _).trans (((Zx (p := ⟨ac,_,none⟩) ab.out _).trans (hHeld.2.2.1)))))))))),((Zx (p := ⟨ac,_,none⟩) ab.out _).trans (((Zx (p := ⟨ac,_,none⟩) ab.out _).trans (((Zx (p := ⟨ac,_,none⟩) ab.out _).trans (((Zx (p := ⟨ac,_,none⟩) ab.out _).trans (((Zx (p := ⟨ac,_,none⟩) ab.out _).trans (hHeld.2.2.2.1)))))))))),((Zx (p := ⟨ac,_,none⟩) ab.out _).trans (((Zx (p := ⟨ac,_,none⟩) ab.out _).trans (((Zx (p := ⟨ac,_,none⟩) ab.out _).trans (((Zx (p := ⟨ac,_,none⟩) ab.out _).trans (((Zx (p := ⟨ac,_,none⟩) ab.out _).trans (hHeld.2.2.2.2.1)))))))))),((Zx (p := ⟨ac,_,none⟩) ab.out _).trans (((Zx (p := ⟨ac,_,none⟩) ab.out _).trans (((Zx (p := ⟨ac,_,none⟩) ab.out _).trans (((Zx (p := ⟨ac,_,none⟩) ab.out _).trans (((Zx (p := ⟨ac,_,none⟩) ab.out _).trans (hHeld.2.2.2.2.2.1)))))))))),((Zx (p := ⟨ac,_,none⟩) ab.out _).trans (((Zx (p := ⟨ac,_,none⟩) ab.out _).trans (((Zx (p := ⟨ac,_,none⟩) ab.out _).trans (((Zx (p := ⟨ac,_,none⟩) ab.out _).trans (((Zx (p := ⟨ac,_,none⟩) ab.out _).trans (hHeld.2.2.2.2.2.2.1)))))))))),((Zx (p := ⟨ac,_,none⟩) ab.out _).trans (((Zx (p := ⟨ac,_,none⟩) ab.out _).trans (((Zx (p := ⟨ac,_,none⟩) ab.out _).trans (((Zx (p := ⟨ac,_,none⟩) ab.out _).trans (((Zx (p := ⟨ac,_,none⟩) ab.out _).trans (hHeld.2.2.2.2.2.2.2.1)))))))))),((Zx (p := ⟨ac,_,none⟩) ab.out _).trans (((Zx (p := ⟨ac,_,none⟩) ab.out _).trans (((Zx (p := ⟨ac,_,none⟩) ab.out _).trans (((Zx (p := ⟨ac,_,none⟩) ab.out _).trans (((Zx (p := ⟨ac,_,none⟩) ab.out _).trans (hHeld.2.2.2.2.2.2.2.2))))))))))⟩ (fun hHeld => ?_)
    clear hK K
    refine pure_ (i := 11) (N := some 3) (v := ?_) (a' := ?_) #[true,true,true,true,true,true,true,true,true,true,true,true] rfl rfl (Zu HT_.out (by kernel_rfl)) (fun _ _ _ h => h) (Or.inl ⟨by rfl,?_⟩) ?_ ?_
    rotate_left
    ·
     intro w'
     go_simp
     with_reducible rfl
    rotate_left
    ·
     simp only [Act.put,za,zb,zc,Zv,Zw]
     rfl
    refine done_ (done_of HT_.out (by kernel_rfl)) ?_
    try go_wp2
    refine zzf (results_ct rfl _ _ ac 26 #[.int .i64 af,.int .i64 ag,.slice aO aF.length aP,.slice aQ aL.length aR,.string ak] (0,0) _ rfl (by (with_reducible repeat (first | refine zj ?_ _ | refine zl ?_ | refine zk ?_ _)); refine zp (cs := #[.int .i64 af,.int .i64 ag,.slice aO aF.length aP,.slice aQ aL.length aR,.string (⟨#[]⟩ : ByteArray)]) ?_ 4 _ rfl; (with_reducible repeat (first | refine zj ?_ _ | refine zl ?_ | refine zk ?_ _)); refine zp (cs := #[.int .i64 af,.int .i64 ag,.slice aO aF.length aP,.slice none 0 0,.string (⟨#[]⟩ : ByteArray)]) ?_ 3 _ rfl; (with_reducible repeat (first | refine zj ?_ _ | refine zl ?_ | refine zk ?_ _)); refine zp (cs := #[.int .i64 af,.int .i64 ag,.slice none 0 0,.slice none 0 0,.string (⟨#[]⟩ : ByteArray)]) ?_ 2 _ rfl; (with_reducible repeat (first | refine zj ?_ _ | refine zl ?_ | refine zk ?_ _)); refine zp (cs := #[.int .i64 af,.int .i64 0,.slice none 0 0,.slice none 0 0,.string (⟨#[]⟩ : ByteArray)]) ?_ 1 _ rfl; (with_reducible repeat (first | refine zj ?_ _ | refine zl ?_ | refine zk ?_ _)); refine zp (cs := #[.int .i64 0,.int .i64 0,.slice none 0 0,.slice none 0 0,.string (⟨#[]⟩ : ByteArray)]) ?_ 0 _ rfl; (with_reducible repeat (first | refine zj ?_ _ | refine zl ?_ | refine zk ?_ _)); exact ae.out) Try.underlying26 rfl (by kernel_rfl)) rfl ?_
    exact ⟨_,_,by first | rfl | (simp [zzl,zzm] <;> rfl) | (simp [*,zzl,zzm] <;> rfl),by (with_reducible repeat (first | apply zu | apply zt | apply zs)); exact zx (zr (p := ⟨ac,4,none⟩) (zr (p := ⟨ac,3,none⟩) (zr (p := ⟨ac,2,none⟩) (zr (p := ⟨ac,1,none⟩) (zr (p := ⟨ac,0,none⟩) (zy aZ.out ae.out (by decide)) (fun _ hk => hk.2) (.int .i64 af)) (fun _ hk => hk.2) (.int .i64 ag)) (fun _ hk => hk.2) (.slice aO aF.length aP)) (fun _ hk => hk.2) (.slice aQ aL.length aR)) (fun _ hk => hk.2) (.string ak)) (fun _ hk => hk.1),by (with_reducible repeat (first | apply zu | apply zt | apply zs)); exact zx (zr (p := ⟨ac,4,none⟩) (zr (p := ⟨ac,3,none⟩) (zr (p := ⟨ac,2,none⟩) (zr (p := ⟨ac,1,none⟩) (zr (p := ⟨ac,0,none⟩) (zy ba.out ae.out (by decide)) (fun _ hk => hk.2) (.int .i64 af)) (fun _ hk => hk.2) (.int .i64 ag)) (fun _ hk => hk.2) (.slice aO aF.length aP)) (fun _ hk => hk.2) (.slice aQ aL.length aR)) (fun _ hk => hk.2) (.string ak)) (fun _ hk => hk.1),by repeat (first | (with_reducible first | exact HB.out | apply Zq | apply Zp | apply Zo | refine Zn ?_ av.out | refine Zn ?_ az.out) | exact HB.out)⟩
end Go.Proofs.Ytpagkmdlmhdenaa.PAll
