-- Written by a program of the session.
import Derived.Test.YtpagkmdlmhdenaaAlAll
import Derived.Test.YtpagkmdlmhdenaaPAllx0
import Derived.Test.YtpagkmdlmhdenaaPAllx13
import Derived.Test.YtpagkmdlmhdenaaPAllx15
import Derived.Test.YtpagkmdlmhdenaaPAllx16
namespace Go.Proofs.Ytpagkmdlmhdenaa.PAll
open Go.RowKit Go.Proofs.YtpagkmdlmhdenaaW.PrintWords Go.Proofs.YtpagkmdlmhdenaaW.PrintLast Go.Proofs.YtpagkmdlmhdenaaW.PrintMore
attribute [local go_sem] max2_int min2_int max_two min_two max_three min_three max_four min_four   -- for this text's walks alone
set_option linter.unusedVariables false
set_option linter.unusedSimpArgs false
/-! ### chunk_Whole: function 24 -/
def chunk_Whole.j0 : Nat → Bool → Int → Int → Int → Int → List Int → List Int → Int → ByteArray → Bool → Option (Int × Int × List Int × List Int × ByteArray × Int)
 | 0,_,_,_,_,_,_,_,_,_,_ => none
 | k + 1,dN,dz,dA,bc,bd,be,bf,dB,bg,dC => if dN = true then (some (0,0,([] : List Int),([] : List Int),(⟨#[]⟩ : ByteArray),150)) else ((chunk_own.f be bf).bind fun aH => (some (bc,bd,aH.1,aH.2,bg,0)))
def chunk_Whole.f (k : Nat) (al : Int) (am : Int) (af : Int) (ag : Int) (ah : List Int) (ai : List Int) (an : Int) (ak : ByteArray) (aj : Bool) : Option (Int × Int × List Int × List Int × ByteArray × Int) := (chunk_Check.f k al am af ag ah ai an ak aj).bind fun aA => (if aA = 0 then ((chunk_none.f al am af ag ah ai an ak aj).bind fun aB => (if aB = true then (chunk_Whole.j0 k true al am af ag ah ai an ak aj) else (chunk_Whole.j0 k aj al am af ag ah ai an ak aj))) else (chunk_Whole.j0 k true al am af ag ah ai an ak aj))
def chunk_Whole.T3 : Bool × List (List Nat × List Nat) := (true,[([],[]),([0],[0]),([],[]),([2],[2]),([],[]),([4],[4]),([5],[5]),([],[]),([7],[7]),([1,3,6,8],[1,3,6,8]),([9,6,0,1,2,3,4,5,6,7,8,9],[9]),([10,0,1,2,3,4,5,6,7,8,9,10],[])])
def chunk_Whole.B3 : List Nat := [0,1,0,4,0,16,48,0,128,511,1023,2047]
theorem chunk_Whole.tab3 : rtab .any (opsOf Try.f24 3) = chunk_Whole.T3 := by kernel_rfl
theorem chunk_Whole.bits3 : waitsOk chunk_Whole.T3.2 chunk_Whole.B3 = true := by kernel_rfl
set_option maxHeartbeats 8000000 in
set_option maxRecDepth 100000 in
theorem chunk_Whole.calls (k : Nat) (al : Int) (am : Int) (af : Int) (ag : Int) (ao : Option Addr) (ap : Nat) (ah : List Int) (aq : Option Addr) (ar : Nat) (ai : List Int) (an : Int) (ak : ByteArray) (aj : Bool) (r1 : Int) (r2 : Int) (r3 : List Int) (r4 : List Int) (r5 : ByteArray) (r6 : Int) (w : World) (aV : Kd.C (Kd.int .i64) w ao ah.length ah) (aW : ah.length ≤ ap) (aX : Kd.C (Kd.int .i64) w aq ai.length ai) (aY : ai.length ≤ ar) (h : chunk_Whole.f k al am af ag ah ai an ak aj = some (r1,r2,r3,r4,r5,r6)) :
 Calls Try.prog 24 #[.agg #[.int .i64 al,.int .i64 am,.int .i64 af,.int .i64 ag,.slice ao ah.length ap,.slice aq ai.length ar,.int .i64 an,.string ak,.bool aj]] w fun e w' => ∃ dp dq : Value,e = .returned (.tuple #[.agg #[.int .i64 r1,.int .i64 r2,dp,dq,.string r5],.int .i64 r6]) ∧ Kd.R (Kd.int .i64) 3 w' w.heap.size (fun k_ => some k_ ≠ (dq : Value).ownBlock) dp r3 ∧ Kd.R (Kd.int .i64) 3 w' w.heap.size (fun k_ => some k_ ≠ (dp : Value).ownBlock) dq r4 ∧ Below w.heap.size w w' := by
 have hu34 := Try.underlying34
 have hu26 := Try.underlying26
 have hu24 := Try.underlying24
 have aC := zzk aV
 have aD := zzk aW
 clear aV aW
 have aE := zzk aX
 have aF := zzk aY
 clear aX aY
 have HB := zzk (Below.refl w.heap.size w)
 have H : ((chunk_Check.f k al am af ag ah ai an ak aj).bind fun aA => (if aA = 0 then ((chunk_none.f al am af ag ah ai an ak aj).bind fun aB => (if aB = true then (chunk_Whole.j0 k true al am af ag ah ai an ak aj) else (chunk_Whole.j0 k aj al am af ag ah ai an ak aj))) else (chunk_Whole.j0 k true al am af ag ah ai an ak aj))) = some (r1,r2,r3,r4,r5,r6) := h
 clear h
 have dr := zzk H
 clear H
 go_enter Try.func24,Try.ntmps24
 go_upto_region 1 with (first | ((with_reducible refine Zy (N := 1) rfl ?_); refine zzc ?hg (N := 1) ?hd (cs := #[.int .i64 al,.int .i64 am,.int .i64 af,.int .i64 ag,.slice ao ah.length ap,.slice aq ai.length ar,.int .i64 an,.string ak,.bool aj]) (t := 34) ?hr ?_; (case hd => rfl); (case hg => rfl); (case hr => first | (go_simp; done) | (go_simp; rfl)); intro ad hg w3 hbox hb; have aw := zzk (Zs (by repeat (first | (with_reducible first | exact HB.out | apply Zq | apply Zp | apply Zo) | exact HB.out)) hb); have ax := zzk (hbox); have ay := zzk ((by rw [hg]; exact (Zr (by repeat (first | (with_reducible first | exact HB.out | apply Zq | apply Zp | apply Zo) | exact HB.out))) : w.heap.size ≤ ad)); have aN := zzk ((by rw [hg]; exact (Zr (by repeat (first | (with_reducible first | exact HB.out | apply Zq | apply Zp | apply Zo) | exact HB.out))) : w.heap.size ≤ ad)); clear HB; have HB := aw; have aa := ax; have dQ := ay; have av := aN; clear aw ax ay aN; clear hb hbox hg) | ((with_reducible refine Zy (N := 2) rfl ?_); refine zzc ?hg (N := 2) ?hd (cs := #[.int .i64 0,.int .i64 0,.slice none 0 0,.slice none 0 0,.string (⟨#[]⟩ : ByteArray)]) (t := 26) ?hr ?_; (case hd => rfl); (case hg => rfl); (case hr => first | (go_simp; done) | (go_simp; rfl)); intro ac hg w4 hbox hb; have aw := zzk (zo (g := ad) (o := .cells #[.int .i64 al,.int .i64 am,.int .i64 af,.int .i64 ag,.slice ao ah.length ap,.slice aq ai.length ar,.int .i64 an,.string ak,.bool aj] 34 (0,0)) (by (with_reducible repeat (first | refine zj ?_ _ | refine zl ?_ | refine zk ?_ _)); exact aa.out) hb); have ax := zzk (Zs (by repeat (first | (with_reducible first | exact HB.out | apply Zq | apply Zp | apply Zo | refine Zn ?_ av.out) | exact HB.out)) hb); have ay := zzk (hbox); have aN := zzk ((by rw [hg]; exact (Zr (by repeat (first | (with_reducible first | exact HB.out | apply Zq | apply Zp | apply Zo | refine Zn ?_ av.out) | exact HB.out))) : w.heap.size ≤ ac)); have aT := zzk ((by rw [hg]; exact (Zr (by repeat (first | (with_reducible first | exact HB.out | apply Zq | apply Zp | apply Zo | refine Zn ?_ av.out) | exact HB.out))) : w.heap.size ≤ ac)); have dv := zzk ((by rw [hg]; exact Nat.ne_of_lt (zq (g := ad) (o := .cells #[.int .i64 al,.int .i64 am,.int .i64 af,.int .i64 ag,.slice ao ah.length ap,.slice aq ai.length ar,.int .i64 an,.string ak,.bool aj] 34 (0,0)) (by (with_reducible repeat (first | refine zj ?_ _ | refine zl ?_ | refine zk ?_ _)); exact aa.out)) : ad ≠ ac)); have dw := zzk ((by rw [hg]; exact Nat.ne_of_gt (zq (g := ad) (o := .cells #[.int .i64 al,.int .i64 am,.int .i64 af,.int .i64 ag,.slice ao ah.length ap,.slice aq ai.length ar,.int .i64 an,.string ak,.bool aj] 34 (0,0)) (by (with_reducible repeat (first | refine zj ?_ _ | refine zl ?_ | refine zk ?_ _)); exact aa.out)) : ac ≠ ad)); clear aa; clear HB; have aa := aw; have HB := ax; have ae := ay; have dR := aN; have az := aT; have ab := dv; have au := dw; clear aw ax ay aN aT dv dw; clear hb hbox hg))
 (try simp only [Act.put,za,zb,zc])
 go_cut [14] (fun dO wc => ∃ (kq : Nat) (aO : Bool),dO = .bool aO ∧ Aside0 (chunk_Whole.j0 kq aO al am af ag ah ai an ak aj = some (r1,r2,r3,r4,r5,r6)) ∧ Aside0 (kq ≤ k) ∧ Aside0 (wc.heap[ad]? = some (.cells #[.int .i64 al,.int .i64 am,.int .i64 af,.int .i64 ag,(.slice ao ah.length ap),(.slice aq ai.length ar),.int .i64 an,.string ak,.bool aj] 34 (0,0))) ∧ Aside0 (wc.heap[ac]? = some (.cells #[.int .i64 0,.int .i64 0,(.slice none 0 0),(.slice none 0 0),.string (⟨#[]⟩ : ByteArray)] 26 (0,0))) ∧ Aside0 (Below w.heap.size w wc))
 case first =>
  have H := dr.out
  clear dr
  replace H := Option.bind_eq_some_iff.mp H
  obtain ⟨aA,dx,H⟩ := H
  replace H : (if aA = 0 then ((chunk_none.f al am af ag ah ai an ak aj).bind fun aB => (if aB = true then (chunk_Whole.j0 k true al am af ag ah ai an ak aj) else (chunk_Whole.j0 k aj al am af ag ah ai an ak aj))) else (chunk_Whole.j0 k true al am af ag ah ai an ak aj)) = some (r1,r2,r3,r4,r5,r6) := H
  have A5 := zzk dx
  clear dx
  by_cases c6 : aA = 0
  ·
   rw [if_pos c6] at H
   have aL : (aA == 0) = true := beq_iff_eq.mpr c6
   have dt : (aA != 0) = false := bne_eq_false_iff_eq.mpr c6
   clear c6
   (first | rw [aL] | (simp only [Zv,Zw]; rw [aL]) | skip)
   replace H := Option.bind_eq_some_iff.mp H
   obtain ⟨aB,dy,H⟩ := H
   replace H : (if aB = true then (chunk_Whole.j0 k true al am af ag ah ai an ak aj) else (chunk_Whole.j0 k aj al am af ag ah ai an ak aj)) = some (r1,r2,r3,r4,r5,r6) := H
   have A7 := zzk dy
   clear dy
   by_cases c8 : aB = true
   ·
    subst c8
    have H1 : (chunk_Whole.j0 k true al am af ag ah ai an ak aj) = some (r1,r2,r3,r4,r5,r6) := by rw [if_pos rfl] at H; exact H
    clear H
    have H := H1
    clear H1
    have H' := zzk H
    clear H
    have dY := ab.out
    have dZ := au.out
    have bh : w4.cell? ⟨ad,0,none⟩ = some (.int .i64 al) := (zi aa.out 0).trans rfl
    have bi : w4.cell? ⟨ad,1,none⟩ = some (.int .i64 am) := (zi aa.out 1).trans rfl
    have bj : w4.cell? ⟨ad,2,none⟩ = some (.int .i64 af) := (zi aa.out 2).trans rfl
    have bk : w4.cell? ⟨ad,3,none⟩ = some (.int .i64 ag) := (zi aa.out 3).trans rfl
    have bl : w4.cell? ⟨ad,4,none⟩ = some (.slice ao ah.length ap) := (zi aa.out 4).trans rfl
    have bm : w4.cell? ⟨ad,5,none⟩ = some (.slice aq ai.length ar) := (zi aa.out 5).trans rfl
    have bn : w4.cell? ⟨ad,6,none⟩ = some (.int .i64 an) := (zi aa.out 6).trans rfl
    have bo : w4.cell? ⟨ad,7,none⟩ = some (.string ak) := (zi aa.out 7).trans rfl
    have bq : w4.cell? ⟨ad,8,none⟩ = some (.bool aj) := (zi aa.out 8).trans rfl
    have br := zm aa.out 0
    have bs := zm aa.out 1
    have bt := zm aa.out 2
    have bu := zm aa.out 3
    have bv := zm aa.out 4
    have bw := zm aa.out 5
    have bx := zm aa.out 6
    have bz := zm aa.out 7
    have bA := zm aa.out 8
    go_wp2_with (first | ((with_reducible refine zza (f := 17) rfl ?_); refine zzd (some 5) rfl rfl Try.func17 (by kernel_rfl) rfl #[.agg #[.int .i64 al,.int .i64 am,.int .i64 af,.int .i64 ag,.slice ao ah.length ap,.slice aq ai.length ar,.int .i64 an,.string ak,.bool aj]] rfl (by (try simp only [zd,ze,zf]); first | done | rfl | (simp only [zg,zh]; rfl)) ?_; (with_reducible refine (chunk_Check.calls k al am af ag _ _ ah _ _ ai an ak aj aA _ ?side1 ?side2 ?side3 ?side4 A5.out).mono ?_); (case side1 => repeat (first | exact (Zm aC.out HB.out) | (with_reducible refine Zk ?_ _) | (with_reducible refine Zj ?_ _) | (with_reducible refine Zl ?_))); (case side2 => exact aD.out); (case side3 => repeat (first | exact (Zm aE.out HB.out) | (with_reducible refine Zk ?_ _) | (with_reducible refine Zj ?_ _) | (with_reducible refine Zl ?_))); (case side4 => exact aF.out); rintro e aI ⟨rfl,hb⟩; refine ⟨_,rfl,?_⟩; have aw := zzk (zo (g := ad) (o := .cells #[.int .i64 al,.int .i64 am,.int .i64 af,.int .i64 ag,.slice ao ah.length ap,.slice aq ai.length ar,.int .i64 an,.string ak,.bool aj] 34 (0,0)) (by (with_reducible repeat (first | refine zj ?_ _ | refine zl ?_ | refine zk ?_ _)); exact aa.out) hb); have ax := zzk (zo (g := ac) (o := .cells #[.int .i64 0,.int .i64 0,.slice none 0 0,.slice none 0 0,.string (⟨#[]⟩ : ByteArray)] 26 (0,0)) (by (with_reducible repeat (first | refine zj ?_ _ | refine zl ?_ | refine zk ?_ _)); exact ae.out) hb); have ay := zzk (Zs (by repeat (first | (with_reducible first | exact HB.out | apply Zq | apply Zp | apply Zo | refine Zn ?_ av.out | refine Zn ?_ az.out) | exact HB.out)) hb); clear aa; clear ae; clear HB; have aa := aw; have ae := ax; have HB := ay; clear aw ax ay; (try clear hb); (try clear hb2); (try clear hk); (try clear hi); have bB : aI.cell? ⟨ad,0,none⟩ = some (.int .i64 al) := (zi aa.out 0).trans rfl; have bC : aI.cell? ⟨ad,1,none⟩ = some (.int .i64 am) := (zi aa.out 1).trans rfl; have bD : aI.cell? ⟨ad,2,none⟩ = some (.int .i64 af) := (zi aa.out 2).trans rfl; have bE : aI.cell? ⟨ad,3,none⟩ = some (.int .i64 ag) := (zi aa.out 3).trans rfl; have bF : aI.cell? ⟨ad,4,none⟩ = some (.slice ao ah.length ap) := (zi aa.out 4).trans rfl; have bG : aI.cell? ⟨ad,5,none⟩ = some (.slice aq ai.length ar) := (zi aa.out 5).trans rfl; have bH : aI.cell? ⟨ad,6,none⟩ = some (.int .i64 an) := (zi aa.out 6).trans rfl; have bI : aI.cell? ⟨ad,7,none⟩ = some (.string ak) := (zi aa.out 7).trans rfl; have bJ : aI.cell? ⟨ad,8,none⟩ = some (.bool aj) := (zi aa.out 8).trans rfl; have bK := zm aa.out 0; have bL := zm aa.out 1; have bM := zm aa.out 2; have bN := zm aa.out 3; have bO := zm aa.out 4; have bP := zm aa.out 5; have bQ := zm aa.out 6; have bR := zm aa.out 7; have bS := zm aa.out 8) | (go_at_call 35; (with_reducible refine (chunk_none.calls al am af ag _ _ ah _ _ ai an ak aj true _ ?side1 ?side2 ?side3 ?side4 A7.out).mono ?_); (case side1 => repeat (first | exact (Zm aC.out HB.out) | (with_reducible refine Zk ?_ _) | (with_reducible refine Zj ?_ _) | (with_reducible refine Zl ?_))); (case side2 => exact aD.out); (case side3 => repeat (first | exact (Zm aE.out HB.out) | (with_reducible refine Zk ?_ _) | (with_reducible refine Zj ?_ _) | (with_reducible refine Zl ?_))); (case side4 => exact aF.out); rintro e ec ⟨rfl,hb⟩; have aw := zzk (zo (g := ad) (o := .cells #[.int .i64 al,.int .i64 am,.int .i64 af,.int .i64 ag,.slice ao ah.length ap,.slice aq ai.length ar,.int .i64 an,.string ak,.bool aj] 34 (0,0)) (by (with_reducible repeat (first | refine zj ?_ _ | refine zl ?_ | refine zk ?_ _)); exact aa.out) hb); have ax := zzk (zo (g := ac) (o := .cells #[.int .i64 0,.int .i64 0,.slice none 0 0,.slice none 0 0,.string (⟨#[]⟩ : ByteArray)] 26 (0,0)) (by (with_reducible repeat (first | refine zj ?_ _ | refine zl ?_ | refine zk ?_ _)); exact ae.out) hb); have ay := zzk (Zs (by repeat (first | (with_reducible first | exact HB.out | apply Zq | apply Zp | apply Zo | refine Zn ?_ av.out | refine Zn ?_ az.out) | exact HB.out)) hb); clear aa; clear ae; clear HB; have aa := aw; have ae := ax; have HB := ay; clear aw ax ay; (try clear hb); (try clear hb2); (try clear hk); (try clear hi)))
    go_meet
    case rel => exact ⟨_,(true),(by first | rfl | (simp; done) | (simp [*]; done)),H',⟨by first | omega | exact Nat.le_refl _⟩,⟨by (with_reducible repeat (first | refine zj ?_ _ | refine zl ?_ | refine zk ?_ _)); exact aa.out⟩,⟨by (with_reducible repeat (first | refine zj ?_ _ | refine zl ?_ | refine zk ?_ _)); exact ae.out⟩,⟨by repeat (first | (with_reducible first | exact HB.out | apply Zq | apply Zp | apply Zo | refine Zn ?_ av.out | refine Zn ?_ az.out) | exact HB.out)⟩⟩
   ·
    replace c8 := Bool.eq_false_iff.mpr c8
    subst c8
    have H1 : (chunk_Whole.j0 k aj al am af ag ah ai an ak aj) = some (r1,r2,r3,r4,r5,r6) := by rw [if_neg (show ¬ (false = true) by decide)] at H; exact H
    clear H
    have H := H1
    clear H1
    have H' := zzk H
    clear H
    have dS := ab.out
    have dT := au.out
    have bT : w4.cell? ⟨ad,0,none⟩ = some (.int .i64 al) := (zi aa.out 0).trans rfl
    have bU : w4.cell? ⟨ad,1,none⟩ = some (.int .i64 am) := (zi aa.out 1).trans rfl
    have bV : w4.cell? ⟨ad,2,none⟩ = some (.int .i64 af) := (zi aa.out 2).trans rfl
    have bW : w4.cell? ⟨ad,3,none⟩ = some (.int .i64 ag) := (zi aa.out 3).trans rfl
    have bX : w4.cell? ⟨ad,4,none⟩ = some (.slice ao ah.length ap) := (zi aa.out 4).trans rfl
    have bY : w4.cell? ⟨ad,5,none⟩ = some (.slice aq ai.length ar) := (zi aa.out 5).trans rfl
    have bZ : w4.cell? ⟨ad,6,none⟩ = some (.int .i64 an) := (zi aa.out 6).trans rfl
    have ca : w4.cell? ⟨ad,7,none⟩ = some (.string ak) := (zi aa.out 7).trans rfl
    have cb : w4.cell? ⟨ad,8,none⟩ = some (.bool aj) := (zi aa.out 8).trans rfl
    have cc := zm aa.out 0
    have cd := zm aa.out 1
    have ce := zm aa.out 2
    have cf := zm aa.out 3
    have cg := zm aa.out 4
    have ch := zm aa.out 5
    have ci := zm aa.out 6
    have cj := zm aa.out 7
    have ck := zm aa.out 8
    go_wp2_with (first | ((with_reducible refine zza (f := 17) rfl ?_); refine zzd (some 5) rfl rfl Try.func17 (by kernel_rfl) rfl #[.agg #[.int .i64 al,.int .i64 am,.int .i64 af,.int .i64 ag,.slice ao ah.length ap,.slice aq ai.length ar,.int .i64 an,.string ak,.bool aj]] rfl (by (try simp only [zd,ze,zf]); first | done | rfl | (simp only [zg,zh]; rfl)) ?_; (with_reducible refine (chunk_Check.calls k al am af ag _ _ ah _ _ ai an ak aj aA _ ?side1 ?side2 ?side3 ?side4 A5.out).mono ?_); (case side1 => repeat (first | exact (Zm aC.out HB.out) | (with_reducible refine Zk ?_ _) | (with_reducible refine Zj ?_ _) | (with_reducible refine Zl ?_))); (case side2 => exact aD.out); (case side3 => repeat (first | exact (Zm aE.out HB.out) | (with_reducible refine Zk ?_ _) | (with_reducible refine Zj ?_ _) | (with_reducible refine Zl ?_))); (case side4 => exact aF.out); rintro e aJ ⟨rfl,hb⟩; refine ⟨_,rfl,?_⟩; have aw := zzk (zo (g := ad) (o := .cells #[.int .i64 al,.int .i64 am,.int .i64 af,.int .i64 ag,.slice ao ah.length ap,.slice aq ai.length ar,.int .i64 an,.string ak,.bool aj] 34 (0,0)) (by (with_reducible repeat (first | refine zj ?_ _ | refine zl ?_ | refine zk ?_ _)); exact aa.out) hb); have ax := zzk (zo (g := ac) (o := .cells #[.int .i64 0,.int .i64 0,.slice none 0 0,.slice none 0 0,.string (⟨#[]⟩ : ByteArray)] 26 (0,0)) (by (with_reducible repeat (first | refine zj ?_ _ | refine zl ?_ | refine zk ?_ _)); exact ae.out) hb); have ay := zzk (Zs (by repeat (first | (with_reducible first | exact HB.out | apply Zq | apply Zp | apply Zo | refine Zn ?_ av.out | refine Zn ?_ az.out) | exact HB.out)) hb); clear aa; clear ae; clear HB; have aa := aw; have ae := ax; have HB := ay; clear aw ax ay; (try clear hb); (try clear hb2); (try clear hk); (try clear hi); have cl : aJ.cell? ⟨ad,0,none⟩ = some (.int .i64 al) := (zi aa.out 0).trans rfl; have cm : aJ.cell? ⟨ad,1,none⟩ = some (.int .i64 am) := (zi aa.out 1).trans rfl; have cn : aJ.cell? ⟨ad,2,none⟩ = some (.int .i64 af) := (zi aa.out 2).trans rfl; have co : aJ.cell? ⟨ad,3,none⟩ = some (.int .i64 ag) := (zi aa.out 3).trans rfl; have cp : aJ.cell? ⟨ad,4,none⟩ = some (.slice ao ah.length ap) := (zi aa.out 4).trans rfl; have cq : aJ.cell? ⟨ad,5,none⟩ = some (.slice aq ai.length ar) := (zi aa.out 5).trans rfl; have cr : aJ.cell? ⟨ad,6,none⟩ = some (.int .i64 an) := (zi aa.out 6).trans rfl; have ct : aJ.cell? ⟨ad,7,none⟩ = some (.string ak) := (zi aa.out 7).trans rfl; have cu : aJ.cell? ⟨ad,8,none⟩ = some (.bool aj) := (zi aa.out 8).trans rfl; have cv := zm aa.out 0; have cw := zm aa.out 1; have cx := zm aa.out 2; have cy := zm aa.out 3; have cz := zm aa.out 4; have cA := zm aa.out 5; have cB := zm aa.out 6; have cC := zm aa.out 7; have cD := zm aa.out 8) | (go_at_call 35; (with_reducible refine (chunk_none.calls al am af ag _ _ ah _ _ ai an ak aj false _ ?side1 ?side2 ?side3 ?side4 A7.out).mono ?_); (case side1 => repeat (first | exact (Zm aC.out HB.out) | (with_reducible refine Zk ?_ _) | (with_reducible refine Zj ?_ _) | (with_reducible refine Zl ?_))); (case side2 => exact aD.out); (case side3 => repeat (first | exact (Zm aE.out HB.out) | (with_reducible refine Zk ?_ _) | (with_reducible refine Zj ?_ _) | (with_reducible refine Zl ?_))); (case side4 => exact aF.out); rintro e aK ⟨rfl,hb⟩; have aw := zzk (zo (g := ad) (o := .cells #[.int .i64 al,.int .i64 am,.int .i64 af,.int .i64 ag,.slice ao ah.length ap,.slice aq ai.length ar,.int .i64 an,.string ak,.bool aj] 34 (0,0)) (by (with_reducible repeat (first | refine zj ?_ _ | refine zl ?_ | refine zk ?_ _)); exact aa.out) hb); have ax := zzk (zo (g := ac) (o := .cells #[.int .i64 0,.int .i64 0,.slice none 0 0,.slice none 0 0,.string (⟨#[]⟩ : ByteArray)] 26 (0,0)) (by (with_reducible repeat (first | refine zj ?_ _ | refine zl ?_ | refine zk ?_ _)); exact ae.out) hb); have ay := zzk (Zs (by repeat (first | (with_reducible first | exact HB.out | apply Zq | apply Zp | apply Zo | refine Zn ?_ av.out | refine Zn ?_ az.out) | exact HB.out)) hb); clear aa; clear ae; clear HB; have aa := aw; have ae := ax; have HB := ay; clear aw ax ay; (try clear hb); (try clear hb2); (try clear hk); (try clear hi); have cE : aK.cell? ⟨ad,0,none⟩ = some (.int .i64 al) := (zi aa.out 0).trans rfl; have cF : aK.cell? ⟨ad,1,none⟩ = some (.int .i64 am) := (zi aa.out 1).trans rfl; have cG : aK.cell? ⟨ad,2,none⟩ = some (.int .i64 af) := (zi aa.out 2).trans rfl; have cH : aK.cell? ⟨ad,3,none⟩ = some (.int .i64 ag) := (zi aa.out 3).trans rfl; have cI : aK.cell? ⟨ad,4,none⟩ = some (.slice ao ah.length ap) := (zi aa.out 4).trans rfl; have cJ : aK.cell? ⟨ad,5,none⟩ = some (.slice aq ai.length ar) := (zi aa.out 5).trans rfl; have cK : aK.cell? ⟨ad,6,none⟩ = some (.int .i64 an) := (zi aa.out 6).trans rfl; have cL : aK.cell? ⟨ad,7,none⟩ = some (.string ak) := (zi aa.out 7).trans rfl; have cM : aK.cell? ⟨ad,8,none⟩ = some (.bool aj) := (zi aa.out 8).trans rfl; have cN := zm aa.out 0; have cO := zm aa.out 1; have cP := zm aa.out 2; have cQ := zm aa.out 3; have cR := zm aa.out 4; have cS := zm aa.out 5; have cT := zm aa.out 6; have cU := zm aa.out 7; have cV := zm aa.out 8))
    go_meet
    case rel => exact ⟨_,(aj),(by first | rfl | (simp; done) | (simp [*]; done)),H',⟨by first | omega | exact Nat.le_refl _⟩,⟨by (with_reducible repeat (first | refine zj ?_ _ | refine zl ?_ | refine zk ?_ _)); exact aa.out⟩,⟨by (with_reducible repeat (first | refine zj ?_ _ | refine zl ?_ | refine zk ?_ _)); exact ae.out⟩,⟨by repeat (first | (with_reducible first | exact HB.out | apply Zq | apply Zp | apply Zo | refine Zn ?_ av.out | refine Zn ?_ az.out) | exact HB.out)⟩⟩
  ·
   rw [if_neg c6] at H
   have aL : (aA == 0) = false := beq_eq_false_iff_ne.mpr c6
   have dt : (aA != 0) = true := bne_iff_ne.mpr c6
   (first | rw [aL] | (simp only [Zv,Zw]; rw [aL]) | skip)
   have H' := zzk H
   clear H
   have dU := ab.out
   have dV := au.out
   have cW : w4.cell? ⟨ad,0,none⟩ = some (.int .i64 al) := (zi aa.out 0).trans rfl
   have cX : w4.cell? ⟨ad,1,none⟩ = some (.int .i64 am) := (zi aa.out 1).trans rfl
   have cY : w4.cell? ⟨ad,2,none⟩ = some (.int .i64 af) := (zi aa.out 2).trans rfl
   have cZ : w4.cell? ⟨ad,3,none⟩ = some (.int .i64 ag) := (zi aa.out 3).trans rfl
   have da : w4.cell? ⟨ad,4,none⟩ = some (.slice ao ah.length ap) := (zi aa.out 4).trans rfl
   have db : w4.cell? ⟨ad,5,none⟩ = some (.slice aq ai.length ar) := (zi aa.out 5).trans rfl
   have dc : w4.cell? ⟨ad,6,none⟩ = some (.int .i64 an) := (zi aa.out 6).trans rfl
   have dd : w4.cell? ⟨ad,7,none⟩ = some (.string ak) := (zi aa.out 7).trans rfl
   have de : w4.cell? ⟨ad,8,none⟩ = some (.bool aj) := (zi aa.out 8).trans rfl
   have df := zm aa.out 0
   have dg := zm aa.out 1
   have dh := zm aa.out 2
   have di := zm aa.out 3
   have dj := zm aa.out 4
   have dk := zm aa.out 5
   have dl := zm aa.out 6
   have dm := zm aa.out 7
   have dn := zm aa.out 8
   go_wp2_with (first | ((with_reducible refine zza (f := 17) rfl ?_); refine zzd (some 5) rfl rfl Try.func17 (by kernel_rfl) rfl #[.agg #[.int .i64 al,.int .i64 am,.int .i64 af,.int .i64 ag,.slice ao ah.length ap,.slice aq ai.length ar,.int .i64 an,.string ak,.bool aj]] rfl (by (try simp only [zd,ze,zf]); first | done | rfl | (simp only [zg,zh]; rfl)) ?_; (with_reducible refine (chunk_Check.calls k al am af ag _ _ ah _ _ ai an ak aj aA _ ?side1 ?side2 ?side3 ?side4 A5.out).mono ?_); (case side1 => repeat (first | exact (Zm aC.out HB.out) | (with_reducible refine Zk ?_ _) | (with_reducible refine Zj ?_ _) | (with_reducible refine Zl ?_))); (case side2 => exact aD.out); (case side3 => repeat (first | exact (Zm aE.out HB.out) | (with_reducible refine Zk ?_ _) | (with_reducible refine Zj ?_ _) | (with_reducible refine Zl ?_))); (case side4 => exact aF.out); rintro e ed ⟨rfl,hb⟩; refine ⟨_,rfl,?_⟩; have aw := zzk (zo (g := ad) (o := .cells #[.int .i64 al,.int .i64 am,.int .i64 af,.int .i64 ag,.slice ao ah.length ap,.slice aq ai.length ar,.int .i64 an,.string ak,.bool aj] 34 (0,0)) (by (with_reducible repeat (first | refine zj ?_ _ | refine zl ?_ | refine zk ?_ _)); exact aa.out) hb); have ax := zzk (zo (g := ac) (o := .cells #[.int .i64 0,.int .i64 0,.slice none 0 0,.slice none 0 0,.string (⟨#[]⟩ : ByteArray)] 26 (0,0)) (by (with_reducible repeat (first | refine zj ?_ _ | refine zl ?_ | refine zk ?_ _)); exact ae.out) hb); have ay := zzk (Zs (by repeat (first | (with_reducible first | exact HB.out | apply Zq | apply Zp | apply Zo | refine Zn ?_ av.out | refine Zn ?_ az.out) | exact HB.out)) hb); clear aa; clear ae; clear HB; have aa := aw; have ae := ax; have HB := ay; clear aw ax ay; (try clear hb); (try clear hb2); (try clear hk); (try clear hi)))
   go_meet
   case rel => exact ⟨_,(true),(by first | rfl | (simp; done) | (simp [*]; done)),H',⟨by first | omega | exact Nat.le_refl _⟩,⟨by (with_reducible repeat (first | refine zj ?_ _ | refine zl ?_ | refine zk ?_ _)); exact aa.out⟩,⟨by (with_reducible repeat (first | refine zj ?_ _ | refine zl ?_ | refine zk ?_ _)); exact ae.out⟩,⟨by repeat (first | (with_reducible first | exact HB.out | apply Zq | apply Zp | apply Zo | refine Zn ?_ av.out | refine Zn ?_ az.out) | exact HB.out)⟩⟩
 case rest =>
  clear dr
  try clear c1
  try clear c2
  try clear p2
  try clear c6
  try clear aL
  try clear dt
  try clear c8
  try clear c9
  try clear ee
  try clear ef
  try clear eg
  try clear bh
  try clear bi
  try clear bj
  try clear bk
  try clear bl
  try clear bm
  try clear bn
  try clear bo
  try clear bq
  try clear bB
  try clear bC
  try clear bD
  try clear bE
  try clear bF
  try clear bG
  try clear bH
  try clear bI
  try clear bJ
  try clear bT
  try clear bU
  try clear bV
  try clear bW
  try clear bX
  try clear bY
  try clear bZ
  try clear ca
  try clear cb
  try clear cl
  try clear cm
  try clear cn
  try clear co
  try clear cp
  try clear cq
  try clear cr
  try clear ct
  try clear cu
  try clear cE
  try clear cF
  try clear cG
  try clear cH
  try clear cI
  try clear cJ
  try clear cK
  try clear cL
  try clear cM
  try clear cW
  try clear cX
  try clear cY
  try clear cZ
  try clear da
  try clear db
  try clear dc
  try clear dd
  try clear de
  try clear br
  try clear bs
  try clear bt
  try clear bu
  try clear bv
  try clear bw
  try clear bx
  try clear bz
  try clear bA
  try clear bK
  try clear bL
  try clear bM
  try clear bN
  try clear bO
  try clear bP
  try clear bQ
  try clear bR
  try clear bS
  try clear cc
  try clear cd
  try clear ce
  try clear cf
  try clear cg
  try clear ch
  try clear ci
  try clear cj
  try clear ck
  try clear cv
  try clear cw
  try clear cx
  try clear cy
  try clear cz
  try clear cA
  try clear cB
  try clear cC
  try clear cD
  try clear cN
  try clear cO
  try clear cP
  try clear cQ
  try clear cR
  try clear cS
  try clear cT
  try clear cU
  try clear cV
  try clear df
  try clear dg
  try clear dh
  try clear di
  try clear dj
  try clear dk
  try clear dl
  try clear dm
  try clear dn
  obtain ⟨kq,aO,rfl,HA,HJ1,aa,ae,HB⟩ := hcut
  cases kq with
  | zero => exact absurd HA.out (by simp [chunk_Whole.j0])
  | succ eh =>
   have H := HA.out
   clear HA
   simp only [chunk_Whole.j0] at H
   by_cases aZ : aO = true
   ·
    subst aZ
    have H1 : (some (0,0,([] : List Int),([] : List Int),(⟨#[]⟩ : ByteArray),150)) = some (r1,r2,r3,r4,r5,r6) := by rw [if_pos rfl] at H; exact H
    clear H
    have H := H1
    clear H1
    simp only [zzg,zzh] at H
    obtain ⟨rfl,rfl,rfl,rfl,rfl,rfl⟩ := H
    have dW := au.out
    have dX := ab.out
    have dD : wc.cell? ⟨ac,0,none⟩ = some (.int .i64 0) := (zi ae.out 0).trans rfl
    have dE : wc.cell? ⟨ac,1,none⟩ = some (.int .i64 0) := (zi ae.out 1).trans rfl
    have dF : wc.cell? ⟨ac,2,none⟩ = some (.slice none 0 0) := (zi ae.out 2).trans rfl
    have dG : wc.cell? ⟨ac,3,none⟩ = some (.slice none 0 0) := (zi ae.out 3).trans rfl
    have dH : wc.cell? ⟨ac,4,none⟩ = some (.string (⟨#[]⟩ : ByteArray)) := (zi ae.out 4).trans rfl
    have dI := zm ae.out 0
    have dJ := zm ae.out 1
    have dK := zm ae.out 2
    have dL := zm ae.out 3
    have dM := zm ae.out 4
    go_wp2
    refine zzf (results_ct rfl _ _ ac 26 #[.int .i64 0,.int .i64 0,.slice none 0 0,.slice none 0 0,.string (⟨#[]⟩ : ByteArray)] (0,0) _ rfl (by (with_reducible repeat (first | refine zj ?_ _ | refine zl ?_ | refine zk ?_ _)); refine zp (cs := #[.int .i64 0,.int .i64 0,.slice none 0 0,.slice none 0 0,.string (⟨#[]⟩ : ByteArray)]) ?_ 4 _ rfl; (with_reducible repeat (first | refine zj ?_ _ | refine zl ?_ | refine zk ?_ _)); refine zp (cs := #[.int .i64 0,.int .i64 0,.slice none 0 0,.slice none 0 0,.string (⟨#[]⟩ : ByteArray)]) ?_ 3 _ rfl; (with_reducible repeat (first | refine zj ?_ _ | refine zl ?_ | refine zk ?_ _)); refine zp (cs := #[.int .i64 0,.int .i64 0,.slice none 0 0,.slice none 0 0,.string (⟨#[]⟩ : ByteArray)]) ?_ 2 _ rfl; (with_reducible repeat (first | refine zj ?_ _ | refine zl ?_ | refine zk ?_ _)); refine zp (cs := #[.int .i64 0,.int .i64 0,.slice none 0 0,.slice none 0 0,.string (⟨#[]⟩ : ByteArray)]) ?_ 1 _ rfl; (with_reducible repeat (first | refine zj ?_ _ | refine zl ?_ | refine zk ?_ _)); refine zp (cs := #[.int .i64 0,.int .i64 0,.slice none 0 0,.slice none 0 0,.string (⟨#[]⟩ : ByteArray)]) ?_ 0 _ rfl; (with_reducible repeat (first | refine zj ?_ _ | refine zl ?_ | refine zk ?_ _)); exact ae.out) Try.underlying26 rfl (by kernel_rfl)) rfl ?_
    exact ⟨_,_,by first | rfl | (simp [zzl,zzm] <;> rfl) | (simp [*,zzl,zzm] <;> rfl),by first | exact Ze _ _ _ _ _ | exact Zf _ _ _ _ _ | exact Zg _ _ _ _ _ | exact Zh _ _ _ _ _ | exact Zi _ _ _ _ _,by first | exact Ze _ _ _ _ _ | exact Zf _ _ _ _ _ | exact Zg _ _ _ _ _ | exact Zh _ _ _ _ _ | exact Zi _ _ _ _ _,by repeat (first | (with_reducible first | exact HB.out | apply Zq | apply Zp | apply Zo | refine Zn ?_ av.out | refine Zn ?_ az.out) | exact HB.out)⟩
   ·
    replace aZ := Bool.eq_false_iff.mpr aZ
    subst aZ
    have H1 : ((chunk_own.f ah ai).bind fun aH => (some (af,ag,aH.1,aH.2,ak,0))) = some (r1,r2,r3,r4,r5,r6) := by rw [if_neg (show ¬ (false = true) by decide)] at H; exact H
    clear H
    have H := H1
    clear H1
    replace H := Option.bind_eq_some_iff.mp H
    obtain ⟨⟨aG,aM⟩,du,H⟩ := H
    replace H : (some (af,ag,aG,aM,ak,0)) = some (r1,r2,r3,r4,r5,r6) := H
    have dP := zzk du
    clear du
    simp only [zzg,zzh] at H
    obtain ⟨rfl,rfl,rfl,rfl,rfl,rfl⟩ := H
    try go_wp2
    have aw := zzk (zl aa.out)
    have ax := zzk (zl ae.out)
    have ay := zzk (Zo HB.out)
    clear aa
    clear ae
    clear HB
    have aa := aw
    have ae := ax
    have HB := ay
    clear aw ax ay
    refine start_ (n := 12) (S := fun w' => w'.cell? ⟨ad,0,none⟩ = some (.int .i64 al) ∧ w'.cell? ⟨ad,1,none⟩ = some (.int .i64 am) ∧ w'.cell? ⟨ad,2,none⟩ = some (.int .i64 af) ∧ w'.cell? ⟨ad,3,none⟩ = some (.int .i64 ag) ∧ w'.cell? ⟨ad,4,none⟩ = some (.slice ao ah.length ap) ∧ w'.cell? ⟨ad,5,none⟩ = some (.slice aq ai.length ar) ∧ w'.cell? ⟨ad,6,none⟩ = some (.int .i64 an) ∧ w'.cell? ⟨ad,7,none⟩ = some (.string ak) ∧ w'.cell? ⟨ad,8,none⟩ = some (.bool aj)) (ds := []) #[false,false,false,false,false,false,false,false,false,false,false,false] (by kernel_rfl) rfl rfl ⟨(zi aa.out 0).trans rfl,(zi aa.out 1).trans rfl,(zi aa.out 2).trans rfl,(zi aa.out 3).trans rfl,(zi aa.out 4).trans rfl,(zi aa.out 5).trans rfl,(zi aa.out 6).trans rfl,(zi aa.out 7).trans rfl,(zi aa.out 8).trans rfl⟩ (fun hHeld => ?_); refine with_tabW chunk_Whole.tab3 chunk_Whole.bits3 (fun HT_ HW_ => ?_)
    generalize wc.drew = ei at aa ae HB hHeld ⊢
    refine pure_ (i := 0) (N := some 16) (v := ?_) (a' := ?_) #[true,false,false,false,false,false,false,false,false,false,false,false] rfl rfl (Zu HT_.out (by kernel_rfl)) (fun _ _ _ h => h) (Or.inl ⟨by rfl,?_⟩) ?_ ?_
    rotate_left
    ·
     intro w'
     go_simp
     with_reducible rfl
    rotate_left
    ·
     simp only [Act.put,za,zb,zc,Zv,Zw]
     rfl
    refine pure_ (i := 2) (N := some 18) (v := ?_) (a' := ?_) #[true,false,true,false,false,false,false,false,false,false,false,false] rfl rfl (Zu HT_.out (by kernel_rfl)) (fun _ _ _ h => h) (Or.inl ⟨by rfl,?_⟩) ?_ ?_
    rotate_left
    ·
     intro w'
     go_simp
     with_reducible rfl
    rotate_left
    ·
     simp only [Act.put,za,zb,zc,Zv,Zw]
     rfl
    refine pure_ (i := 4) (N := some 20) (v := ?_) (a' := ?_) #[true,false,true,false,true,false,false,false,false,false,false,false] rfl rfl (Zu HT_.out (by kernel_rfl)) (fun _ _ _ h => h) (Or.inl ⟨by rfl,?_⟩) ?_ ?_
    rotate_left
    ·
     intro w'
     go_simp
     with_reducible rfl
    rotate_left
    ·
     simp only [Act.put,za,zb,zc,Zv,Zw]
     rfl
    refine pure_ (i := 7) (N := some 23) (v := ?_) (a' := ?_) #[true,false,true,false,true,false,false,true,false,false,false,false] rfl rfl (Zu HT_.out (by kernel_rfl)) (fun _ _ _ h => h) (Or.inl ⟨by rfl,?_⟩) ?_ ?_
    rotate_left
    ·
     intro w'
     go_simp
     with_reducible rfl
    rotate_left
    ·
     simp only [Act.put,za,zb,zc,Zv,Zw]
     rfl
    refine take_ (i := 1) (N := some 17) (v := ?_) (a' := ?_) #[true,true,true,false,true,false,false,true,false,false,false,false] rfl rfl (take_ofW HT_.out HW_.out (by kernel_rfl)) (fun _ _ _ h => h) (Or.inl ⟨by rfl,?_⟩) hHeld ?_ ?_
    rotate_left
    ·
     rintro w' ⟨s0,s1,s2,s3,s4,s5,s6,s7,s8⟩
     go_simp
     with_reducible rfl
    rotate_left
    ·
     simp only [Act.put,za,zb,zc,Zv,Zw]
     rfl
    refine take_ (i := 3) (N := some 19) (v := ?_) (a' := ?_) #[true,true,true,true,true,false,false,true,false,false,false,false] rfl rfl (take_ofW HT_.out HW_.out (by kernel_rfl)) (fun _ _ _ h => h) (Or.inl ⟨by rfl,?_⟩) hHeld ?_ ?_
    rotate_left
    ·
     rintro w' ⟨s0,s1,s2,s3,s4,s5,s6,s7,s8⟩
     go_simp
     with_reducible rfl
    rotate_left
    ·
     simp only [Act.put,za,zb,zc,Zv,Zw]
     rfl
    refine take_ (i := 5) (N := some 21) (v := ?_) (a' := ?_) #[true,true,true,true,true,true,false,true,false,false,false,false] rfl rfl (take_ofW HT_.out HW_.out (by kernel_rfl)) (fun _ _ _ h => h) (Or.inl ⟨by rfl,?_⟩) hHeld ?_ ?_
    rotate_left
    ·
     rintro w' ⟨s0,s1,s2,s3,s4,s5,s6,s7,s8⟩
     go_simp
     with_reducible rfl
    rotate_left
    ·
     simp only [Act.put,za,zb,zc,Zv,Zw]
     rfl
    refine take_ (i := 8) (N := some 24) (v := ?_) (a' := ?_) #[true,true,true,true,true,true,false,true,true,false,false,false] rfl rfl (take_ofW HT_.out HW_.out (by kernel_rfl)) (fun _ _ _ h => h) (Or.inl ⟨by rfl,?_⟩) hHeld ?_ ?_
    rotate_left
    ·
     rintro w' ⟨s0,s1,s2,s3,s4,s5,s6,s7,s8⟩
     go_simp
     with_reducible rfl
    rotate_left
    ·
     simp only [Act.put,za,zb,zc,Zv,Zw]
     rfl
    refine one_ (i := 6) (N := some 22) #[true,true,true,true,true,true,true,true,true,false,false,false] rfl rfl (one_of HT_.out (by kernel_rfl)) (by decide) (fun K hK => ?_)
    refine goes_ Try.func31 (by kernel_rfl) rfl #[.agg #[.slice ao ah.length ap,.slice aq ai.length ar]] (by rfl) rfl rfl (by (try simp only [zd,ze,zf]); first | done | rfl | (simp only [zg,zh]; rfl)) ?_
    with_reducible refine (chunk_own.calls _ _ ah _ _ ai aG aM _ ?side1 ?side2 ?side3 ?side4 dP.out).mono ?_
    (case side1 => repeat (first | exact (Zm aC.out HB.out) | (with_reducible refine Zk ?_ _) | (with_reducible refine Zj ?_ _) | (with_reducible refine Zl ?_)))
    (case side2 => exact aD.out)
    (case side3 => repeat (first | exact (Zm aE.out HB.out) | (with_reducible refine Zk ?_ _) | (with_reducible refine Zj ?_ _) | (with_reducible refine Zl ?_)))
    (case side4 => exact aF.out)
    rintro e aU ⟨ea,eb,rfl,ho0,ho1,hb⟩
    refine ⟨_,rfl,?_⟩
    have aw := zzk (Za ho0 (Zr (by repeat (first | (with_reducible first | exact HB.out | apply Zq | apply Zp | apply Zo | refine Zn ?_ av.out | refine Zn ?_ az.out) | exact HB.out))))
    have ax := zzk (Za ho1 (Zr (by repeat (first | (with_reducible first | exact HB.out | apply Zq | apply Zp | apply Zo | refine Zn ?_ av.out | refine Zn ?_ az.out) | exact HB.out))))
    have ay := zzk (zo (g := ad) (o := .cells #[.int .i64 al,.int .i64 am,.int .i64 af,.int .i64 ag,.slice ao ah.length ap,.slice aq ai.length ar,.int .i64 an,.string ak,.bool aj] 34 (0,0)) (by (with_reducible repeat (first | refine zj ?_ _ | refine zl ?_ | refine zk ?_ _)); exact aa.out) hb)
    have aN := zzk (zo (g := ac) (o := .cells #[.int .i64 0,.int .i64 0,.slice none 0 0,.slice none 0 0,.string (⟨#[]⟩ : ByteArray)] 26 (0,0)) (by (with_reducible repeat (first | refine zj ?_ _ | refine zl ?_ | refine zk ?_ _)); exact ae.out) hb)
    have aT := zzk (Zs (by repeat (first | (with_reducible first | exact HB.out | apply Zq | apply Zp | apply Zo | refine Zn ?_ av.out | refine Zn ?_ az.out) | exact HB.out)) hb)
    clear aa
    clear ae
    clear HB
    have ba := aw
    have bb := ax
    have aa := ay
    have ae := aN
    have HB := aT
    clear aw ax ay aN aT
    (try clear hb)
    (try clear hb2)
    (try clear hk)
    (try clear hi)
    (try clear ho0)
    (try clear ho1)
    obtain ⟨aR,aS,eo29⟩ := zz bb.out
    (first | subst eo29 | (injection eo29 with f1_ f2_ f3_; have f4_ := f1_.symm; have f5_ := f3_.symm; clear f1_ f2_ f3_; subst f4_; subst f5_))
    obtain ⟨aP,aQ,eo30⟩ := zz ba.out
    (first | subst eo30 | (injection eo30 with f1_ f2_ f3_; have f4_ := f1_.symm; have f5_ := f3_.symm; clear f1_ f2_ f3_; subst f4_; subst f5_))
    refine hK.out _ _ ⟨(zi aa.out 0).trans rfl,(zi aa.out 1).trans rfl,(zi aa.out 2).trans rfl,(zi aa.out 3).trans rfl,(zi aa.out 4).trans rfl,(zi aa.out 5).trans rfl,(zi aa.out 6).trans rfl,(zi aa.out 7).trans rfl,(zi aa.out 8).trans rfl⟩ (fun hHeld => ?_)
    clear hK K
    refine norm_ (a' := ?_) ?_ ?_
    rotate_left
    ·
     show Act.put _ (some 22) _ = _
     simp only [Act.put,za,zb,zc,Zv,Zw]
     rfl
    refine pure_ (i := 9) (N := some 25) (v := ?_) (a' := ?_) #[true,true,true,true,true,true,true,true,true,true,false,false] rfl rfl (Zu HT_.out (by kernel_rfl)) (fun _ _ _ h => h) (Or.inl ⟨by rfl,?_⟩) ?_ ?_
    rotate_left
    ·
     intro w'
     go_simp
     with_reducible rfl
    rotate_left
    ·
     simp only [Act.put,za,zb,zc,Zv,Zw]
     rfl
    refine one_ (i := 10) (N := none) #[true,true,true,true,true,true,true,true,true,true,true,false] rfl rfl (one_of HT_.out (by kernel_rfl)) (by decide) (fun K hK => ?_)
    have hs31 : aU.cell? ⟨ac,0,none⟩ = some (.int .i64 0) := (zi ae.out 0).trans rfl
    have hfs31 := zm ae.out 0
    have hns31_0 := ab.out
    have hms31_0 := au.out
    have hs32 : aU.cell? ⟨ac,1,none⟩ = some (.int .i64 0) := (zi ae.out 1).trans rfl
    have hfs32 := zm ae.out 1
    have hns32_0 := ab.out
    have hms32_0 := au.out
    have hs33 : aU.cell? ⟨ac,2,none⟩ = some (.slice none 0 0) := (zi ae.out 2).trans rfl
    have hfs33 := zm ae.out 2
    have hns33_0 := ab.out
    have hms33_0 := au.out
    have hs34 : aU.cell? ⟨ac,3,none⟩ = some (.slice none 0 0) := (zi ae.out 3).trans rfl
    have hfs34 := zm ae.out 3
    have hns34_0 := ab.out
    have hms34_0 := au.out
    have hs35 : aU.cell? ⟨ac,4,none⟩ = some (.string (⟨#[]⟩ : ByteArray)) := (zi ae.out 4).trans rfl
    have hfs35 := zm ae.out 4
    have hns35_0 := ab.out
    have hms35_0 := au.out
    refine skip_ (w1 := ?_) (by rfl) rfl ?_ ?_
    rotate_left
    ·
     go_simp
     rfl
    refine hK.out _ _ ⟨((Zx (p := ⟨ac,_,none⟩) ab.out _).trans (((Zx (p := ⟨ac,_,none⟩) ab.out _).trans (((Zx (p := ⟨ac,_,none⟩) ab.out _).trans (((Zx (p := ⟨ac,_,none⟩) ab.out _).trans (((Zx (p := ⟨ac,_,none⟩) ab.out _).trans (hHeld.1)))))))))),((Zx (p := ⟨ac,_,none⟩) ab.out _).trans (((Zx (p := ⟨ac,_,none⟩) ab.out _).trans (((Zx (p := ⟨ac,_,none⟩) ab.out _).trans (((Zx (p := ⟨ac,_,none⟩) ab.out _).trans (((Zx (p := ⟨ac,_,none⟩) ab.out _).trans (hHeld.2.1)))))))))),((Zx (p := ⟨ac,_,none⟩) ab.out _).trans (((Zx (p := ⟨ac,_,none⟩) ab.out _).trans (((Zx (p := ⟨ac,_,none⟩) ab.out _).trans (((Zx (p := ⟨ac,_,none⟩) ab.out _).trans (((Zx (p := ⟨ac,_,none⟩) ab.out _).trans (hHeld.2.2.1)))))))))),((Zx (p := ⟨ac,_,none⟩) ab.out _).trans (((Zx (p := ⟨ac,_,none⟩) ab.out _).trans (((Zx (p := ⟨ac,_,none⟩) ab.out _).trans (((Zx (p := ⟨ac,_,none⟩) ab.out _).trans (((Zx (p := ⟨ac,_,none⟩) ab.out _).trans (hHeld.2.2.2.1)))))))))),((Zx (p := ⟨ac,_,none⟩) ab.out _).trans (((Zx (p := ⟨ac,_,none⟩) ab.out _).trans (((Zx (p := ⟨ac,_,none⟩) ab.out _).trans (((Zx (p := ⟨ac,_,none⟩) ab.out _).trans (((Zx (p := ⟨ac,_,none⟩) ab.out _).trans (hHeld.2.2.2.2.1)))))))))),((Zx (p := ⟨ac,_,none⟩) ab.out _).trans (((Zx (p := ⟨ac,_,none⟩) ab.out _).trans (((Zx (p := ⟨ac,_,none⟩) ab.out _).trans (((Zx (p := ⟨ac,_,none⟩) ab.out _).trans (((Zx (p := ⟨ac,_,none⟩) ab.out _).trans (hHeld.2.2.2.2.2.1)))))))))),((Zx (p := ⟨ac,_,none⟩) ab.out _).trans (((Zx (p := ⟨ac,_,none⟩) ab.out _).trans (((Zx (p := ⟨ac,_,none⟩) ab.out _).trans (((Zx (p := ⟨ac,_,none⟩) ab.out _).trans (((Zx (p := ⟨ac,_,none⟩) ab.out _).trans (hHeld.2.2.2.2.2.2.1)))))))))),((Zx (p := ⟨ac,_,none⟩) ab.out _).trans (((Zx (p := ⟨ac,_,none⟩) ab.out _).trans (((Zx (p := ⟨ac,_,none⟩) ab.out _).trans (((Zx (p := ⟨ac,_,none⟩) ab.out _).trans (((Zx (p := ⟨ac,_,none⟩) ab.out _).trans (hHeld.2.2.2.2.2.2.2.1)))))))))),((Zx (p := ⟨ac,_,none⟩) ab.out _).trans (((Zx (p := ⟨ac,_,none⟩) ab.out _).trans (((Zx (p := ⟨ac,_,none⟩) ab.out _).trans (((Zx (p := ⟨ac,_,none⟩) ab.out _).trans (((Zx (p := ⟨ac,_,none⟩) ab.out _).trans (hHeld.2.2.2.2.2.2.2.2))))))))))⟩ (fun hHeld => ?_)
    clear hK K
    refine pure_ (i := 11) (N := some 3) (v := ?_) (a' := ?_) #[true,true,true,true,true,true,true,true,true,true,true,true] rfl rfl (Zu HT_.out (by kernel_rfl)) (fun _ _ _ h => h) (Or.inl ⟨by rfl,?_⟩) ?_ ?_
    rotate_left
    ·
     intro w'
     go_simp
     with_reducible rfl
    rotate_left
    ·
     simp only [Act.put,za,zb,zc,Zv,Zw]
     rfl
    refine done_ (done_of HT_.out (by kernel_rfl)) ?_
    try go_wp2
    refine zzf (results_ct rfl _ _ ac 26 #[.int .i64 af,.int .i64 ag,.slice aP aG.length aQ,.slice aR aM.length aS,.string ak] (0,0) _ rfl (by (with_reducible repeat (first | refine zj ?_ _ | refine zl ?_ | refine zk ?_ _)); refine zp (cs := #[.int .i64 af,.int .i64 ag,.slice aP aG.length aQ,.slice aR aM.length aS,.string (⟨#[]⟩ : ByteArray)]) ?_ 4 _ rfl; (with_reducible repeat (first | refine zj ?_ _ | refine zl ?_ | refine zk ?_ _)); refine zp (cs := #[.int .i64 af,.int .i64 ag,.slice aP aG.length aQ,.slice none 0 0,.string (⟨#[]⟩ : ByteArray)]) ?_ 3 _ rfl; (with_reducible repeat (first | refine zj ?_ _ | refine zl ?_ | refine zk ?_ _)); refine zp (cs := #[.int .i64 af,.int .i64 ag,.slice none 0 0,.slice none 0 0,.string (⟨#[]⟩ : ByteArray)]) ?_ 2 _ rfl; (with_reducible repeat (first | refine zj ?_ _ | refine zl ?_ | refine zk ?_ _)); refine zp (cs := #[.int .i64 af,.int .i64 0,.slice none 0 0,.slice none 0 0,.string (⟨#[]⟩ : ByteArray)]) ?_ 1 _ rfl; (with_reducible repeat (first | refine zj ?_ _ | refine zl ?_ | refine zk ?_ _)); refine zp (cs := #[.int .i64 0,.int .i64 0,.slice none 0 0,.slice none 0 0,.string (⟨#[]⟩ : ByteArray)]) ?_ 0 _ rfl; (with_reducible repeat (first | refine zj ?_ _ | refine zl ?_ | refine zk ?_ _)); exact ae.out) Try.underlying26 rfl (by kernel_rfl)) rfl ?_
    exact ⟨_,_,by first | rfl | (simp [zzl,zzm] <;> rfl) | (simp [*,zzl,zzm] <;> rfl),by (with_reducible repeat (first | apply zu | apply zt | apply zs)); exact zx (zr (p := ⟨ac,4,none⟩) (zr (p := ⟨ac,3,none⟩) (zr (p := ⟨ac,2,none⟩) (zr (p := ⟨ac,1,none⟩) (zr (p := ⟨ac,0,none⟩) (zy ba.out ae.out (by decide)) (fun _ hk => hk.2) (.int .i64 af)) (fun _ hk => hk.2) (.int .i64 ag)) (fun _ hk => hk.2) (.slice aP aG.length aQ)) (fun _ hk => hk.2) (.slice aR aM.length aS)) (fun _ hk => hk.2) (.string ak)) (fun _ hk => hk.1),by (with_reducible repeat (first | apply zu | apply zt | apply zs)); exact zx (zr (p := ⟨ac,4,none⟩) (zr (p := ⟨ac,3,none⟩) (zr (p := ⟨ac,2,none⟩) (zr (p := ⟨ac,1,none⟩) (zr (p := ⟨ac,0,none⟩) (zy bb.out ae.out (by decide)) (fun _ hk => hk.2) (.int .i64 af)) (fun _ hk => hk.2) (.int .i64 ag)) (fun _ hk => hk.2) (.slice aP aG.length aQ)) (fun _ hk => hk.2) (.slice aR aM.length aS)) (fun _ hk => hk.2) (.string ak)) (fun _ hk => hk.1),by repeat (first | (with_reducible first | exact HB.out | apply Zq | apply Zp | apply Zo | refine Zn ?_ av.out | refine Zn ?_ az.out) | exact HB.out)⟩
end Go.Proofs.Ytpagkmdlmhdenaa.PAll
