-- Written by a program of the session.
import Derived.Test.YtpagkmdlmhdenaaAlAll
import Derived.Test.YtpagkmdlmhdenaaPAllx0
import Derived.Test.YtpagkmdlmhdenaaPAllx18
import Derived.Test.YtpagkmdlmhdenaaPAllx19
import Derived.Test.YtpagkmdlmhdenaaPAllx26
namespace Go.Proofs.Ytpagkmdlmhdenaa.PAll
open Go.RowKit Go.Proofs.YtpagkmdlmhdenaaW.PrintWords Go.Proofs.YtpagkmdlmhdenaaW.PrintLast Go.Proofs.YtpagkmdlmhdenaaW.PrintMore
attribute [local go_sem] max2_int min2_int max_two min_two max_three min_three max_four min_four   -- for this text's walks alone
set_option linter.unusedVariables false
set_option linter.unusedSimpArgs false
/-! ### r16_Right: function 20 -/
def r16_Right.j0 : Nat → Bool → Int → Int → Int → Int → List Int → List Int → Int → ByteArray → Bool → Option (Bool)
 | 0,_,_,_,_,_,_,_,_,_,_ => none
 | k + 1,fY,ex,ey,ez,eA,eB,eC,aF,aG,aH => if fY = true then (some false) else (if (aG.size : Int) < aF then (if aH = true then (some (((aG.size : Int) % 96) == 0)) else (some false)) else (if aH = true then (some (aF == 0)) else (some true)))
def r16_Right.f (k : Nat) (ae : Int) (ah : Int) (ag : Int) (af : Int) (ai : List Int) (aj : List Int) (ac : Int) (ad : ByteArray) (ak : Bool) : Option (Bool) := (r16_Zero.f ae ah ag af ai aj ac ad ak).bind fun aA => (if aA = true then (some true) else ((r16_node.f ae).bind fun aw => (if aw = true then ((r16_number.f ah).bind fun av => (if av = true then ((r16_number.f ag).bind fun au => (if au = true then ((r16_number.f af).bind fun am => (if am = true then (if ac < 0 then (r16_Right.j0 k true ae ah ag af ai aj ac ad ak) else (if ac > 65536 then (r16_Right.j0 k true ae ah ag af ai aj ac ad ak) else (r16_Right.j0 k (decide ((ad.size : Int) > ac)) ae ah ag af ai aj ac ad ak))) else (r16_Right.j0 k true ae ah ag af ai aj ac ad ak))) else (r16_Right.j0 k true ae ah ag af ai aj ac ad ak))) else (r16_Right.j0 k true ae ah ag af ai aj ac ad ak))) else (r16_Right.j0 k true ae ah ag af ai aj ac ad ak))))
set_option maxHeartbeats 8000000 in
set_option maxRecDepth 100000 in
theorem r16_Right.calls (k : Nat) (ae : Int) (ah : Int) (ag : Int) (af : Int) (an : Option Addr) (ao : Nat) (ai : List Int) (ap : Option Addr) (aq : Nat) (aj : List Int) (ac : Int) (ad : ByteArray) (ak : Bool) (r : Bool) (w : World) (aR : Kd.C (Kd.int .i64) w an ai.length ai) (aS : ai.length ≤ ao) (aT : Kd.C (Kd.int .i64) w ap aj.length aj) (aU : aj.length ≤ aq) (h : r16_Right.f k ae ah ag af ai aj ac ad ak = some r) :
 Calls Try.prog 20 #[.agg #[.int .i64 ae,.int .i64 ah,.int .i64 ag,.int .i64 af,.slice an ai.length ao,.slice ap aj.length aq,.int .i64 ac,.string ad,.bool ak]] w fun e w' => e = .returned (.bool r) ∧ Below w.heap.size w w' := by
 have hu34 := Try.underlying34
 have aV := zzk aR
 have aW := zzk aS
 clear aR aS
 have aX := zzk aT
 have aY := zzk aU
 clear aT aU
 have HB := zzk (Below.refl w.heap.size w)
 have H : ((r16_Zero.f ae ah ag af ai aj ac ad ak).bind fun aA => (if aA = true then (some true) else ((r16_node.f ae).bind fun aw => (if aw = true then ((r16_number.f ah).bind fun av => (if av = true then ((r16_number.f ag).bind fun au => (if au = true then ((r16_number.f af).bind fun am => (if am = true then (if ac < 0 then (r16_Right.j0 k true ae ah ag af ai aj ac ad ak) else (if ac > 65536 then (r16_Right.j0 k true ae ah ag af ai aj ac ad ak) else (r16_Right.j0 k (decide ((ad.size : Int) > ac)) ae ah ag af ai aj ac ad ak))) else (r16_Right.j0 k true ae ah ag af ai aj ac ad ak))) else (r16_Right.j0 k true ae ah ag af ai aj ac ad ak))) else (r16_Right.j0 k true ae ah ag af ai aj ac ad ak))) else (r16_Right.j0 k true ae ah ag af ai aj ac ad ak))))) = some r := h
 clear h
 replace H := Option.bind_eq_some_iff.mp H
 obtain ⟨aA,ew,H⟩ := H
 replace H : (if aA = true then (some true) else ((r16_node.f ae).bind fun aw => (if aw = true then ((r16_number.f ah).bind fun av => (if av = true then ((r16_number.f ag).bind fun au => (if au = true then ((r16_number.f af).bind fun am => (if am = true then (if ac < 0 then (r16_Right.j0 k true ae ah ag af ai aj ac ad ak) else (if ac > 65536 then (r16_Right.j0 k true ae ah ag af ai aj ac ad ak) else (r16_Right.j0 k (decide ((ad.size : Int) > ac)) ae ah ag af ai aj ac ad ak))) else (r16_Right.j0 k true ae ah ag af ai aj ac ad ak))) else (r16_Right.j0 k true ae ah ag af ai aj ac ad ak))) else (r16_Right.j0 k true ae ah ag af ai aj ac ad ak))) else (r16_Right.j0 k true ae ah ag af ai aj ac ad ak)))) = some r := H
 have A2 := zzk ew
 clear ew
 by_cases c3 : aA = true
 ·
  subst c3
  have H1 : (some true) = some r := by rw [if_pos rfl] at H; exact H
  clear H
  have H := H1
  clear H1
  obtain rfl := zzu H
  go_enter Try.func20,Try.ntmps20
  go_wp2_with (first | ((with_reducible refine Zy (N := 1) rfl ?_); (try (refine Zz (by rfl) ?_; dsimp only)); refine zzc ?hg (N := 1) ?hd (cs := #[.int .i64 ae,.int .i64 ah,.int .i64 ag,.int .i64 af,.slice an ai.length ao,.slice ap aj.length aq,.int .i64 ac,.string ad,.bool ak]) (t := 34) ?hr ?_; (case hd => rfl); (case hg => rfl); (case hr => first | (go_simp; done) | (go_simp; rfl)); intro ab hg w4 hbox hb; have ax := zzk (Zs (by repeat (first | (with_reducible first | exact HB.out | apply Zq | apply Zp | apply Zo) | exact HB.out)) hb); have ay := zzk (hbox); have aK := zzk ((by rw [hg]; exact (Zr (by repeat (first | (with_reducible first | exact HB.out | apply Zq | apply Zp | apply Zo) | exact HB.out))) : w.heap.size ≤ ab)); have aL := zzk ((by rw [hg]; exact (Zr (by repeat (first | (with_reducible first | exact HB.out | apply Zq | apply Zp | apply Zo) | exact HB.out))) : w.heap.size ≤ ab)); clear HB; have HB := ax; have aa := ay; have eu := aK; have ar := aL; clear ax ay aK aL; clear hb hbox hg; have dE : w4.cell? ⟨ab,0,none⟩ = some (.int .i64 ae) := (zi aa.out 0).trans rfl; have dF : w4.cell? ⟨ab,1,none⟩ = some (.int .i64 ah) := (zi aa.out 1).trans rfl; have dG : w4.cell? ⟨ab,2,none⟩ = some (.int .i64 ag) := (zi aa.out 2).trans rfl; have dH : w4.cell? ⟨ab,3,none⟩ = some (.int .i64 af) := (zi aa.out 3).trans rfl; have dI : w4.cell? ⟨ab,4,none⟩ = some (.slice an ai.length ao) := (zi aa.out 4).trans rfl; have dJ : w4.cell? ⟨ab,5,none⟩ = some (.slice ap aj.length aq) := (zi aa.out 5).trans rfl; have dK : w4.cell? ⟨ab,6,none⟩ = some (.int .i64 ac) := (zi aa.out 6).trans rfl; have dL : w4.cell? ⟨ab,7,none⟩ = some (.string ad) := (zi aa.out 7).trans rfl; have dM : w4.cell? ⟨ab,8,none⟩ = some (.bool ak) := (zi aa.out 8).trans rfl; have dN := zm aa.out 0; have dO := zm aa.out 1; have dP := zm aa.out 2; have dQ := zm aa.out 3; have dR := zm aa.out 4; have dS := zm aa.out 5; have dT := zm aa.out 6; have dU := zm aa.out 7; have dV := zm aa.out 8) | ((with_reducible refine zza (f := 37) rfl ?_); refine zzd (some 4) rfl rfl Try.func37 (by kernel_rfl) rfl #[.agg #[.int .i64 ae,.int .i64 ah,.int .i64 ag,.int .i64 af,.slice an ai.length ao,.slice ap aj.length aq,.int .i64 ac,.string ad,.bool ak]] rfl (by (try simp only [zd,ze,zf]); first | done | rfl | (simp only [zg,zh]; rfl)) ?_; (with_reducible refine (r16_Zero.calls ae ah ag af _ _ ai _ _ aj ac ad ak true _ ?side1 ?side2 ?side3 ?side4 A2.out).mono ?_); (case side1 => repeat (first | exact (Zm aV.out HB.out) | (with_reducible refine Zk ?_ _) | (with_reducible refine Zj ?_ _) | (with_reducible refine Zl ?_))); (case side2 => exact aW.out); (case side3 => repeat (first | exact (Zm aX.out HB.out) | (with_reducible refine Zk ?_ _) | (with_reducible refine Zj ?_ _) | (with_reducible refine Zl ?_))); (case side4 => exact aY.out); rintro e w6 ⟨rfl,hb⟩; refine ⟨_,rfl,?_⟩; have ax := zzk (zo (g := ab) (o := .cells #[.int .i64 ae,.int .i64 ah,.int .i64 ag,.int .i64 af,.slice an ai.length ao,.slice ap aj.length aq,.int .i64 ac,.string ad,.bool ak] 34 (0,0)) (by (with_reducible repeat (first | refine zj ?_ _ | refine zl ?_ | refine zk ?_ _)); exact aa.out) hb); have ay := zzk (Zs (by repeat (first | (with_reducible first | exact HB.out | apply Zq | apply Zp | apply Zo | refine Zn ?_ ar.out) | exact HB.out)) hb); clear aa; clear HB; have aa := ax; have HB := ay; clear ax ay; (try clear hb); (try clear hb2); (try clear hk); (try clear hi)))
  go_ret
  exact ⟨by first | rfl | (simp [zzl,zzm] <;> rfl) | (simp [*,zzl,zzm] <;> rfl),by repeat (first | (with_reducible first | exact HB.out | apply Zq | apply Zp | apply Zo | refine Zn ?_ ar.out) | exact HB.out)⟩
 ·
  replace c3 := Bool.eq_false_iff.mpr c3
  subst c3
  have H1 : ((r16_node.f ae).bind fun aw => (if aw = true then ((r16_number.f ah).bind fun av => (if av = true then ((r16_number.f ag).bind fun au => (if au = true then ((r16_number.f af).bind fun am => (if am = true then (if ac < 0 then (r16_Right.j0 k true ae ah ag af ai aj ac ad ak) else (if ac > 65536 then (r16_Right.j0 k true ae ah ag af ai aj ac ad ak) else (r16_Right.j0 k (decide ((ad.size : Int) > ac)) ae ah ag af ai aj ac ad ak))) else (r16_Right.j0 k true ae ah ag af ai aj ac ad ak))) else (r16_Right.j0 k true ae ah ag af ai aj ac ad ak))) else (r16_Right.j0 k true ae ah ag af ai aj ac ad ak))) else (r16_Right.j0 k true ae ah ag af ai aj ac ad ak))) = some r := by rw [if_neg (show ¬ (false = true) by decide)] at H; exact H
  clear H
  have H := H1
  clear H1
  have dW := zzk H
  clear H
  go_enter Try.func20,Try.ntmps20
  go_upto_region 3 with (first | ((with_reducible refine Zy (N := 1) rfl ?_); (try (refine Zz (by rfl) ?_; dsimp only)); refine zzc ?hg (N := 1) ?hd (cs := #[.int .i64 ae,.int .i64 ah,.int .i64 ag,.int .i64 af,.slice an ai.length ao,.slice ap aj.length aq,.int .i64 ac,.string ad,.bool ak]) (t := 34) ?hr ?_; (case hd => rfl); (case hg => rfl); (case hr => first | (go_simp; done) | (go_simp; rfl)); intro ab hg w8 hbox hb; have ax := zzk (Zs (by repeat (first | (with_reducible first | exact HB.out | apply Zq | apply Zp | apply Zo) | exact HB.out)) hb); have ay := zzk (hbox); have aK := zzk ((by rw [hg]; exact (Zr (by repeat (first | (with_reducible first | exact HB.out | apply Zq | apply Zp | apply Zo) | exact HB.out))) : w.heap.size ≤ ab)); have aL := zzk ((by rw [hg]; exact (Zr (by repeat (first | (with_reducible first | exact HB.out | apply Zq | apply Zp | apply Zo) | exact HB.out))) : w.heap.size ≤ ab)); clear HB; have HB := ax; have aa := ay; have eu := aK; have ar := aL; clear ax ay aK aL; clear hb hbox hg; have dX : w8.cell? ⟨ab,0,none⟩ = some (.int .i64 ae) := (zi aa.out 0).trans rfl; have dY : w8.cell? ⟨ab,1,none⟩ = some (.int .i64 ah) := (zi aa.out 1).trans rfl; have dZ : w8.cell? ⟨ab,2,none⟩ = some (.int .i64 ag) := (zi aa.out 2).trans rfl; have ea : w8.cell? ⟨ab,3,none⟩ = some (.int .i64 af) := (zi aa.out 3).trans rfl; have eb : w8.cell? ⟨ab,4,none⟩ = some (.slice an ai.length ao) := (zi aa.out 4).trans rfl; have ec : w8.cell? ⟨ab,5,none⟩ = some (.slice ap aj.length aq) := (zi aa.out 5).trans rfl; have ed : w8.cell? ⟨ab,6,none⟩ = some (.int .i64 ac) := (zi aa.out 6).trans rfl; have ee : w8.cell? ⟨ab,7,none⟩ = some (.string ad) := (zi aa.out 7).trans rfl; have ef : w8.cell? ⟨ab,8,none⟩ = some (.bool ak) := (zi aa.out 8).trans rfl; have eg := zm aa.out 0; have eh := zm aa.out 1; have ei := zm aa.out 2; have ej := zm aa.out 3; have ek := zm aa.out 4; have el := zm aa.out 5; have em := zm aa.out 6; have en := zm aa.out 7; have eo := zm aa.out 8) | ((with_reducible refine zza (f := 37) rfl ?_); refine zzd (some 4) rfl rfl Try.func37 (by kernel_rfl) rfl #[.agg #[.int .i64 ae,.int .i64 ah,.int .i64 ag,.int .i64 af,.slice an ai.length ao,.slice ap aj.length aq,.int .i64 ac,.string ad,.bool ak]] rfl (by (try simp only [zd,ze,zf]); first | done | rfl | (simp only [zg,zh]; rfl)) ?_; (with_reducible refine (r16_Zero.calls ae ah ag af _ _ ai _ _ aj ac ad ak false _ ?side1 ?side2 ?side3 ?side4 A2.out).mono ?_); (case side1 => repeat (first | exact (Zm aV.out HB.out) | (with_reducible refine Zk ?_ _) | (with_reducible refine Zj ?_ _) | (with_reducible refine Zl ?_))); (case side2 => exact aW.out); (case side3 => repeat (first | exact (Zm aX.out HB.out) | (with_reducible refine Zk ?_ _) | (with_reducible refine Zj ?_ _) | (with_reducible refine Zl ?_))); (case side4 => exact aY.out); rintro e al ⟨rfl,hb⟩; refine ⟨_,rfl,?_⟩; have ax := zzk (zo (g := ab) (o := .cells #[.int .i64 ae,.int .i64 ah,.int .i64 ag,.int .i64 af,.slice an ai.length ao,.slice ap aj.length aq,.int .i64 ac,.string ad,.bool ak] 34 (0,0)) (by (with_reducible repeat (first | refine zj ?_ _ | refine zl ?_ | refine zk ?_ _)); exact aa.out) hb); have ay := zzk (Zs (by repeat (first | (with_reducible first | exact HB.out | apply Zq | apply Zp | apply Zo | refine Zn ?_ ar.out) | exact HB.out)) hb); clear aa; clear HB; have aa := ax; have HB := ay; clear ax ay; (try clear hb); (try clear hb2); (try clear hk); (try clear hi)))
  (try simp only [Act.put,za,zb,zc])
  go_cut [44] (fun fZ wc => ∃ (kq : Nat) (aB : Bool),fZ = .bool aB ∧ Aside0 (r16_Right.j0 kq aB ae ah ag af ai aj ac ad ak = some r) ∧ Aside0 (kq ≤ k) ∧ Aside0 (wc.heap[ab]? = some (.cells #[.int .i64 ae,.int .i64 ah,.int .i64 ag,.int .i64 af,(.slice an ai.length ao),(.slice ap aj.length aq),.int .i64 ac,.string ad,.bool ak] 34 (0,0))) ∧ Aside0 (Below w.heap.size w wc))
  case first =>
   have H := dW.out
   clear dW
   replace H := Option.bind_eq_some_iff.mp H
   obtain ⟨aw,ep,H⟩ := H
   replace H : (if aw = true then ((r16_number.f ah).bind fun av => (if av = true then ((r16_number.f ag).bind fun au => (if au = true then ((r16_number.f af).bind fun am => (if am = true then (if ac < 0 then (r16_Right.j0 k true ae ah ag af ai aj ac ad ak) else (if ac > 65536 then (r16_Right.j0 k true ae ah ag af ai aj ac ad ak) else (r16_Right.j0 k (decide ((ad.size : Int) > ac)) ae ah ag af ai aj ac ad ak))) else (r16_Right.j0 k true ae ah ag af ai aj ac ad ak))) else (r16_Right.j0 k true ae ah ag af ai aj ac ad ak))) else (r16_Right.j0 k true ae ah ag af ai aj ac ad ak))) else (r16_Right.j0 k true ae ah ag af ai aj ac ad ak)) = some r := H
   have aC := zzk ep
   clear ep
   by_cases aM : aw = true
   ·
    subst aM
    have H1 : ((r16_number.f ah).bind fun av => (if av = true then ((r16_number.f ag).bind fun au => (if au = true then ((r16_number.f af).bind fun am => (if am = true then (if ac < 0 then (r16_Right.j0 k true ae ah ag af ai aj ac ad ak) else (if ac > 65536 then (r16_Right.j0 k true ae ah ag af ai aj ac ad ak) else (r16_Right.j0 k (decide ((ad.size : Int) > ac)) ae ah ag af ai aj ac ad ak))) else (r16_Right.j0 k true ae ah ag af ai aj ac ad ak))) else (r16_Right.j0 k true ae ah ag af ai aj ac ad ak))) else (r16_Right.j0 k true ae ah ag af ai aj ac ad ak))) = some r := by rw [if_pos rfl] at H; exact H
    clear H
    have H := H1
    clear H1
    replace H := Option.bind_eq_some_iff.mp H
    obtain ⟨av,er,H⟩ := H
    replace H : (if av = true then ((r16_number.f ag).bind fun au => (if au = true then ((r16_number.f af).bind fun am => (if am = true then (if ac < 0 then (r16_Right.j0 k true ae ah ag af ai aj ac ad ak) else (if ac > 65536 then (r16_Right.j0 k true ae ah ag af ai aj ac ad ak) else (r16_Right.j0 k (decide ((ad.size : Int) > ac)) ae ah ag af ai aj ac ad ak))) else (r16_Right.j0 k true ae ah ag af ai aj ac ad ak))) else (r16_Right.j0 k true ae ah ag af ai aj ac ad ak))) else (r16_Right.j0 k true ae ah ag af ai aj ac ad ak)) = some r := H
    have aI := zzk er
    clear er
    by_cases aN : av = true
    ·
     subst aN
     have H1 : ((r16_number.f ag).bind fun au => (if au = true then ((r16_number.f af).bind fun am => (if am = true then (if ac < 0 then (r16_Right.j0 k true ae ah ag af ai aj ac ad ak) else (if ac > 65536 then (r16_Right.j0 k true ae ah ag af ai aj ac ad ak) else (r16_Right.j0 k (decide ((ad.size : Int) > ac)) ae ah ag af ai aj ac ad ak))) else (r16_Right.j0 k true ae ah ag af ai aj ac ad ak))) else (r16_Right.j0 k true ae ah ag af ai aj ac ad ak))) = some r := by rw [if_pos rfl] at H; exact H
     clear H
     have H := H1
     clear H1
     replace H := Option.bind_eq_some_iff.mp H
     obtain ⟨au,es,H⟩ := H
     replace H : (if au = true then ((r16_number.f af).bind fun am => (if am = true then (if ac < 0 then (r16_Right.j0 k true ae ah ag af ai aj ac ad ak) else (if ac > 65536 then (r16_Right.j0 k true ae ah ag af ai aj ac ad ak) else (r16_Right.j0 k (decide ((ad.size : Int) > ac)) ae ah ag af ai aj ac ad ak))) else (r16_Right.j0 k true ae ah ag af ai aj ac ad ak))) else (r16_Right.j0 k true ae ah ag af ai aj ac ad ak)) = some r := H
     have aO := zzk es
     clear es
     by_cases aP : au = true
     ·
      subst aP
      have H1 : ((r16_number.f af).bind fun am => (if am = true then (if ac < 0 then (r16_Right.j0 k true ae ah ag af ai aj ac ad ak) else (if ac > 65536 then (r16_Right.j0 k true ae ah ag af ai aj ac ad ak) else (r16_Right.j0 k (decide ((ad.size : Int) > ac)) ae ah ag af ai aj ac ad ak))) else (r16_Right.j0 k true ae ah ag af ai aj ac ad ak))) = some r := by rw [if_pos rfl] at H; exact H
      clear H
      have H := H1
      clear H1
      replace H := Option.bind_eq_some_iff.mp H
      obtain ⟨am,et,H⟩ := H
      replace H : (if am = true then (if ac < 0 then (r16_Right.j0 k true ae ah ag af ai aj ac ad ak) else (if ac > 65536 then (r16_Right.j0 k true ae ah ag af ai aj ac ad ak) else (r16_Right.j0 k (decide ((ad.size : Int) > ac)) ae ah ag af ai aj ac ad ak))) else (r16_Right.j0 k true ae ah ag af ai aj ac ad ak)) = some r := H
      have aZ := zzk et
      clear et
      by_cases aQ : am = true
      ·
       subst aQ
       have H1 : (if ac < 0 then (r16_Right.j0 k true ae ah ag af ai aj ac ad ak) else (if ac > 65536 then (r16_Right.j0 k true ae ah ag af ai aj ac ad ak) else (r16_Right.j0 k (decide ((ad.size : Int) > ac)) ae ah ag af ai aj ac ad ak))) = some r := by rw [if_pos rfl] at H; exact H
       clear H
       have H := H1
       clear H1
       by_cases aD : ac < 0
       ·
        rw [if_pos aD] at H
        have az : decide (ac < 0) = true := zzn aD
        clear aD
        (first | rw [az] | (simp only [Zv,Zw]; rw [az]) | skip)
        have H' := zzk H
        clear H
        have be : al.cell? ⟨ab,0,none⟩ = some (.int .i64 ae) := (zi aa.out 0).trans rfl
        have bf : al.cell? ⟨ab,1,none⟩ = some (.int .i64 ah) := (zi aa.out 1).trans rfl
        have bg : al.cell? ⟨ab,2,none⟩ = some (.int .i64 ag) := (zi aa.out 2).trans rfl
        have bh : al.cell? ⟨ab,3,none⟩ = some (.int .i64 af) := (zi aa.out 3).trans rfl
        have bi : al.cell? ⟨ab,4,none⟩ = some (.slice an ai.length ao) := (zi aa.out 4).trans rfl
        have bj : al.cell? ⟨ab,5,none⟩ = some (.slice ap aj.length aq) := (zi aa.out 5).trans rfl
        have bk : al.cell? ⟨ab,6,none⟩ = some (.int .i64 ac) := (zi aa.out 6).trans rfl
        have bl : al.cell? ⟨ab,7,none⟩ = some (.string ad) := (zi aa.out 7).trans rfl
        have bm : al.cell? ⟨ab,8,none⟩ = some (.bool ak) := (zi aa.out 8).trans rfl
        have bn := zm aa.out 0
        have bo := zm aa.out 1
        have bq := zm aa.out 2
        have br := zm aa.out 3
        have bs := zm aa.out 4
        have bt := zm aa.out 5
        have bu := zm aa.out 6
        have bv := zm aa.out 7
        have bw := zm aa.out 8
        go_wp2_with (first | ((with_reducible refine zza (f := 32) rfl ?_); refine zzd (some 7) rfl rfl Try.func32 (by kernel_rfl) rfl #[.int .i64 ae] rfl (by (try simp only [zd,ze,zf]); first | done | rfl | (simp only [zg,zh]; rfl)) ?_; (with_reducible refine (r16_node.calls ae true _ aC.out).mono ?_); rintro e w' ⟨rfl,⟨nd,rfl⟩⟩; refine ⟨_,rfl,?_⟩) | (go_at_call 33; (with_reducible refine (r16_number.calls ah true _ aI.out).mono ?_); rintro e w' ⟨rfl,⟨nd,rfl⟩⟩) | (go_at_call 33; (with_reducible refine (r16_number.calls ag true _ aO.out).mono ?_); rintro e w' ⟨rfl,⟨nd,rfl⟩⟩) | (go_at_call 33; (with_reducible refine (r16_number.calls af true _ aZ.out).mono ?_); rintro e w' ⟨rfl,⟨nd,rfl⟩⟩))
        go_meet
        case rel => exact ⟨_,(true),(by first | rfl | (simp; done) | (simp [*]; done)),H',⟨by first | omega | exact Nat.le_refl _⟩,⟨by (with_reducible repeat (first | refine zj ?_ _ | refine zl ?_ | refine zk ?_ _)); exact aa.out⟩,⟨by repeat (first | (with_reducible first | exact HB.out | apply Zq | apply Zp | apply Zo | refine Zn ?_ ar.out) | exact HB.out)⟩⟩
       ·
        rw [if_neg aD] at H
        have az : decide (ac < 0) = false := zzo aD
        clear aD
        (first | rw [az] | (simp only [Zv,Zw]; rw [az]) | skip)
        by_cases aE : ac > 65536
        ·
         rw [if_pos aE] at H
         have ba : decide (65536 < ac) = true := zzn aE
         clear aE
         have H' := zzk H
         clear H
         have bx : al.cell? ⟨ab,0,none⟩ = some (.int .i64 ae) := (zi aa.out 0).trans rfl
         have bz : al.cell? ⟨ab,1,none⟩ = some (.int .i64 ah) := (zi aa.out 1).trans rfl
         have bA : al.cell? ⟨ab,2,none⟩ = some (.int .i64 ag) := (zi aa.out 2).trans rfl
         have bB : al.cell? ⟨ab,3,none⟩ = some (.int .i64 af) := (zi aa.out 3).trans rfl
         have bC : al.cell? ⟨ab,4,none⟩ = some (.slice an ai.length ao) := (zi aa.out 4).trans rfl
         have bD : al.cell? ⟨ab,5,none⟩ = some (.slice ap aj.length aq) := (zi aa.out 5).trans rfl
         have bE : al.cell? ⟨ab,6,none⟩ = some (.int .i64 ac) := (zi aa.out 6).trans rfl
         have bF : al.cell? ⟨ab,7,none⟩ = some (.string ad) := (zi aa.out 7).trans rfl
         have bG : al.cell? ⟨ab,8,none⟩ = some (.bool ak) := (zi aa.out 8).trans rfl
         have bH := zm aa.out 0
         have bI := zm aa.out 1
         have bJ := zm aa.out 2
         have bK := zm aa.out 3
         have bL := zm aa.out 4
         have bM := zm aa.out 5
         have bN := zm aa.out 6
         have bO := zm aa.out 7
         have bP := zm aa.out 8
         go_wp2_with (first | ((with_reducible refine zza (f := 32) rfl ?_); refine zzd (some 7) rfl rfl Try.func32 (by kernel_rfl) rfl #[.int .i64 ae] rfl (by (try simp only [zd,ze,zf]); first | done | rfl | (simp only [zg,zh]; rfl)) ?_; (with_reducible refine (r16_node.calls ae true _ aC.out).mono ?_); rintro e w' ⟨rfl,⟨nd,rfl⟩⟩; refine ⟨_,rfl,?_⟩) | (go_at_call 33; (with_reducible refine (r16_number.calls ah true _ aI.out).mono ?_); rintro e w' ⟨rfl,⟨nd,rfl⟩⟩) | (go_at_call 33; (with_reducible refine (r16_number.calls ag true _ aO.out).mono ?_); rintro e w' ⟨rfl,⟨nd,rfl⟩⟩) | (go_at_call 33; (with_reducible refine (r16_number.calls af true _ aZ.out).mono ?_); rintro e w' ⟨rfl,⟨nd,rfl⟩⟩))
         go_meet
         case rel => exact ⟨_,(true),(by first | rfl | (simp; done) | (simp [*]; done)),H',⟨by first | omega | exact Nat.le_refl _⟩,⟨by (with_reducible repeat (first | refine zj ?_ _ | refine zl ?_ | refine zk ?_ _)); exact aa.out⟩,⟨by repeat (first | (with_reducible first | exact HB.out | apply Zq | apply Zp | apply Zo | refine Zn ?_ ar.out) | exact HB.out)⟩⟩
        ·
         rw [if_neg aE] at H
         have ba : decide (65536 < ac) = false := zzo aE
         clear aE
         have H' := zzk H
         clear H
         have bQ : al.cell? ⟨ab,0,none⟩ = some (.int .i64 ae) := (zi aa.out 0).trans rfl
         have bR : al.cell? ⟨ab,1,none⟩ = some (.int .i64 ah) := (zi aa.out 1).trans rfl
         have bS : al.cell? ⟨ab,2,none⟩ = some (.int .i64 ag) := (zi aa.out 2).trans rfl
         have bT : al.cell? ⟨ab,3,none⟩ = some (.int .i64 af) := (zi aa.out 3).trans rfl
         have bU : al.cell? ⟨ab,4,none⟩ = some (.slice an ai.length ao) := (zi aa.out 4).trans rfl
         have bV : al.cell? ⟨ab,5,none⟩ = some (.slice ap aj.length aq) := (zi aa.out 5).trans rfl
         have bW : al.cell? ⟨ab,6,none⟩ = some (.int .i64 ac) := (zi aa.out 6).trans rfl
         have bX : al.cell? ⟨ab,7,none⟩ = some (.string ad) := (zi aa.out 7).trans rfl
         have bY : al.cell? ⟨ab,8,none⟩ = some (.bool ak) := (zi aa.out 8).trans rfl
         have bZ := zm aa.out 0
         have ca := zm aa.out 1
         have cb := zm aa.out 2
         have cc := zm aa.out 3
         have cd := zm aa.out 4
         have ce := zm aa.out 5
         have cf := zm aa.out 6
         have cg := zm aa.out 7
         have ch := zm aa.out 8
         go_wp2_with (first | ((with_reducible refine zza (f := 32) rfl ?_); refine zzd (some 7) rfl rfl Try.func32 (by kernel_rfl) rfl #[.int .i64 ae] rfl (by (try simp only [zd,ze,zf]); first | done | rfl | (simp only [zg,zh]; rfl)) ?_; (with_reducible refine (r16_node.calls ae true _ aC.out).mono ?_); rintro e w' ⟨rfl,⟨nd,rfl⟩⟩; refine ⟨_,rfl,?_⟩) | (go_at_call 33; (with_reducible refine (r16_number.calls ah true _ aI.out).mono ?_); rintro e w' ⟨rfl,⟨nd,rfl⟩⟩) | (go_at_call 33; (with_reducible refine (r16_number.calls ag true _ aO.out).mono ?_); rintro e w' ⟨rfl,⟨nd,rfl⟩⟩) | (go_at_call 33; (with_reducible refine (r16_number.calls af true _ aZ.out).mono ?_); rintro e w' ⟨rfl,⟨nd,rfl⟩⟩))
         go_meet
         case rel => exact ⟨_,(decide ((ad.size : Int) > ac)),(by first | rfl | (simp; done) | (simp [*]; done)),H',⟨by first | omega | exact Nat.le_refl _⟩,⟨by (with_reducible repeat (first | refine zj ?_ _ | refine zl ?_ | refine zk ?_ _)); exact aa.out⟩,⟨by repeat (first | (with_reducible first | exact HB.out | apply Zq | apply Zp | apply Zo | refine Zn ?_ ar.out) | exact HB.out)⟩⟩
      ·
       replace aQ := Bool.eq_false_iff.mpr aQ
       subst aQ
       have H1 : (r16_Right.j0 k true ae ah ag af ai aj ac ad ak) = some r := by rw [if_neg (show ¬ (false = true) by decide)] at H; exact H
       clear H
       have H := H1
       clear H1
       have H' := zzk H
       clear H
       have ci : al.cell? ⟨ab,0,none⟩ = some (.int .i64 ae) := (zi aa.out 0).trans rfl
       have cj : al.cell? ⟨ab,1,none⟩ = some (.int .i64 ah) := (zi aa.out 1).trans rfl
       have ck : al.cell? ⟨ab,2,none⟩ = some (.int .i64 ag) := (zi aa.out 2).trans rfl
       have cl : al.cell? ⟨ab,3,none⟩ = some (.int .i64 af) := (zi aa.out 3).trans rfl
       have cm : al.cell? ⟨ab,4,none⟩ = some (.slice an ai.length ao) := (zi aa.out 4).trans rfl
       have cn : al.cell? ⟨ab,5,none⟩ = some (.slice ap aj.length aq) := (zi aa.out 5).trans rfl
       have co : al.cell? ⟨ab,6,none⟩ = some (.int .i64 ac) := (zi aa.out 6).trans rfl
       have cp : al.cell? ⟨ab,7,none⟩ = some (.string ad) := (zi aa.out 7).trans rfl
       have cq : al.cell? ⟨ab,8,none⟩ = some (.bool ak) := (zi aa.out 8).trans rfl
       have cr := zm aa.out 0
       have ct := zm aa.out 1
       have cu := zm aa.out 2
       have cv := zm aa.out 3
       have cw := zm aa.out 4
       have cx := zm aa.out 5
       have cy := zm aa.out 6
       have cz := zm aa.out 7
       have cA := zm aa.out 8
       go_wp2_with (first | ((with_reducible refine zza (f := 32) rfl ?_); refine zzd (some 7) rfl rfl Try.func32 (by kernel_rfl) rfl #[.int .i64 ae] rfl (by (try simp only [zd,ze,zf]); first | done | rfl | (simp only [zg,zh]; rfl)) ?_; (with_reducible refine (r16_node.calls ae true _ aC.out).mono ?_); rintro e w' ⟨rfl,⟨nd,rfl⟩⟩; refine ⟨_,rfl,?_⟩) | (go_at_call 33; (with_reducible refine (r16_number.calls ah true _ aI.out).mono ?_); rintro e w' ⟨rfl,⟨nd,rfl⟩⟩) | (go_at_call 33; (with_reducible refine (r16_number.calls ag true _ aO.out).mono ?_); rintro e w' ⟨rfl,⟨nd,rfl⟩⟩) | (go_at_call 33; (with_reducible refine (r16_number.calls af false _ aZ.out).mono ?_); rintro e w' ⟨rfl,⟨nd,rfl⟩⟩))
       go_meet
       case rel => exact ⟨_,(true),(by first | rfl | (simp; done) | (simp [*]; done)),H',⟨by first | omega | exact Nat.le_refl _⟩,⟨by (with_reducible repeat (first | refine zj ?_ _ | refine zl ?_ | refine zk ?_ _)); exact aa.out⟩,⟨by repeat (first | (with_reducible first | exact HB.out | apply Zq | apply Zp | apply Zo | refine Zn ?_ ar.out) | exact HB.out)⟩⟩
     ·
      replace aP := Bool.eq_false_iff.mpr aP
      subst aP
      have H1 : (r16_Right.j0 k true ae ah ag af ai aj ac ad ak) = some r := by rw [if_neg (show ¬ (false = true) by decide)] at H; exact H
      clear H
      have H := H1
      clear H1
      have H' := zzk H
      clear H
      have cB : al.cell? ⟨ab,0,none⟩ = some (.int .i64 ae) := (zi aa.out 0).trans rfl
      have cC : al.cell? ⟨ab,1,none⟩ = some (.int .i64 ah) := (zi aa.out 1).trans rfl
      have cD : al.cell? ⟨ab,2,none⟩ = some (.int .i64 ag) := (zi aa.out 2).trans rfl
      have cE : al.cell? ⟨ab,3,none⟩ = some (.int .i64 af) := (zi aa.out 3).trans rfl
      have cF : al.cell? ⟨ab,4,none⟩ = some (.slice an ai.length ao) := (zi aa.out 4).trans rfl
      have cG : al.cell? ⟨ab,5,none⟩ = some (.slice ap aj.length aq) := (zi aa.out 5).trans rfl
      have cH : al.cell? ⟨ab,6,none⟩ = some (.int .i64 ac) := (zi aa.out 6).trans rfl
      have cI : al.cell? ⟨ab,7,none⟩ = some (.string ad) := (zi aa.out 7).trans rfl
      have cJ : al.cell? ⟨ab,8,none⟩ = some (.bool ak) := (zi aa.out 8).trans rfl
      have cK := zm aa.out 0
      have cL := zm aa.out 1
      have cM := zm aa.out 2
      have cN := zm aa.out 3
      have cO := zm aa.out 4
      have cP := zm aa.out 5
      have cQ := zm aa.out 6
      have cR := zm aa.out 7
      have cS := zm aa.out 8
      go_wp2_with (first | ((with_reducible refine zza (f := 32) rfl ?_); refine zzd (some 7) rfl rfl Try.func32 (by kernel_rfl) rfl #[.int .i64 ae] rfl (by (try simp only [zd,ze,zf]); first | done | rfl | (simp only [zg,zh]; rfl)) ?_; (with_reducible refine (r16_node.calls ae true _ aC.out).mono ?_); rintro e w' ⟨rfl,⟨nd,rfl⟩⟩; refine ⟨_,rfl,?_⟩) | (go_at_call 33; (with_reducible refine (r16_number.calls ah true _ aI.out).mono ?_); rintro e w' ⟨rfl,⟨nd,rfl⟩⟩) | (go_at_call 33; (with_reducible refine (r16_number.calls ag false _ aO.out).mono ?_); rintro e w' ⟨rfl,⟨nd,rfl⟩⟩))
      go_meet
      case rel => exact ⟨_,(true),(by first | rfl | (simp; done) | (simp [*]; done)),H',⟨by first | omega | exact Nat.le_refl _⟩,⟨by (with_reducible repeat (first | refine zj ?_ _ | refine zl ?_ | refine zk ?_ _)); exact aa.out⟩,⟨by repeat (first | (with_reducible first | exact HB.out | apply Zq | apply Zp | apply Zo | refine Zn ?_ ar.out) | exact HB.out)⟩⟩
    ·
     replace aN := Bool.eq_false_iff.mpr aN
     subst aN
     have H1 : (r16_Right.j0 k true ae ah ag af ai aj ac ad ak) = some r := by rw [if_neg (show ¬ (false = true) by decide)] at H; exact H
     clear H
     have H := H1
     clear H1
     have H' := zzk H
     clear H
     have cT : al.cell? ⟨ab,0,none⟩ = some (.int .i64 ae) := (zi aa.out 0).trans rfl
     have cU : al.cell? ⟨ab,1,none⟩ = some (.int .i64 ah) := (zi aa.out 1).trans rfl
     have cV : al.cell? ⟨ab,2,none⟩ = some (.int .i64 ag) := (zi aa.out 2).trans rfl
     have cW : al.cell? ⟨ab,3,none⟩ = some (.int .i64 af) := (zi aa.out 3).trans rfl
     have cX : al.cell? ⟨ab,4,none⟩ = some (.slice an ai.length ao) := (zi aa.out 4).trans rfl
     have cY : al.cell? ⟨ab,5,none⟩ = some (.slice ap aj.length aq) := (zi aa.out 5).trans rfl
     have cZ : al.cell? ⟨ab,6,none⟩ = some (.int .i64 ac) := (zi aa.out 6).trans rfl
     have da : al.cell? ⟨ab,7,none⟩ = some (.string ad) := (zi aa.out 7).trans rfl
     have db : al.cell? ⟨ab,8,none⟩ = some (.bool ak) := (zi aa.out 8).trans rfl
     have dc := zm aa.out 0
     have dd := zm aa.out 1
     have de := zm aa.out 2
     have df := zm aa.out 3
     have dg := zm aa.out 4
     have dh := zm aa.out 5
     have di := zm aa.out 6
     have dj := zm aa.out 7
     have dk := zm aa.out 8
     go_wp2_with (first | ((with_reducible refine zza (f := 32) rfl ?_); refine zzd (some 7) rfl rfl Try.func32 (by kernel_rfl) rfl #[.int .i64 ae] rfl (by (try simp only [zd,ze,zf]); first | done | rfl | (simp only [zg,zh]; rfl)) ?_; (with_reducible refine (r16_node.calls ae true _ aC.out).mono ?_); rintro e w' ⟨rfl,⟨nd,rfl⟩⟩; refine ⟨_,rfl,?_⟩) | (go_at_call 33; (with_reducible refine (r16_number.calls ah false _ aI.out).mono ?_); rintro e w' ⟨rfl,⟨nd,rfl⟩⟩))
     go_meet
     case rel => exact ⟨_,(true),(by first | rfl | (simp; done) | (simp [*]; done)),H',⟨by first | omega | exact Nat.le_refl _⟩,⟨by (with_reducible repeat (first | refine zj ?_ _ | refine zl ?_ | refine zk ?_ _)); exact aa.out⟩,⟨by repeat (first | (with_reducible first | exact HB.out | apply Zq | apply Zp | apply Zo | refine Zn ?_ ar.out) | exact HB.out)⟩⟩
   ·
    replace aM := Bool.eq_false_iff.mpr aM
    subst aM
    have H1 : (r16_Right.j0 k true ae ah ag af ai aj ac ad ak) = some r := by rw [if_neg (show ¬ (false = true) by decide)] at H; exact H
    clear H
    have H := H1
    clear H1
    have H' := zzk H
    clear H
    have dl : al.cell? ⟨ab,0,none⟩ = some (.int .i64 ae) := (zi aa.out 0).trans rfl
    have dm : al.cell? ⟨ab,1,none⟩ = some (.int .i64 ah) := (zi aa.out 1).trans rfl
    have dn : al.cell? ⟨ab,2,none⟩ = some (.int .i64 ag) := (zi aa.out 2).trans rfl
    have dp : al.cell? ⟨ab,3,none⟩ = some (.int .i64 af) := (zi aa.out 3).trans rfl
    have dq : al.cell? ⟨ab,4,none⟩ = some (.slice an ai.length ao) := (zi aa.out 4).trans rfl
    have dr : al.cell? ⟨ab,5,none⟩ = some (.slice ap aj.length aq) := (zi aa.out 5).trans rfl
    have ds : al.cell? ⟨ab,6,none⟩ = some (.int .i64 ac) := (zi aa.out 6).trans rfl
    have dt : al.cell? ⟨ab,7,none⟩ = some (.string ad) := (zi aa.out 7).trans rfl
    have du : al.cell? ⟨ab,8,none⟩ = some (.bool ak) := (zi aa.out 8).trans rfl
    have dv := zm aa.out 0
    have dw := zm aa.out 1
    have dx := zm aa.out 2
    have dy := zm aa.out 3
    have dz := zm aa.out 4
    have dA := zm aa.out 5
    have dB := zm aa.out 6
    have dC := zm aa.out 7
    have dD := zm aa.out 8
    go_wp2_with (first | ((with_reducible refine zza (f := 32) rfl ?_); refine zzd (some 7) rfl rfl Try.func32 (by kernel_rfl) rfl #[.int .i64 ae] rfl (by (try simp only [zd,ze,zf]); first | done | rfl | (simp only [zg,zh]; rfl)) ?_; (with_reducible refine (r16_node.calls ae false _ aC.out).mono ?_); rintro e w' ⟨rfl,⟨nd,rfl⟩⟩; refine ⟨_,rfl,?_⟩))
    go_meet
    case rel => exact ⟨_,(true),(by first | rfl | (simp; done) | (simp [*]; done)),H',⟨by first | omega | exact Nat.le_refl _⟩,⟨by (with_reducible repeat (first | refine zj ?_ _ | refine zl ?_ | refine zk ?_ _)); exact aa.out⟩,⟨by repeat (first | (with_reducible first | exact HB.out | apply Zq | apply Zp | apply Zo | refine Zn ?_ ar.out) | exact HB.out)⟩⟩
  case rest =>
   clear dW
   try clear c1
   try clear c2
   try clear p2
   try clear c3
   try clear aM
   try clear aN
   try clear aP
   try clear aQ
   try clear aD
   try clear az
   try clear ga
   try clear aE
   try clear ba
   try clear be
   try clear bf
   try clear bg
   try clear bh
   try clear bi
   try clear bj
   try clear bk
   try clear bl
   try clear bm
   try clear bx
   try clear bz
   try clear bA
   try clear bB
   try clear bC
   try clear bD
   try clear bE
   try clear bF
   try clear bG
   try clear bQ
   try clear bR
   try clear bS
   try clear bT
   try clear bU
   try clear bV
   try clear bW
   try clear bX
   try clear bY
   try clear ci
   try clear cj
   try clear ck
   try clear cl
   try clear cm
   try clear cn
   try clear co
   try clear cp
   try clear cq
   try clear cB
   try clear cC
   try clear cD
   try clear cE
   try clear cF
   try clear cG
   try clear cH
   try clear cI
   try clear cJ
   try clear cT
   try clear cU
   try clear cV
   try clear cW
   try clear cX
   try clear cY
   try clear cZ
   try clear da
   try clear db
   try clear dl
   try clear dm
   try clear dn
   try clear dp
   try clear dq
   try clear dr
   try clear ds
   try clear dt
   try clear du
   try clear dE
   try clear dF
   try clear dG
   try clear dH
   try clear dI
   try clear dJ
   try clear dK
   try clear dL
   try clear dM
   try clear dX
   try clear dY
   try clear dZ
   try clear ea
   try clear eb
   try clear ec
   try clear ed
   try clear ee
   try clear ef
   try clear bn
   try clear bo
   try clear bq
   try clear br
   try clear bs
   try clear bt
   try clear bu
   try clear bv
   try clear bw
   try clear bH
   try clear bI
   try clear bJ
   try clear bK
   try clear bL
   try clear bM
   try clear bN
   try clear bO
   try clear bP
   try clear bZ
   try clear ca
   try clear cb
   try clear cc
   try clear cd
   try clear ce
   try clear cf
   try clear cg
   try clear ch
   try clear cr
   try clear ct
   try clear cu
   try clear cv
   try clear cw
   try clear cx
   try clear cy
   try clear cz
   try clear cA
   try clear cK
   try clear cL
   try clear cM
   try clear cN
   try clear cO
   try clear cP
   try clear cQ
   try clear cR
   try clear cS
   try clear dc
   try clear dd
   try clear de
   try clear df
   try clear dg
   try clear dh
   try clear di
   try clear dj
   try clear dk
   try clear dv
   try clear dw
   try clear dx
   try clear dy
   try clear dz
   try clear dA
   try clear dB
   try clear dC
   try clear dD
   try clear dN
   try clear dO
   try clear dP
   try clear dQ
   try clear dR
   try clear dS
   try clear dT
   try clear dU
   try clear dV
   try clear eg
   try clear eh
   try clear ei
   try clear ej
   try clear ek
   try clear el
   try clear em
   try clear en
   try clear eo
   obtain ⟨kq,aB,rfl,HA,HJ6,aa,HB⟩ := hcut
   cases kq with
   | zero => exact absurd HA.out (by simp [r16_Right.j0])
   | succ gb =>
    have H := HA.out
    clear HA
    simp only [r16_Right.j0] at H
    by_cases bb : aB = true
    ·
     subst bb
     have H1 : (some false) = some r := by rw [if_pos rfl] at H; exact H
     clear H
     have H := H1
     clear H1
     obtain rfl := zzu H
     go_wp2
     go_ret
     exact ⟨by first | rfl | (simp [zzl,zzm] <;> rfl) | (simp [*,zzl,zzm] <;> rfl),by repeat (first | (with_reducible first | exact HB.out | apply Zq | apply Zp | apply Zo | refine Zn ?_ ar.out) | exact HB.out)⟩
    ·
     replace bb := Bool.eq_false_iff.mpr bb
     subst bb
     have H1 : (if (ad.size : Int) < ac then (if ak = true then (some (((ad.size : Int) % 96) == 0)) else (some false)) else (if ak = true then (some (ac == 0)) else (some true))) = some r := by rw [if_neg (show ¬ (false = true) by decide)] at H; exact H
     clear H
     have H := H1
     clear H1
     by_cases aJ : (ad.size : Int) < ac
     ·
      rw [if_pos aJ] at H
      have ev : decide ((ad.size : Int) < ac) = true := zzn aJ
      clear aJ
      by_cases bc : ak = true
      ·
       subst bc
       have H1 : (some (((ad.size : Int) % 96) == 0)) = some r := by rw [if_pos rfl] at H; exact H
       clear H
       have H := H1
       clear H1
       obtain rfl := zzu H
       have eD : wc.cell? ⟨ab,0,none⟩ = some (.int .i64 ae) := (zi aa.out 0).trans rfl
       have eE : wc.cell? ⟨ab,1,none⟩ = some (.int .i64 ah) := (zi aa.out 1).trans rfl
       have eF : wc.cell? ⟨ab,2,none⟩ = some (.int .i64 ag) := (zi aa.out 2).trans rfl
       have eG : wc.cell? ⟨ab,3,none⟩ = some (.int .i64 af) := (zi aa.out 3).trans rfl
       have eH : wc.cell? ⟨ab,4,none⟩ = some (.slice an ai.length ao) := (zi aa.out 4).trans rfl
       have eI : wc.cell? ⟨ab,5,none⟩ = some (.slice ap aj.length aq) := (zi aa.out 5).trans rfl
       have eJ : wc.cell? ⟨ab,6,none⟩ = some (.int .i64 ac) := (zi aa.out 6).trans rfl
       have eK : wc.cell? ⟨ab,7,none⟩ = some (.string ad) := (zi aa.out 7).trans rfl
       have eL : wc.cell? ⟨ab,8,none⟩ = some (.bool true) := (zi aa.out 8).trans rfl
       have eM := zm aa.out 0
       have eN := zm aa.out 1
       have eO := zm aa.out 2
       have eP := zm aa.out 3
       have eQ := zm aa.out 4
       have eR := zm aa.out 5
       have eS := zm aa.out 6
       have eT := zm aa.out 7
       have eU := zm aa.out 8
       go_wp2
       go_ret
       exact ⟨by first | rfl | (simp [zzl,zzm] <;> rfl) | (simp [*,zzl,zzm] <;> rfl),by repeat (first | (with_reducible first | exact HB.out | apply Zq | apply Zp | apply Zo | refine Zn ?_ ar.out) | exact HB.out)⟩
      ·
       replace bc := Bool.eq_false_iff.mpr bc
       subst bc
       have H1 : (some false) = some r := by rw [if_neg (show ¬ (false = true) by decide)] at H; exact H
       clear H
       have H := H1
       clear H1
       obtain rfl := zzu H
       have eV : wc.cell? ⟨ab,0,none⟩ = some (.int .i64 ae) := (zi aa.out 0).trans rfl
       have eW : wc.cell? ⟨ab,1,none⟩ = some (.int .i64 ah) := (zi aa.out 1).trans rfl
       have eX : wc.cell? ⟨ab,2,none⟩ = some (.int .i64 ag) := (zi aa.out 2).trans rfl
       have eY : wc.cell? ⟨ab,3,none⟩ = some (.int .i64 af) := (zi aa.out 3).trans rfl
       have eZ : wc.cell? ⟨ab,4,none⟩ = some (.slice an ai.length ao) := (zi aa.out 4).trans rfl
       have fa : wc.cell? ⟨ab,5,none⟩ = some (.slice ap aj.length aq) := (zi aa.out 5).trans rfl
       have fb : wc.cell? ⟨ab,6,none⟩ = some (.int .i64 ac) := (zi aa.out 6).trans rfl
       have fc : wc.cell? ⟨ab,7,none⟩ = some (.string ad) := (zi aa.out 7).trans rfl
       have fd : wc.cell? ⟨ab,8,none⟩ = some (.bool false) := (zi aa.out 8).trans rfl
       have fe := zm aa.out 0
       have fg := zm aa.out 1
       have fh := zm aa.out 2
       have fi := zm aa.out 3
       have fj := zm aa.out 4
       have fk := zm aa.out 5
       have fl := zm aa.out 6
       have fm := zm aa.out 7
       have fn := zm aa.out 8
       go_wp2
       go_ret
       exact ⟨by first | rfl | (simp [zzl,zzm] <;> rfl) | (simp [*,zzl,zzm] <;> rfl),by repeat (first | (with_reducible first | exact HB.out | apply Zq | apply Zp | apply Zo | refine Zn ?_ ar.out) | exact HB.out)⟩
     ·
      rw [if_neg aJ] at H
      have ev : decide ((ad.size : Int) < ac) = false := zzo aJ
      clear aJ
      by_cases bd : ak = true
      ·
       subst bd
       have H1 : (some (ac == 0)) = some r := by rw [if_pos rfl] at H; exact H
       clear H
       have H := H1
       clear H1
       obtain rfl := zzu H
       have fo : wc.cell? ⟨ab,0,none⟩ = some (.int .i64 ae) := (zi aa.out 0).trans rfl
       have fp : wc.cell? ⟨ab,1,none⟩ = some (.int .i64 ah) := (zi aa.out 1).trans rfl
       have fq : wc.cell? ⟨ab,2,none⟩ = some (.int .i64 ag) := (zi aa.out 2).trans rfl
       have fr : wc.cell? ⟨ab,3,none⟩ = some (.int .i64 af) := (zi aa.out 3).trans rfl
       have fs : wc.cell? ⟨ab,4,none⟩ = some (.slice an ai.length ao) := (zi aa.out 4).trans rfl
       have ft : wc.cell? ⟨ab,5,none⟩ = some (.slice ap aj.length aq) := (zi aa.out 5).trans rfl
       have fu : wc.cell? ⟨ab,6,none⟩ = some (.int .i64 ac) := (zi aa.out 6).trans rfl
       have fv : wc.cell? ⟨ab,7,none⟩ = some (.string ad) := (zi aa.out 7).trans rfl
       have fw : wc.cell? ⟨ab,8,none⟩ = some (.bool true) := (zi aa.out 8).trans rfl
       have fx := zm aa.out 0
       have fy := zm aa.out 1
       have fz := zm aa.out 2
       have fA := zm aa.out 3
       have fB := zm aa.out 4
       have fC := zm aa.out 5
       have fD := zm aa.out 6
       have fE := zm aa.out 7
       have fF := zm aa.out 8
       go_wp2
       go_ret
       exact ⟨by first | rfl | (simp [zzl,zzm] <;> rfl) | (simp [*,zzl,zzm] <;> rfl),by repeat (first | (with_reducible first | exact HB.out | apply Zq | apply Zp | apply Zo | refine Zn ?_ ar.out) | exact HB.out)⟩
      ·
       replace bd := Bool.eq_false_iff.mpr bd
       subst bd
       have H1 : (some true) = some r := by rw [if_neg (show ¬ (false = true) by decide)] at H; exact H
       clear H
       have H := H1
       clear H1
       obtain rfl := zzu H
       have fG : wc.cell? ⟨ab,0,none⟩ = some (.int .i64 ae) := (zi aa.out 0).trans rfl
       have fH : wc.cell? ⟨ab,1,none⟩ = some (.int .i64 ah) := (zi aa.out 1).trans rfl
       have fI : wc.cell? ⟨ab,2,none⟩ = some (.int .i64 ag) := (zi aa.out 2).trans rfl
       have fJ : wc.cell? ⟨ab,3,none⟩ = some (.int .i64 af) := (zi aa.out 3).trans rfl
       have fK : wc.cell? ⟨ab,4,none⟩ = some (.slice an ai.length ao) := (zi aa.out 4).trans rfl
       have fL : wc.cell? ⟨ab,5,none⟩ = some (.slice ap aj.length aq) := (zi aa.out 5).trans rfl
       have fM : wc.cell? ⟨ab,6,none⟩ = some (.int .i64 ac) := (zi aa.out 6).trans rfl
       have fN : wc.cell? ⟨ab,7,none⟩ = some (.string ad) := (zi aa.out 7).trans rfl
       have fO : wc.cell? ⟨ab,8,none⟩ = some (.bool false) := (zi aa.out 8).trans rfl
       have fP := zm aa.out 0
       have fQ := zm aa.out 1
       have fR := zm aa.out 2
       have fS := zm aa.out 3
       have fT := zm aa.out 4
       have fU := zm aa.out 5
       have fV := zm aa.out 6
       have fW := zm aa.out 7
       have fX := zm aa.out 8
       go_wp2
       go_ret
       exact ⟨by first | rfl | (simp [zzl,zzm] <;> rfl) | (simp [*,zzl,zzm] <;> rfl),by repeat (first | (with_reducible first | exact HB.out | apply Zq | apply Zp | apply Zo | refine Zn ?_ ar.out) | exact HB.out)⟩
end Go.Proofs.Ytpagkmdlmhdenaa.PAll
