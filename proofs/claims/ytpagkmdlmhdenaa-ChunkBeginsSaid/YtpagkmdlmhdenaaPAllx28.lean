-- Written by a program of the session.
import Derived.Test.YtpagkmdlmhdenaaAlAll
import Derived.Test.YtpagkmdlmhdenaaPAllx0
import Derived.Test.YtpagkmdlmhdenaaPAllx2
import Derived.Test.YtpagkmdlmhdenaaPAllx3
import Derived.Test.YtpagkmdlmhdenaaPAllx12
import Derived.Test.YtpagkmdlmhdenaaPAllx15
import Derived.Test.YtpagkmdlmhdenaaPAllx17
import Derived.Test.YtpagkmdlmhdenaaPAllx20
import Derived.Test.YtpagkmdlmhdenaaPAllx23
import Derived.Test.YtpagkmdlmhdenaaPAllx24
import Derived.Test.YtpagkmdlmhdenaaPAllx25
import Derived.Test.YtpagkmdlmhdenaaPAllx27
namespace Go.Proofs.Ytpagkmdlmhdenaa.PAll
open Go.RowKit Go.Proofs.YtpagkmdlmhdenaaW.PrintWords Go.Proofs.YtpagkmdlmhdenaaW.PrintLast Go.Proofs.YtpagkmdlmhdenaaW.PrintMore
attribute [local go_sem] max2_int min2_int max_two min_two max_three min_three max_four min_four   -- for this text's walks alone
set_option linter.unusedVariables false
set_option linter.unusedSimpArgs false
/-! ### L_ChunkBegins: function 4 -/
mutual
def L_ChunkBegins.j0 : Nat → Int → Int → Bool → Int → Int → List Int → List Int → ByteArray → Int → Int → Int → Int → List Int → List Int → Int → ByteArray → Bool → Option (Bool)
 | 0,_,_,_,_,_,_,_,_,_,_,_,_,_,_,_,_,_ => none
 | k + 1,x0,x1,mv,cx,cy,cz,cA,cB,cJ,cK,cL,cM,cN,cO,cP,cQ,cR => if mv = true then (some true) else ((r08_OwnSnap.f cx cy cz cA cB).bind fun bO => ((chunk_Begin.f k x0 x1 cx cy cz cA cB).bind fun au => ((r16_Begin.f k x0 x1 bO.1 bO.2.1 bO.2.2.1 bO.2.2.2.1 bO.2.2.2.2).bind fun aD => (if au.2.2.2.2.2.2.2.2.2 = aD.2.2.2.2.2.2.2.2.2 then ((r16_Same.f k au.1 au.2.1 au.2.2.1 au.2.2.2.1 au.2.2.2.2.1 au.2.2.2.2.2.1 au.2.2.2.2.2.2.1 au.2.2.2.2.2.2.2.1 au.2.2.2.2.2.2.2.2.1 aD.1 aD.2.1 aD.2.2.1 aD.2.2.2.1 aD.2.2.2.2.1 aD.2.2.2.2.2.1 aD.2.2.2.2.2.2.1 aD.2.2.2.2.2.2.2.1 aD.2.2.2.2.2.2.2.2.1).bind fun ck => (L_ChunkBegins.l0 k ck 0 cx cy cz cA cB cJ cK cL cM cN cO cP cQ cR bO.1 bO.2.1 bO.2.2.1 bO.2.2.2.1 bO.2.2.2.2 au.1 au.2.1 au.2.2.1 au.2.2.2.1 au.2.2.2.2.1 au.2.2.2.2.2.1 au.2.2.2.2.2.2.1 au.2.2.2.2.2.2.2.1 au.2.2.2.2.2.2.2.2.1)) else (none)))))
def L_ChunkBegins.l0 : Nat → Bool → Int → Int → Int → List Int → List Int → ByteArray → Int → Int → Int → Int → List Int → List Int → Int → ByteArray → Bool → Int → Int → List Int → List Int → ByteArray → Int → Int → Int → Int → List Int → List Int → Int → ByteArray → Bool → Option (Bool)
 | 0,_,_,_,_,_,_,_,_,_,_,_,_,_,_,_,_,_,_,_,_,_,_,_,_,_,_,_,_,_,_ => none
 | k + 1,iV,fh,cx,cy,cz,cA,cB,cJ,cK,cL,cM,cN,cO,cP,cQ,cR,dD,dE,dF,dG,dH,fz,fA,fB,fC,dI,fD,fE,fF,fG => if fh < (dI.length : Int) then (if 0 ≤ fh then (L_ChunkBegins.l0 k iV (wrap64 (fh + 1)) cx cy cz cA cB cJ cK cL cM cN cO cP cQ cR dD dE dF dG dH fz fA fB fC (dI.set (fh : Int).toNat 77) fD fE fF fG) else (none)) else ((chunk_Check.f k cJ cK cL cM cN cO cP cQ cR).bind fun bR => ((L_begins.f k).bind fun dp => (if dp = true then (if iV = true then ((r08_SameSnap.f k cx cy cz cA cB dD dE dF dG dH).bind fun cw => (if cw = true then ((r16_Right.f k cJ cK cL cM cN cO cP cQ cR).bind fun bS => (if bR = 0 then (if bS = true then (some true) else (none)) else (if bS = true then (none) else (some (bR == 150))))) else (none))) else (none)) else (none))))
end
def L_ChunkBegins.f (k : Nat) (a0 : Int) (a1 : Int) (al : Int) (am : Int) (aj : List Int) (ak : List Int) (an : ByteArray) (av : Int) (aw : Int) (ax : Int) (ay : Int) (ap : List Int) (aq : List Int) (az : Int) (ao : ByteArray) (aA : Bool) : Option (Bool) := (L_large.f al am aj ak an).bind fun dq => (if dq = true then (L_ChunkBegins.j0 k a0 a1 true al am aj ak an av aw ax ay ap aq az ao aA) else (if (ao.size : Int) > 262144 then (L_ChunkBegins.j0 k a0 a1 true al am aj ak an av aw ax ay ap aq az ao aA) else ((r08_BigCouncil.f ap aq).bind fun cC => (L_ChunkBegins.j0 k a0 a1 cC al am aj ak an av aw ax ay ap aq az ao aA))))
set_option maxHeartbeats 8000000 in
set_option maxRecDepth 100000 in
theorem L_ChunkBegins.calls (k : Nat) (a0 : Int) (a1 : Int) (al : Int) (am : Int) (aP : Option Addr) (aQ : Nat) (aj : List Int) (aR : Option Addr) (aS : Nat) (ak : List Int) (an : ByteArray) (av : Int) (aw : Int) (ax : Int) (ay : Int) (bb : Option Addr) (bc : Nat) (ap : List Int) (bd : Option Addr) (be : Nat) (aq : List Int) (az : Int) (ao : ByteArray) (aA : Bool) (r : Bool) (w : World) (fi : Kd.C (Kd.int .i64) w aP aj.length aj) (fj : aj.length ≤ aQ) (fk : Kd.C (Kd.int .i64) w aR ak.length ak) (fl : ak.length ≤ aS) (fm : Kd.C (Kd.int .i64) w bb ap.length ap) (fn : ap.length ≤ bc) (fo : Kd.C (Kd.int .i64) w bd aq.length aq) (fp : aq.length ≤ be) (h : L_ChunkBegins.f k a0 a1 al am aj ak an av aw ax ay ap aq az ao aA = some r) :
 Calls Try.prog 4 #[.int .i64 a0,.int .i64 a1,.agg #[.int .i64 al,.int .i64 am,.slice aP aj.length aQ,.slice aR ak.length aS,.string an],.agg #[.int .i64 av,.int .i64 aw,.int .i64 ax,.int .i64 ay,.slice bb ap.length bc,.slice bd aq.length be,.int .i64 az,.string ao,.bool aA]] w fun e w' => e = .returned (.bool r) ∧ Below w.heap.size w w' := by
 have hu26 := Try.underlying26
 have hu34 := Try.underlying34
 have hu24 := Try.underlying24
 have cS := zzk fi
 have cT := zzk fj
 clear fi fj
 have cU := zzk fk
 have cV := zzk fl
 clear fk fl
 have dh := zzk fm
 have di := zzk fn
 clear fm fn
 have dj := zzk fo
 have dk := zzk fp
 clear fo fp
 have HB := zzk (Below.refl w.heap.size w)
 have H : ((L_large.f al am aj ak an).bind fun dq => (if dq = true then (L_ChunkBegins.j0 k a0 a1 true al am aj ak an av aw ax ay ap aq az ao aA) else (if (ao.size : Int) > 262144 then (L_ChunkBegins.j0 k a0 a1 true al am aj ak an av aw ax ay ap aq az ao aA) else ((r08_BigCouncil.f ap aq).bind fun cC => (L_ChunkBegins.j0 k a0 a1 cC al am aj ak an av aw ax ay ap aq az ao aA))))) = some r := h
 clear h
 have ir := zzk H
 clear H
 go_enter Try.func4,Try.ntmps4
 go_upto_region 1 with (first | ((with_reducible refine Zy (N := 6) rfl ?_); (try (refine Zz (by rfl) ?_; dsimp only)); refine zzc ?hg (N := 6) ?hd (cs := #[.int .i64 al,.int .i64 am,.slice aP aj.length aQ,.slice aR ak.length aS,.string an]) (t := 26) ?hr ?_; (case hd => rfl); (case hg => rfl); (case hr => first | (go_simp; done) | (go_simp; rfl)); intro ai hg w6 hbox hb; have aI := zzk (Zs (by repeat (first | (with_reducible first | exact HB.out | apply Zq | apply Zp | apply Zo) | exact HB.out)) hb); have aJ := zzk (hbox); have aK := zzk ((by rw [hg]; exact (Zr (by repeat (first | (with_reducible first | exact HB.out | apply Zq | apply Zp | apply Zo) | exact HB.out))) : w.heap.size ≤ ai)); have ba := zzk ((by rw [hg]; exact (Zr (by repeat (first | (with_reducible first | exact HB.out | apply Zq | apply Zp | apply Zo) | exact HB.out))) : w.heap.size ≤ ai)); clear HB; have HB := aI; have ac := aJ; have nb := aK; have aC := ba; clear aI aJ aK ba; clear hb hbox hg) | ((with_reducible refine Zy (N := 7) rfl ?_); (try (refine Zz (by rfl) ?_; dsimp only)); refine zzc ?hg (N := 7) ?hd (cs := #[.int .i64 av,.int .i64 aw,.int .i64 ax,.int .i64 ay,.slice bb ap.length bc,.slice bd aq.length be,.int .i64 az,.string ao,.bool aA]) (t := 34) ?hr ?_; (case hd => rfl); (case hg => rfl); (case hr => first | (go_simp; done) | (go_simp; rfl)); intro ag hg w7 hbox hb; have aI := zzk (zo (g := ai) (o := .cells #[.int .i64 al,.int .i64 am,.slice aP aj.length aQ,.slice aR ak.length aS,.string an] 26 (0,0)) (by (with_reducible repeat (first | refine zj ?_ _ | refine zl ?_ | refine zk ?_ _)); exact ac.out) hb); have aJ := zzk (Zs (by repeat (first | (with_reducible first | exact HB.out | apply Zq | apply Zp | apply Zo | refine Zn ?_ aC.out) | exact HB.out)) hb); have aK := zzk (hbox); have ba := zzk ((by rw [hg]; exact (Zr (by repeat (first | (with_reducible first | exact HB.out | apply Zq | apply Zp | apply Zo | refine Zn ?_ aC.out) | exact HB.out))) : w.heap.size ≤ ag)); have bk := zzk ((by rw [hg]; exact (Zr (by repeat (first | (with_reducible first | exact HB.out | apply Zq | apply Zp | apply Zo | refine Zn ?_ aC.out) | exact HB.out))) : w.heap.size ≤ ag)); have bl := zzk ((by rw [hg]; exact Nat.ne_of_lt (zq (g := ai) (o := .cells #[.int .i64 al,.int .i64 am,.slice aP aj.length aQ,.slice aR ak.length aS,.string an] 26 (0,0)) (by (with_reducible repeat (first | refine zj ?_ _ | refine zl ?_ | refine zk ?_ _)); exact ac.out)) : ai ≠ ag)); have bm := zzk ((by rw [hg]; exact Nat.ne_of_gt (zq (g := ai) (o := .cells #[.int .i64 al,.int .i64 am,.slice aP aj.length aQ,.slice aR ak.length aS,.string an] 26 (0,0)) (by (with_reducible repeat (first | refine zj ?_ _ | refine zl ?_ | refine zk ?_ _)); exact ac.out)) : ag ≠ ai)); clear ac; clear HB; have ac := aI; have HB := aJ; have ab := aK; have nc := ba; have aE := bk; have cn := bl; have co := bm; clear aI aJ aK ba bk bl bm; clear hb hbox hg))
 (try simp only [Act.put,za,zb,zc])
 go_cut [29] (fun mw wc => ∃ (kq : Nat) (dt : Bool),mw = .bool dt ∧ Aside0 (L_ChunkBegins.j0 kq a0 a1 dt al am aj ak an av aw ax ay ap aq az ao aA = some r) ∧ Aside0 (kq ≤ k) ∧ Aside0 (wc.heap[ai]? = some (.cells #[.int .i64 al,.int .i64 am,(.slice aP aj.length aQ),(.slice aR ak.length aS),.string an] 26 (0,0))) ∧ Aside0 (wc.heap[ag]? = some (.cells #[.int .i64 av,.int .i64 aw,.int .i64 ax,.int .i64 ay,(.slice bb ap.length bc),(.slice bd aq.length be),.int .i64 az,.string ao,.bool aA] 34 (0,0))) ∧ Aside0 (Below w.heap.size w wc))
 case first =>
  have H := ir.out
  clear ir
  replace H := Option.bind_eq_some_iff.mp H
  obtain ⟨dq,iW,H⟩ := H
  replace H : (if dq = true then (L_ChunkBegins.j0 k a0 a1 true al am aj ak an av aw ax ay ap aq az ao aA) else (if (ao.size : Int) > 262144 then (L_ChunkBegins.j0 k a0 a1 true al am aj ak an av aw ax ay ap aq az ao aA) else ((r08_BigCouncil.f ap aq).bind fun cC => (L_ChunkBegins.j0 k a0 a1 cC al am aj ak an av aw ax ay ap aq az ao aA)))) = some r := H
  have A8 := zzk iW
  clear iW
  by_cases c9 : dq = true
  ·
   subst c9
   have H1 : (L_ChunkBegins.j0 k a0 a1 true al am aj ak an av aw ax ay ap aq az ao aA) = some r := by rw [if_pos rfl] at H; exact H
   clear H
   have H := H1
   clear H1
   have H' := zzk H
   clear H
   have nd := cn.out
   have nf := co.out
   have dJ : w7.cell? ⟨ai,0,none⟩ = some (.int .i64 al) := (zi ac.out 0).trans rfl
   have dK : w7.cell? ⟨ai,1,none⟩ = some (.int .i64 am) := (zi ac.out 1).trans rfl
   have dL : w7.cell? ⟨ai,2,none⟩ = some (.slice aP aj.length aQ) := (zi ac.out 2).trans rfl
   have dM : w7.cell? ⟨ai,3,none⟩ = some (.slice aR ak.length aS) := (zi ac.out 3).trans rfl
   have dN : w7.cell? ⟨ai,4,none⟩ = some (.string an) := (zi ac.out 4).trans rfl
   have dO := zm ac.out 0
   have dP := zm ac.out 1
   have dQ := zm ac.out 2
   have dR := zm ac.out 3
   have dS := zm ac.out 4
   go_wp2_with (first | ((with_reducible refine zza (f := 8) rfl ?_); refine zzd (some 18) rfl rfl Try.func8 (by kernel_rfl) rfl #[.agg #[.int .i64 al,.int .i64 am,.slice aP aj.length aQ,.slice aR ak.length aS,.string an]] rfl (by (try simp only [zd,ze,zf]); first | done | rfl | (simp only [zg,zh]; rfl)) ?_; (with_reducible refine (L_large.calls al am _ _ aj _ _ ak an true _ ?side1 ?side2 ?side3 ?side4 A8.out).mono ?_); (case side1 => repeat (first | exact (Zm cS.out HB.out) | (with_reducible refine Zk ?_ _) | (with_reducible refine Zj ?_ _) | (with_reducible refine Zl ?_))); (case side2 => exact cT.out); (case side3 => repeat (first | exact (Zm cU.out HB.out) | (with_reducible refine Zk ?_ _) | (with_reducible refine Zj ?_ _) | (with_reducible refine Zl ?_))); (case side4 => exact cV.out); rintro e oA ⟨rfl,hb⟩; refine ⟨_,rfl,?_⟩; have aI := zzk (zo (g := ai) (o := .cells #[.int .i64 al,.int .i64 am,.slice aP aj.length aQ,.slice aR ak.length aS,.string an] 26 (0,0)) (by (with_reducible repeat (first | refine zj ?_ _ | refine zl ?_ | refine zk ?_ _)); exact ac.out) hb); have aJ := zzk (zo (g := ag) (o := .cells #[.int .i64 av,.int .i64 aw,.int .i64 ax,.int .i64 ay,.slice bb ap.length bc,.slice bd aq.length be,.int .i64 az,.string ao,.bool aA] 34 (0,0)) (by (with_reducible repeat (first | refine zj ?_ _ | refine zl ?_ | refine zk ?_ _)); exact ab.out) hb); have aK := zzk (Zs (by repeat (first | (with_reducible first | exact HB.out | apply Zq | apply Zp | apply Zo | refine Zn ?_ aC.out | refine Zn ?_ aE.out) | exact HB.out)) hb); clear ac; clear ab; clear HB; have ac := aI; have ab := aJ; have HB := aK; clear aI aJ aK; (try clear hb); (try clear hb2); (try clear hk); (try clear hi)))
   go_meet
   case rel => exact ⟨_,(true),(by first | rfl | (simp; done) | (simp [*]; done)),H',⟨by first | omega | exact Nat.le_refl _⟩,⟨by (with_reducible repeat (first | refine zj ?_ _ | refine zl ?_ | refine zk ?_ _)); exact ac.out⟩,⟨by (with_reducible repeat (first | refine zj ?_ _ | refine zl ?_ | refine zk ?_ _)); exact ab.out⟩,⟨by repeat (first | (with_reducible first | exact HB.out | apply Zq | apply Zp | apply Zo | refine Zn ?_ aC.out | refine Zn ?_ aE.out) | exact HB.out)⟩⟩
  ·
   replace c9 := Bool.eq_false_iff.mpr c9
   subst c9
   have H1 : (if (ao.size : Int) > 262144 then (L_ChunkBegins.j0 k a0 a1 true al am aj ak an av aw ax ay ap aq az ao aA) else ((r08_BigCouncil.f ap aq).bind fun cC => (L_ChunkBegins.j0 k a0 a1 cC al am aj ak an av aw ax ay ap aq az ao aA))) = some r := by rw [if_neg (show ¬ (false = true) by decide)] at H; exact H
   clear H
   have H := H1
   clear H1
   by_cases ds : (ao.size : Int) > 262144
   ·
    rw [if_pos ds] at H
    have cW : decide (262144 < (ao.size : Int)) = true := zzn ds
    have fa : decide (262144 < ao.size) = true := zzn (by omega)
    clear ds
    (first | rw [cW] | (simp only [Zv,Zw]; rw [cW]) | skip)
    have H' := zzk H
    clear H
    have ng := cn.out
    have nh := co.out
    have dT : w7.cell? ⟨ai,0,none⟩ = some (.int .i64 al) := (zi ac.out 0).trans rfl
    have dU : w7.cell? ⟨ai,1,none⟩ = some (.int .i64 am) := (zi ac.out 1).trans rfl
    have dV : w7.cell? ⟨ai,2,none⟩ = some (.slice aP aj.length aQ) := (zi ac.out 2).trans rfl
    have dW : w7.cell? ⟨ai,3,none⟩ = some (.slice aR ak.length aS) := (zi ac.out 3).trans rfl
    have dX : w7.cell? ⟨ai,4,none⟩ = some (.string an) := (zi ac.out 4).trans rfl
    have dY := zm ac.out 0
    have dZ := zm ac.out 1
    have ea := zm ac.out 2
    have eb := zm ac.out 3
    have ec := zm ac.out 4
    go_wp2_with (first | ((with_reducible refine zza (f := 8) rfl ?_); refine zzd (some 18) rfl rfl Try.func8 (by kernel_rfl) rfl #[.agg #[.int .i64 al,.int .i64 am,.slice aP aj.length aQ,.slice aR ak.length aS,.string an]] rfl (by (try simp only [zd,ze,zf]); first | done | rfl | (simp only [zg,zh]; rfl)) ?_; (with_reducible refine (L_large.calls al am _ _ aj _ _ ak an false _ ?side1 ?side2 ?side3 ?side4 A8.out).mono ?_); (case side1 => repeat (first | exact (Zm cS.out HB.out) | (with_reducible refine Zk ?_ _) | (with_reducible refine Zj ?_ _) | (with_reducible refine Zl ?_))); (case side2 => exact cT.out); (case side3 => repeat (first | exact (Zm cU.out HB.out) | (with_reducible refine Zk ?_ _) | (with_reducible refine Zj ?_ _) | (with_reducible refine Zl ?_))); (case side4 => exact cV.out); rintro e dl ⟨rfl,hb⟩; refine ⟨_,rfl,?_⟩; have aI := zzk (zo (g := ai) (o := .cells #[.int .i64 al,.int .i64 am,.slice aP aj.length aQ,.slice aR ak.length aS,.string an] 26 (0,0)) (by (with_reducible repeat (first | refine zj ?_ _ | refine zl ?_ | refine zk ?_ _)); exact ac.out) hb); have aJ := zzk (zo (g := ag) (o := .cells #[.int .i64 av,.int .i64 aw,.int .i64 ax,.int .i64 ay,.slice bb ap.length bc,.slice bd aq.length be,.int .i64 az,.string ao,.bool aA] 34 (0,0)) (by (with_reducible repeat (first | refine zj ?_ _ | refine zl ?_ | refine zk ?_ _)); exact ab.out) hb); have aK := zzk (Zs (by repeat (first | (with_reducible first | exact HB.out | apply Zq | apply Zp | apply Zo | refine Zn ?_ aC.out | refine Zn ?_ aE.out) | exact HB.out)) hb); clear ac; clear ab; clear HB; have ac := aI; have ab := aJ; have HB := aK; clear aI aJ aK; (try clear hb); (try clear hb2); (try clear hk); (try clear hi); have ed : dl.cell? ⟨ag,0,none⟩ = some (.int .i64 av) := (zi ab.out 0).trans rfl; have ee : dl.cell? ⟨ag,1,none⟩ = some (.int .i64 aw) := (zi ab.out 1).trans rfl; have ef : dl.cell? ⟨ag,2,none⟩ = some (.int .i64 ax) := (zi ab.out 2).trans rfl; have eg : dl.cell? ⟨ag,3,none⟩ = some (.int .i64 ay) := (zi ab.out 3).trans rfl; have eh : dl.cell? ⟨ag,4,none⟩ = some (.slice bb ap.length bc) := (zi ab.out 4).trans rfl; have ei : dl.cell? ⟨ag,5,none⟩ = some (.slice bd aq.length be) := (zi ab.out 5).trans rfl; have ej : dl.cell? ⟨ag,6,none⟩ = some (.int .i64 az) := (zi ab.out 6).trans rfl; have ek : dl.cell? ⟨ag,7,none⟩ = some (.string ao) := (zi ab.out 7).trans rfl; have el : dl.cell? ⟨ag,8,none⟩ = some (.bool aA) := (zi ab.out 8).trans rfl; have em := zm ab.out 0; have en := zm ab.out 1; have eo := zm ab.out 2; have ep := zm ab.out 3; have er := zm ab.out 4; have es := zm ab.out 5; have et := zm ab.out 6; have eu := zm ab.out 7; have ev := zm ab.out 8))
    go_meet
    case rel => exact ⟨_,(true),(by first | rfl | (simp; done) | (simp [*]; done)),H',⟨by first | omega | exact Nat.le_refl _⟩,⟨by (with_reducible repeat (first | refine zj ?_ _ | refine zl ?_ | refine zk ?_ _)); exact ac.out⟩,⟨by (with_reducible repeat (first | refine zj ?_ _ | refine zl ?_ | refine zk ?_ _)); exact ab.out⟩,⟨by repeat (first | (with_reducible first | exact HB.out | apply Zq | apply Zp | apply Zo | refine Zn ?_ aC.out | refine Zn ?_ aE.out) | exact HB.out)⟩⟩
   ·
    rw [if_neg ds] at H
    have cW : decide (262144 < (ao.size : Int)) = false := zzo ds
    have fa : decide (262144 < ao.size) = false := zzo (by omega)
    clear ds
    (first | rw [cW] | (simp only [Zv,Zw]; rw [cW]) | skip)
    replace H := Option.bind_eq_some_iff.mp H
    obtain ⟨cC,it,H⟩ := H
    replace H : (L_ChunkBegins.j0 k a0 a1 cC al am aj ak an av aw ax ay ap aq az ao aA) = some r := H
    have my := zzk it
    clear it
    have H' := zzk H
    clear H
    have ni := cn.out
    have nj := co.out
    have ew : w7.cell? ⟨ai,0,none⟩ = some (.int .i64 al) := (zi ac.out 0).trans rfl
    have ex : w7.cell? ⟨ai,1,none⟩ = some (.int .i64 am) := (zi ac.out 1).trans rfl
    have ey : w7.cell? ⟨ai,2,none⟩ = some (.slice aP aj.length aQ) := (zi ac.out 2).trans rfl
    have ez : w7.cell? ⟨ai,3,none⟩ = some (.slice aR ak.length aS) := (zi ac.out 3).trans rfl
    have eA : w7.cell? ⟨ai,4,none⟩ = some (.string an) := (zi ac.out 4).trans rfl
    have eB := zm ac.out 0
    have eC := zm ac.out 1
    have eD := zm ac.out 2
    have eE := zm ac.out 3
    have eF := zm ac.out 4
    go_wp2_with (first | ((with_reducible refine zza (f := 8) rfl ?_); refine zzd (some 18) rfl rfl Try.func8 (by kernel_rfl) rfl #[.agg #[.int .i64 al,.int .i64 am,.slice aP aj.length aQ,.slice aR ak.length aS,.string an]] rfl (by (try simp only [zd,ze,zf]); first | done | rfl | (simp only [zg,zh]; rfl)) ?_; (with_reducible refine (L_large.calls al am _ _ aj _ _ ak an false _ ?side1 ?side2 ?side3 ?side4 A8.out).mono ?_); (case side1 => repeat (first | exact (Zm cS.out HB.out) | (with_reducible refine Zk ?_ _) | (with_reducible refine Zj ?_ _) | (with_reducible refine Zl ?_))); (case side2 => exact cT.out); (case side3 => repeat (first | exact (Zm cU.out HB.out) | (with_reducible refine Zk ?_ _) | (with_reducible refine Zj ?_ _) | (with_reducible refine Zl ?_))); (case side4 => exact cV.out); rintro e dm ⟨rfl,hb⟩; refine ⟨_,rfl,?_⟩; have aI := zzk (zo (g := ai) (o := .cells #[.int .i64 al,.int .i64 am,.slice aP aj.length aQ,.slice aR ak.length aS,.string an] 26 (0,0)) (by (with_reducible repeat (first | refine zj ?_ _ | refine zl ?_ | refine zk ?_ _)); exact ac.out) hb); have aJ := zzk (zo (g := ag) (o := .cells #[.int .i64 av,.int .i64 aw,.int .i64 ax,.int .i64 ay,.slice bb ap.length bc,.slice bd aq.length be,.int .i64 az,.string ao,.bool aA] 34 (0,0)) (by (with_reducible repeat (first | refine zj ?_ _ | refine zl ?_ | refine zk ?_ _)); exact ab.out) hb); have aK := zzk (Zs (by repeat (first | (with_reducible first | exact HB.out | apply Zq | apply Zp | apply Zo | refine Zn ?_ aC.out | refine Zn ?_ aE.out) | exact HB.out)) hb); clear ac; clear ab; clear HB; have ac := aI; have ab := aJ; have HB := aK; clear aI aJ aK; (try clear hb); (try clear hb2); (try clear hk); (try clear hi); have eG : dm.cell? ⟨ag,0,none⟩ = some (.int .i64 av) := (zi ab.out 0).trans rfl; have eH : dm.cell? ⟨ag,1,none⟩ = some (.int .i64 aw) := (zi ab.out 1).trans rfl; have eI : dm.cell? ⟨ag,2,none⟩ = some (.int .i64 ax) := (zi ab.out 2).trans rfl; have eJ : dm.cell? ⟨ag,3,none⟩ = some (.int .i64 ay) := (zi ab.out 3).trans rfl; have eK : dm.cell? ⟨ag,4,none⟩ = some (.slice bb ap.length bc) := (zi ab.out 4).trans rfl; have eL : dm.cell? ⟨ag,5,none⟩ = some (.slice bd aq.length be) := (zi ab.out 5).trans rfl; have eM : dm.cell? ⟨ag,6,none⟩ = some (.int .i64 az) := (zi ab.out 6).trans rfl; have eN : dm.cell? ⟨ag,7,none⟩ = some (.string ao) := (zi ab.out 7).trans rfl; have eO : dm.cell? ⟨ag,8,none⟩ = some (.bool aA) := (zi ab.out 8).trans rfl; have eP := zm ab.out 0; have eQ := zm ab.out 1; have eR := zm ab.out 2; have eS := zm ab.out 3; have eT := zm ab.out 4; have eU := zm ab.out 5; have eV := zm ab.out 6; have eW := zm ab.out 7; have eX := zm ab.out 8) | (go_at_call 12; (with_reducible refine (r08_BigCouncil.calls _ _ ap _ _ aq cC _ ?side1 ?side2 ?side3 ?side4 my.out).mono ?_); (case side1 => repeat (first | exact (Zm dh.out HB.out) | (with_reducible refine Zk ?_ _) | (with_reducible refine Zj ?_ _) | (with_reducible refine Zl ?_))); (case side2 => exact di.out); (case side3 => repeat (first | exact (Zm dj.out HB.out) | (with_reducible refine Zk ?_ _) | (with_reducible refine Zj ?_ _) | (with_reducible refine Zl ?_))); (case side4 => exact dk.out); rintro e oB ⟨rfl,hb⟩; have aI := zzk (zo (g := ai) (o := .cells #[.int .i64 al,.int .i64 am,.slice aP aj.length aQ,.slice aR ak.length aS,.string an] 26 (0,0)) (by (with_reducible repeat (first | refine zj ?_ _ | refine zl ?_ | refine zk ?_ _)); exact ac.out) hb); have aJ := zzk (zo (g := ag) (o := .cells #[.int .i64 av,.int .i64 aw,.int .i64 ax,.int .i64 ay,.slice bb ap.length bc,.slice bd aq.length be,.int .i64 az,.string ao,.bool aA] 34 (0,0)) (by (with_reducible repeat (first | refine zj ?_ _ | refine zl ?_ | refine zk ?_ _)); exact ab.out) hb); have aK := zzk (Zs (by repeat (first | (with_reducible first | exact HB.out | apply Zq | apply Zp | apply Zo | refine Zn ?_ aC.out | refine Zn ?_ aE.out) | exact HB.out)) hb); clear ac; clear ab; clear HB; have ac := aI; have ab := aJ; have HB := aK; clear aI aJ aK; (try clear hb); (try clear hb2); (try clear hk); (try clear hi)))
    go_meet
    case rel => exact ⟨_,(cC),(by first | rfl | (simp; done) | (simp [*]; done)),H',⟨by first | omega | exact Nat.le_refl _⟩,⟨by (with_reducible repeat (first | refine zj ?_ _ | refine zl ?_ | refine zk ?_ _)); exact ac.out⟩,⟨by (with_reducible repeat (first | refine zj ?_ _ | refine zl ?_ | refine zk ?_ _)); exact ab.out⟩,⟨by repeat (first | (with_reducible first | exact HB.out | apply Zq | apply Zp | apply Zo | refine Zn ?_ aC.out | refine Zn ?_ aE.out) | exact HB.out)⟩⟩
 case rest =>
  clear ir
  try clear c1
  try clear c2
  try clear p2
  try clear c3
  try clear c4
  try clear c8
  try clear c9
  try clear mz
  try clear ds
  try clear cW
  try clear fa
  try clear mA
  try clear mB
  try clear dJ
  try clear dK
  try clear dL
  try clear dM
  try clear dN
  try clear dT
  try clear dU
  try clear dV
  try clear dW
  try clear dX
  try clear ed
  try clear ee
  try clear ef
  try clear eg
  try clear eh
  try clear ei
  try clear ej
  try clear ek
  try clear el
  try clear ew
  try clear ex
  try clear ey
  try clear ez
  try clear eA
  try clear eG
  try clear eH
  try clear eI
  try clear eJ
  try clear eK
  try clear eL
  try clear eM
  try clear eN
  try clear eO
  try clear dO
  try clear dP
  try clear dQ
  try clear dR
  try clear dS
  try clear dY
  try clear dZ
  try clear ea
  try clear eb
  try clear ec
  try clear em
  try clear en
  try clear eo
  try clear ep
  try clear er
  try clear es
  try clear et
  try clear eu
  try clear ev
  try clear eB
  try clear eC
  try clear eD
  try clear eE
  try clear eF
  try clear eP
  try clear eQ
  try clear eR
  try clear eS
  try clear eT
  try clear eU
  try clear eV
  try clear eW
  try clear eX
  obtain ⟨kq,dt,rfl,HA,HJ4,ac,ab,HB⟩ := hcut
  cases kq with
  | zero => exact absurd HA.out (by simp [L_ChunkBegins.j0])
  | succ cp =>
   have H := HA.out
   clear HA
   simp only [L_ChunkBegins.j0] at H
   by_cases fe : dt = true
   ·
    subst fe
    have H1 : (some true) = some r := by rw [if_pos rfl] at H; exact H
    clear H
    have H := H1
    clear H1
    obtain rfl := zzu H
    go_wp2
    go_ret
    exact ⟨by first | rfl | (simp [zzl,zzm] <;> rfl) | (simp [*,zzl,zzm] <;> rfl),by repeat (first | (with_reducible first | exact HB.out | apply Zq | apply Zp | apply Zo | refine Zn ?_ aC.out | refine Zn ?_ aE.out) | exact HB.out)⟩
   ·
    replace fe := Bool.eq_false_iff.mpr fe
    subst fe
    have H1 : ((r08_OwnSnap.f al am aj ak an).bind fun bO => ((chunk_Begin.f cp a0 a1 al am aj ak an).bind fun au => ((r16_Begin.f cp a0 a1 bO.1 bO.2.1 bO.2.2.1 bO.2.2.2.1 bO.2.2.2.2).bind fun aD => (if au.2.2.2.2.2.2.2.2.2 = aD.2.2.2.2.2.2.2.2.2 then ((r16_Same.f cp au.1 au.2.1 au.2.2.1 au.2.2.2.1 au.2.2.2.2.1 au.2.2.2.2.2.1 au.2.2.2.2.2.2.1 au.2.2.2.2.2.2.2.1 au.2.2.2.2.2.2.2.2.1 aD.1 aD.2.1 aD.2.2.1 aD.2.2.2.1 aD.2.2.2.2.1 aD.2.2.2.2.2.1 aD.2.2.2.2.2.2.1 aD.2.2.2.2.2.2.2.1 aD.2.2.2.2.2.2.2.2.1).bind fun ck => (L_ChunkBegins.l0 cp ck 0 al am aj ak an av aw ax ay ap aq az ao aA bO.1 bO.2.1 bO.2.2.1 bO.2.2.2.1 bO.2.2.2.2 au.1 au.2.1 au.2.2.1 au.2.2.2.1 au.2.2.2.2.1 au.2.2.2.2.2.1 au.2.2.2.2.2.2.1 au.2.2.2.2.2.2.2.1 au.2.2.2.2.2.2.2.2.1)) else (none))))) = some r := by rw [if_neg (show ¬ (false = true) by decide)] at H; exact H
    clear H
    have H := H1
    clear H1
    replace H := Option.bind_eq_some_iff.mp H
    obtain ⟨⟨aG,aL,bn,br,aT⟩,iu,H⟩ := H
    replace H : ((chunk_Begin.f cp a0 a1 al am aj ak an).bind fun au => ((r16_Begin.f cp a0 a1 aG aL bn br aT).bind fun aD => (if au.2.2.2.2.2.2.2.2.2 = aD.2.2.2.2.2.2.2.2.2 then ((r16_Same.f cp au.1 au.2.1 au.2.2.1 au.2.2.2.1 au.2.2.2.2.1 au.2.2.2.2.2.1 au.2.2.2.2.2.2.1 au.2.2.2.2.2.2.2.1 au.2.2.2.2.2.2.2.2.1 aD.1 aD.2.1 aD.2.2.1 aD.2.2.2.1 aD.2.2.2.2.1 aD.2.2.2.2.2.1 aD.2.2.2.2.2.2.1 aD.2.2.2.2.2.2.2.1 aD.2.2.2.2.2.2.2.2.1).bind fun ck => (L_ChunkBegins.l0 cp ck 0 al am aj ak an av aw ax ay ap aq az ao aA aG aL bn br aT au.1 au.2.1 au.2.2.1 au.2.2.2.1 au.2.2.2.2.1 au.2.2.2.2.2.1 au.2.2.2.2.2.2.1 au.2.2.2.2.2.2.2.1 au.2.2.2.2.2.2.2.2.1)) else (none)))) = some r := H
    have mC := zzk iu
    clear iu
    replace H := Option.bind_eq_some_iff.mp H
    obtain ⟨⟨aF,aH,aM,aN,bf,bg,aU,aV,aW,dr⟩,iv,H⟩ := H
    replace H : ((r16_Begin.f cp a0 a1 aG aL bn br aT).bind fun aD => (if dr = aD.2.2.2.2.2.2.2.2.2 then ((r16_Same.f cp aF aH aM aN bf bg aU aV aW aD.1 aD.2.1 aD.2.2.1 aD.2.2.2.1 aD.2.2.2.2.1 aD.2.2.2.2.2.1 aD.2.2.2.2.2.2.1 aD.2.2.2.2.2.2.2.1 aD.2.2.2.2.2.2.2.2.1).bind fun ck => (L_ChunkBegins.l0 cp ck 0 al am aj ak an av aw ax ay ap aq az ao aA aG aL bn br aT aF aH aM aN bf bg aU aV aW)) else (none))) = some r := H
    have mD := zzk iv
    clear iv
    replace H := Option.bind_eq_some_iff.mp H
    obtain ⟨⟨bw,bx,bG,bJ,bW,ca,bP,bT,bX,dw⟩,iw,H⟩ := H
    replace H : (if dr = dw then ((r16_Same.f cp aF aH aM aN bf bg aU aV aW bw bx bG bJ bW ca bP bT bX).bind fun ck => (L_ChunkBegins.l0 cp ck 0 al am aj ak an av aw ax ay ap aq az ao aA aG aL bn br aT aF aH aM aN bf bg aU aV aW)) else (none)) = some r := H
    have mE := zzk iw
    clear iw
    by_cases eY : dr = dw
    ·
     rw [if_pos eY] at H
     have iP : (dr == dw) = true := beq_iff_eq.mpr eY
     have iQ : (dr != dw) = false := bne_eq_false_iff_eq.mpr eY
     clear eY
     replace H := Option.bind_eq_some_iff.mp H
     obtain ⟨ck,ix,H⟩ := H
     replace H : (L_ChunkBegins.l0 cp ck 0 al am aj ak an av aw ax ay ap aq az ao aA aG aL bn br aT aF aH aM aN bf bg aU aV aW) = some r := H
     have mF := zzk ix
     clear ix
     have H' := zzk H
     clear H
     have nk := cn.out
     have nl := co.out
     have fH : wc.cell? ⟨ai,0,none⟩ = some (.int .i64 al) := (zi ac.out 0).trans rfl
     have fI : wc.cell? ⟨ai,1,none⟩ = some (.int .i64 am) := (zi ac.out 1).trans rfl
     have fJ : wc.cell? ⟨ai,2,none⟩ = some (.slice aP aj.length aQ) := (zi ac.out 2).trans rfl
     have fK : wc.cell? ⟨ai,3,none⟩ = some (.slice aR ak.length aS) := (zi ac.out 3).trans rfl
     have fL : wc.cell? ⟨ai,4,none⟩ = some (.string an) := (zi ac.out 4).trans rfl
     have fM := zm ac.out 0
     have fN := zm ac.out 1
     have fO := zm ac.out 2
     have fP := zm ac.out 3
     have fQ := zm ac.out 4
     go_wp2_with (first | ((with_reducible refine zza (f := 13) rfl ?_); refine zzd (some 31) rfl rfl Try.func13 (by kernel_rfl) rfl #[.agg #[.int .i64 al,.int .i64 am,.slice aP aj.length aQ,.slice aR ak.length aS,.string an]] rfl (by (try simp only [zd,ze,zf]); first | done | rfl | (simp only [zg,zh]; rfl)) ?_; (with_reducible refine (r08_OwnSnap.calls al am _ _ aj _ _ ak an aG aL bn br aT _ ?side1 ?side2 ?side3 ?side4 mC.out).mono ?_); (case side1 => repeat (first | exact (Zm cS.out HB.out) | (with_reducible refine Zk ?_ _) | (with_reducible refine Zj ?_ _) | (with_reducible refine Zl ?_))); (case side2 => exact cT.out); (case side3 => repeat (first | exact (Zm cU.out HB.out) | (with_reducible refine Zk ?_ _) | (with_reducible refine Zj ?_ _) | (with_reducible refine Zl ?_))); (case side4 => exact cV.out); rintro e oC ⟨oo,op,rfl,ho0,ho1,hb⟩; refine ⟨_,rfl,?_⟩; have aI := zzk (Za ho0 (Zr (by repeat (first | (with_reducible first | exact HB.out | apply Zq | apply Zp | apply Zo | refine Zn ?_ aC.out | refine Zn ?_ aE.out) | exact HB.out)))); have aJ := zzk (Za ho1 (Zr (by repeat (first | (with_reducible first | exact HB.out | apply Zq | apply Zp | apply Zo | refine Zn ?_ aC.out | refine Zn ?_ aE.out) | exact HB.out)))); have aK := zzk (zo (g := ai) (o := .cells #[.int .i64 al,.int .i64 am,.slice aP aj.length aQ,.slice aR ak.length aS,.string an] 26 (0,0)) (by (with_reducible repeat (first | refine zj ?_ _ | refine zl ?_ | refine zk ?_ _)); exact ac.out) hb); have ba := zzk (zo (g := ag) (o := .cells #[.int .i64 av,.int .i64 aw,.int .i64 ax,.int .i64 ay,.slice bb ap.length bc,.slice bd aq.length be,.int .i64 az,.string ao,.bool aA] 34 (0,0)) (by (with_reducible repeat (first | refine zj ?_ _ | refine zl ?_ | refine zk ?_ _)); exact ab.out) hb); have bk := zzk (Zs (by repeat (first | (with_reducible first | exact HB.out | apply Zq | apply Zp | apply Zo | refine Zn ?_ aC.out | refine Zn ?_ aE.out) | exact HB.out)) hb); clear ac; clear ab; clear HB; have bt := aI; have bu := aJ; have ac := aK; have ab := ba; have HB := bk; clear aI aJ aK ba bk; (try clear hb); (try clear hb2); (try clear hk); (try clear hi); (try clear ho0); (try clear ho1)) | ((with_reducible refine Zy (N := 9) rfl ?_); (try (refine Zz (by rfl) ?_; dsimp only)); refine zzc ?hg (N := 9) ?hd (cs := #[.int .i64 0,.int .i64 0,.slice none 0 0,.slice none 0 0,.string (⟨#[]⟩ : ByteArray)]) (t := 26) ?hr ?_; (case hd => rfl); (case hg => rfl); (case hr => first | (go_simp; done) | (go_simp; rfl)); intro ah hg df hbox hb; have aI := zzk (zv (by (with_reducible repeat (first | apply zu | apply zt | apply zs)); exact bt.out) hb); have aJ := zzk (zv (by (with_reducible repeat (first | apply zu | apply zt | apply zs)); exact bu.out) hb); have aK := zzk (zo (g := ai) (o := .cells #[.int .i64 al,.int .i64 am,.slice aP aj.length aQ,.slice aR ak.length aS,.string an] 26 (0,0)) (by (with_reducible repeat (first | refine zj ?_ _ | refine zl ?_ | refine zk ?_ _)); exact ac.out) hb); have ba := zzk (zo (g := ag) (o := .cells #[.int .i64 av,.int .i64 aw,.int .i64 ax,.int .i64 ay,.slice bb ap.length bc,.slice bd aq.length be,.int .i64 az,.string ao,.bool aA] 34 (0,0)) (by (with_reducible repeat (first | refine zj ?_ _ | refine zl ?_ | refine zk ?_ _)); exact ab.out) hb); have bk := zzk (Zs (by repeat (first | (with_reducible first | exact HB.out | apply Zq | apply Zp | apply Zo | refine Zn ?_ aC.out | refine Zn ?_ aE.out) | exact HB.out)) hb); have bl := zzk (hbox); have bm := zzk ((by rw [hg]; exact (Zr (by repeat (first | (with_reducible first | exact HB.out | apply Zq | apply Zp | apply Zo | refine Zn ?_ aC.out | refine Zn ?_ aE.out) | exact HB.out))) : w.heap.size ≤ ah)); have bv := zzk ((by rw [hg]; exact (Zr (by repeat (first | (with_reducible first | exact HB.out | apply Zq | apply Zp | apply Zo | refine Zn ?_ aC.out | refine Zn ?_ aE.out) | exact HB.out))) : w.heap.size ≤ ah)); have bA := zzk ((by rw [hg]; exact Nat.ne_of_lt (zq (g := ai) (o := .cells #[.int .i64 al,.int .i64 am,.slice aP aj.length aQ,.slice aR ak.length aS,.string an] 26 (0,0)) (by (with_reducible repeat (first | refine zj ?_ _ | refine zl ?_ | refine zk ?_ _)); exact ac.out)) : ai ≠ ah)); have bB := zzk ((by rw [hg]; exact Nat.ne_of_gt (zq (g := ai) (o := .cells #[.int .i64 al,.int .i64 am,.slice aP aj.length aQ,.slice aR ak.length aS,.string an] 26 (0,0)) (by (with_reducible repeat (first | refine zj ?_ _ | refine zl ?_ | refine zk ?_ _)); exact ac.out)) : ah ≠ ai)); have aX := zzk ((by rw [hg]; exact Nat.ne_of_lt (zq (g := ag) (o := .cells #[.int .i64 av,.int .i64 aw,.int .i64 ax,.int .i64 ay,.slice bb ap.length bc,.slice bd aq.length be,.int .i64 az,.string ao,.bool aA] 34 (0,0)) (by (with_reducible repeat (first | refine zj ?_ _ | refine zl ?_ | refine zk ?_ _)); exact ab.out)) : ag ≠ ah)); have bh := zzk ((by rw [hg]; exact Nat.ne_of_gt (zq (g := ag) (o := .cells #[.int .i64 av,.int .i64 aw,.int .i64 ax,.int .i64 ay,.slice bb ap.length bc,.slice bd aq.length be,.int .i64 az,.string ao,.bool aA] 34 (0,0)) (by (with_reducible repeat (first | refine zj ?_ _ | refine zl ?_ | refine zk ?_ _)); exact ab.out)) : ah ≠ ag)); clear bt; clear bu; clear ac; clear ab; clear HB; have bt := aI; have bu := aJ; have ac := aK; have ab := ba; have HB := bk; have af := bl; have nm := bm; have bs := bv; have cg := bA; have cY := bB; have ch := aX; have cZ := bh; clear aI aJ aK ba bk bl bm bv bA bB aX bh; clear hb hbox hg; have nn := cY.out; have np := cg.out; have nq := cZ.out; have nr := ch.out; have fR : df.cell? ⟨ah,0,none⟩ = some (.int .i64 0) := (zi af.out 0).trans rfl; have fS : df.cell? ⟨ah,1,none⟩ = some (.int .i64 0) := (zi af.out 1).trans rfl; have fT : df.cell? ⟨ah,2,none⟩ = some (.slice none 0 0) := (zi af.out 2).trans rfl; have fU : df.cell? ⟨ah,3,none⟩ = some (.slice none 0 0) := (zi af.out 3).trans rfl; have fV : df.cell? ⟨ah,4,none⟩ = some (.string (⟨#[]⟩ : ByteArray)) := (zi af.out 4).trans rfl; have fW := zm af.out 0; have fX := zm af.out 1; have fY := zm af.out 2; have fZ := zm af.out 3; have ga := zm af.out 4; obtain ⟨bU,bQ,eo37⟩ := zz bt.out; subst eo37; obtain ⟨bY,bV,eo38⟩ := zz bu.out; subst eo38; have gb : df.cell? ⟨ai,0,none⟩ = some (.int .i64 al) := (zi ac.out 0).trans rfl; have gc : df.cell? ⟨ai,1,none⟩ = some (.int .i64 am) := (zi ac.out 1).trans rfl; have gd : df.cell? ⟨ai,2,none⟩ = some (.slice aP aj.length aQ) := (zi ac.out 2).trans rfl; have gf : df.cell? ⟨ai,3,none⟩ = some (.slice aR ak.length aS) := (zi ac.out 3).trans rfl; have gg : df.cell? ⟨ai,4,none⟩ = some (.string an) := (zi ac.out 4).trans rfl; have gh := zm ac.out 0; have gi := zm ac.out 1; have gj := zm ac.out 2; have gl := zm ac.out 3; have gm := zm ac.out 4) | ((with_reducible refine zza (f := 14) rfl ?_); refine zzd (some 36) rfl rfl Try.func14 (by kernel_rfl) rfl #[.int .i64 a0,.int .i64 a1,.agg #[.int .i64 al,.int .i64 am,.slice aP aj.length aQ,.slice aR ak.length aS,.string an]] rfl (by (try simp only [zd,ze,zf]); first | done | rfl | (simp only [zg,zh]; rfl)) ?_; (with_reducible refine (chunk_Begin.calls cp a0 a1 al am _ _ aj _ _ ak an aF aH aM aN bf bg aU aV aW dr _ ?side1 ?side2 ?side3 ?side4 mD.out).mono ?_); (case side1 => exact Zm cS.out (by repeat (first | (with_reducible first | exact HB.out | apply Zq | apply Zp | apply Zo | refine Zn ?_ aC.out | refine Zn ?_ aE.out | refine Zn ?_ bs.out) | exact HB.out))); (case side2 => exact cT.out); (case side3 => exact Zm cU.out (by repeat (first | (with_reducible first | exact HB.out | apply Zq | apply Zp | apply Zo | refine Zn ?_ aC.out | refine Zn ?_ aE.out | refine Zn ?_ bs.out) | exact HB.out))); (case side4 => exact cV.out); rintro e oD ⟨oq,os,rfl,ho0,ho1,hb⟩; refine ⟨_,rfl,?_⟩; have aI := zzk (zx (Zc (Zc (Kd.R_old (by (with_reducible repeat (first | apply zu | apply zt | apply zs)); exact (zx (zr (p := ⟨ah,4,none⟩) (zr (p := ⟨ah,3,none⟩) (zr (p := ⟨ah,2,none⟩) (zr (p := ⟨ah,1,none⟩) (zr (p := ⟨ah,0,none⟩) (zy bt.out af.out (by decide)) (fun _ hk => hk.2) (.int .i64 aG)) (fun _ hk => hk.2) (.int .i64 aL)) (fun _ hk => hk.2) (.slice bU bn.length bQ)) (fun _ hk => hk.2) (.slice bY br.length bV)) (fun _ hk => hk.2) (.string aT)) (fun _ h_ => h_.1))) hb) (Zd ho0)) (Zd ho1)) (fun _ h_ => h_.1)); have aJ := zzk (zx (Zc (Zc (Kd.R_old (by (with_reducible repeat (first | apply zu | apply zt | apply zs)); exact (zx (zr (p := ⟨ah,4,none⟩) (zr (p := ⟨ah,3,none⟩) (zr (p := ⟨ah,2,none⟩) (zr (p := ⟨ah,1,none⟩) (zr (p := ⟨ah,0,none⟩) (zy bu.out af.out (by decide)) (fun _ hk => hk.2) (.int .i64 aG)) (fun _ hk => hk.2) (.int .i64 aL)) (fun _ hk => hk.2) (.slice bU bn.length bQ)) (fun _ hk => hk.2) (.slice bY br.length bV)) (fun _ hk => hk.2) (.string aT)) (fun _ h_ => h_.1))) hb) (Zd ho0)) (Zd ho1)) (fun _ h_ => h_.1)); have aK := zzk (Za (Zb (Zb ho0 (Kd.R_lt (by (with_reducible repeat (first | apply zu | apply zt | apply zs)); exact (zx (zr (p := ⟨ah,4,none⟩) (zr (p := ⟨ah,3,none⟩) (zr (p := ⟨ah,2,none⟩) (zr (p := ⟨ah,1,none⟩) (zr (p := ⟨ah,0,none⟩) (zy bt.out af.out (by decide)) (fun _ hk => hk.2) (.int .i64 aG)) (fun _ hk => hk.2) (.int .i64 aL)) (fun _ hk => hk.2) (.slice bU bn.length bQ)) (fun _ hk => hk.2) (.slice bY br.length bV)) (fun _ hk => hk.2) (.string aT)) (fun _ h_ => h_.1))))) (Kd.R_lt (by (with_reducible repeat (first | apply zu | apply zt | apply zs)); exact (zx (zr (p := ⟨ah,4,none⟩) (zr (p := ⟨ah,3,none⟩) (zr (p := ⟨ah,2,none⟩) (zr (p := ⟨ah,1,none⟩) (zr (p := ⟨ah,0,none⟩) (zy bu.out af.out (by decide)) (fun _ hk => hk.2) (.int .i64 aG)) (fun _ hk => hk.2) (.int .i64 aL)) (fun _ hk => hk.2) (.slice bU bn.length bQ)) (fun _ hk => hk.2) (.slice bY br.length bV)) (fun _ hk => hk.2) (.string aT)) (fun _ h_ => h_.1))))) (Zr (by repeat (first | (with_reducible first | exact HB.out | apply Zq | apply Zp | apply Zo | refine Zn ?_ aC.out | refine Zn ?_ aE.out | refine Zn ?_ bs.out) | exact HB.out)))); have ba := zzk (Za (Zb (Zb ho1 (Kd.R_lt (by (with_reducible repeat (first | apply zu | apply zt | apply zs)); exact (zx (zr (p := ⟨ah,4,none⟩) (zr (p := ⟨ah,3,none⟩) (zr (p := ⟨ah,2,none⟩) (zr (p := ⟨ah,1,none⟩) (zr (p := ⟨ah,0,none⟩) (zy bt.out af.out (by decide)) (fun _ hk => hk.2) (.int .i64 aG)) (fun _ hk => hk.2) (.int .i64 aL)) (fun _ hk => hk.2) (.slice bU bn.length bQ)) (fun _ hk => hk.2) (.slice bY br.length bV)) (fun _ hk => hk.2) (.string aT)) (fun _ h_ => h_.1))))) (Kd.R_lt (by (with_reducible repeat (first | apply zu | apply zt | apply zs)); exact (zx (zr (p := ⟨ah,4,none⟩) (zr (p := ⟨ah,3,none⟩) (zr (p := ⟨ah,2,none⟩) (zr (p := ⟨ah,1,none⟩) (zr (p := ⟨ah,0,none⟩) (zy bu.out af.out (by decide)) (fun _ hk => hk.2) (.int .i64 aG)) (fun _ hk => hk.2) (.int .i64 aL)) (fun _ hk => hk.2) (.slice bU bn.length bQ)) (fun _ hk => hk.2) (.slice bY br.length bV)) (fun _ hk => hk.2) (.string aT)) (fun _ h_ => h_.1))))) (Zr (by repeat (first | (with_reducible first | exact HB.out | apply Zq | apply Zp | apply Zo | refine Zn ?_ aC.out | refine Zn ?_ aE.out | refine Zn ?_ bs.out) | exact HB.out)))); have bk := zzk (zo (g := ai) (o := .cells #[.int .i64 al,.int .i64 am,.slice aP aj.length aQ,.slice aR ak.length aS,.string an] 26 (0,0)) (by (with_reducible repeat (first | refine zj ?_ _ | refine zl ?_ | refine zk ?_ _)); refine zn ?_ cg.out _; (with_reducible repeat (first | refine zj ?_ _ | refine zl ?_ | refine zk ?_ _)); refine zn ?_ cg.out _; (with_reducible repeat (first | refine zj ?_ _ | refine zl ?_ | refine zk ?_ _)); refine zn ?_ cg.out _; (with_reducible repeat (first | refine zj ?_ _ | refine zl ?_ | refine zk ?_ _)); refine zn ?_ cg.out _; (with_reducible repeat (first | refine zj ?_ _ | refine zl ?_ | refine zk ?_ _)); refine zn ?_ cg.out _; (with_reducible repeat (first | refine zj ?_ _ | refine zl ?_ | refine zk ?_ _)); exact ac.out) hb); have bl := zzk (zo (g := ag) (o := .cells #[.int .i64 av,.int .i64 aw,.int .i64 ax,.int .i64 ay,.slice bb ap.length bc,.slice bd aq.length be,.int .i64 az,.string ao,.bool aA] 34 (0,0)) (by (with_reducible repeat (first | refine zj ?_ _ | refine zl ?_ | refine zk ?_ _)); refine zn ?_ ch.out _; (with_reducible repeat (first | refine zj ?_ _ | refine zl ?_ | refine zk ?_ _)); refine zn ?_ ch.out _; (with_reducible repeat (first | refine zj ?_ _ | refine zl ?_ | refine zk ?_ _)); refine zn ?_ ch.out _; (with_reducible repeat (first | refine zj ?_ _ | refine zl ?_ | refine zk ?_ _)); refine zn ?_ ch.out _; (with_reducible repeat (first | refine zj ?_ _ | refine zl ?_ | refine zk ?_ _)); refine zn ?_ ch.out _; (with_reducible repeat (first | refine zj ?_ _ | refine zl ?_ | refine zk ?_ _)); exact ab.out) hb); have bm := zzk (zo (g := ah) (o := .cells #[.int .i64 aG,.int .i64 aL,.slice bU bn.length bQ,.slice bY br.length bV,.string aT] 26 (0,0)) (by (with_reducible repeat (first | refine zj ?_ _ | refine zl ?_ | refine zk ?_ _)); refine zp (cs := #[.int .i64 aG,.int .i64 aL,.slice bU bn.length bQ,.slice bY br.length bV,.string (⟨#[]⟩ : ByteArray)]) ?_ 4 _ rfl; (with_reducible repeat (first | refine zj ?_ _ | refine zl ?_ | refine zk ?_ _)); refine zp (cs := #[.int .i64 aG,.int .i64 aL,.slice bU bn.length bQ,.slice none 0 0,.string (⟨#[]⟩ : ByteArray)]) ?_ 3 _ rfl; (with_reducible repeat (first | refine zj ?_ _ | refine zl ?_ | refine zk ?_ _)); refine zp (cs := #[.int .i64 aG,.int .i64 aL,.slice none 0 0,.slice none 0 0,.string (⟨#[]⟩ : ByteArray)]) ?_ 2 _ rfl; (with_reducible repeat (first | refine zj ?_ _ | refine zl ?_ | refine zk ?_ _)); refine zp (cs := #[.int .i64 aG,.int .i64 0,.slice none 0 0,.slice none 0 0,.string (⟨#[]⟩ : ByteArray)]) ?_ 1 _ rfl; (with_reducible repeat (first | refine zj ?_ _ | refine zl ?_ | refine zk ?_ _)); refine zp (cs := #[.int .i64 0,.int .i64 0,.slice none 0 0,.slice none 0 0,.string (⟨#[]⟩ : ByteArray)]) ?_ 0 _ rfl; (with_reducible repeat (first | refine zj ?_ _ | refine zl ?_ | refine zk ?_ _)); exact af.out) hb); have bv := zzk (Zs (by repeat (first | (with_reducible first | exact HB.out | apply Zq | apply Zp | apply Zo | refine Zn ?_ aC.out | refine Zn ?_ aE.out | refine Zn ?_ bs.out) | exact HB.out)) hb); clear bt; clear bu; clear ac; clear ab; clear af; clear HB; have bt := aI; have bu := aJ; have cb := aK; have cc := ba; have ac := bk; have ab := bl; have af := bm; have HB := bv; clear aI aJ aK ba bk bl bm bv; (try clear hb); (try clear hb2); (try clear hk); (try clear hi); (try clear ho0); (try clear ho1)) | ((with_reducible refine Zy (N := 10) rfl ?_); (try (refine Zz (by rfl) ?_; dsimp only)); refine zzc ?hg (N := 10) ?hd (cs := #[.int .i64 0,.int .i64 0,.int .i64 0,.int .i64 0,.slice none 0 0,.slice none 0 0,.int .i64 0,.string (⟨#[]⟩ : ByteArray),.bool false]) (t := 34) ?hr ?_; (case hd => rfl); (case hg => rfl); (case hr => first | (go_simp; done) | (go_simp; rfl)); intro aa hg cD hbox hb; have aI := zzk (zv (by (with_reducible repeat (first | apply zu | apply zt | apply zs)); exact bt.out) hb); have aJ := zzk (zv (by (with_reducible repeat (first | apply zu | apply zt | apply zs)); exact bu.out) hb); have aK := zzk (zv (by (with_reducible repeat (first | apply zu | apply zt | apply zs)); exact cb.out) hb); have ba := zzk (zv (by (with_reducible repeat (first | apply zu | apply zt | apply zs)); exact cc.out) hb); have bk := zzk (zo (g := ai) (o := .cells #[.int .i64 al,.int .i64 am,.slice aP aj.length aQ,.slice aR ak.length aS,.string an] 26 (0,0)) (by (with_reducible repeat (first | refine zj ?_ _ | refine zl ?_ | refine zk ?_ _)); exact ac.out) hb); have bl := zzk (zo (g := ag) (o := .cells #[.int .i64 av,.int .i64 aw,.int .i64 ax,.int .i64 ay,.slice bb ap.length bc,.slice bd aq.length be,.int .i64 az,.string ao,.bool aA] 34 (0,0)) (by (with_reducible repeat (first | refine zj ?_ _ | refine zl ?_ | refine zk ?_ _)); exact ab.out) hb); have bm := zzk (zo (g := ah) (o := .cells #[.int .i64 aG,.int .i64 aL,.slice bU bn.length bQ,.slice bY br.length bV,.string aT] 26 (0,0)) (by (with_reducible repeat (first | refine zj ?_ _ | refine zl ?_ | refine zk ?_ _)); exact af.out) hb); have bv := zzk (Zs (by repeat (first | (with_reducible first | exact HB.out | apply Zq | apply Zp | apply Zo | refine Zn ?_ aC.out | refine Zn ?_ aE.out | refine Zn ?_ bs.out) | exact HB.out)) hb); have bA := zzk (hbox); have bB := zzk ((by rw [hg]; exact (Zr (by repeat (first | (with_reducible first | exact HB.out | apply Zq | apply Zp | apply Zo | refine Zn ?_ aC.out | refine Zn ?_ aE.out | refine Zn ?_ bs.out) | exact HB.out))) : w.heap.size ≤ aa)); have aX := zzk ((by rw [hg]; exact (Zr (by repeat (first | (with_reducible first | exact HB.out | apply Zq | apply Zp | apply Zo | refine Zn ?_ aC.out | refine Zn ?_ aE.out | refine Zn ?_ bs.out) | exact HB.out))) : w.heap.size ≤ aa)); have bh := zzk ((by rw [hg]; exact Nat.ne_of_lt (zq (g := ai) (o := .cells #[.int .i64 al,.int .i64 am,.slice aP aj.length aQ,.slice aR ak.length aS,.string an] 26 (0,0)) (by (with_reducible repeat (first | refine zj ?_ _ | refine zl ?_ | refine zk ?_ _)); exact ac.out)) : ai ≠ aa)); have dx := zzk ((by rw [hg]; exact Nat.ne_of_gt (zq (g := ai) (o := .cells #[.int .i64 al,.int .i64 am,.slice aP aj.length aQ,.slice aR ak.length aS,.string an] 26 (0,0)) (by (with_reducible repeat (first | refine zj ?_ _ | refine zl ?_ | refine zk ?_ _)); exact ac.out)) : aa ≠ ai)); have dy := zzk ((by rw [hg]; exact Nat.ne_of_lt (zq (g := ag) (o := .cells #[.int .i64 av,.int .i64 aw,.int .i64 ax,.int .i64 ay,.slice bb ap.length bc,.slice bd aq.length be,.int .i64 az,.string ao,.bool aA] 34 (0,0)) (by (with_reducible repeat (first | refine zj ?_ _ | refine zl ?_ | refine zk ?_ _)); exact ab.out)) : ag ≠ aa)); have dz := zzk ((by rw [hg]; exact Nat.ne_of_gt (zq (g := ag) (o := .cells #[.int .i64 av,.int .i64 aw,.int .i64 ax,.int .i64 ay,.slice bb ap.length bc,.slice bd aq.length be,.int .i64 az,.string ao,.bool aA] 34 (0,0)) (by (with_reducible repeat (first | refine zj ?_ _ | refine zl ?_ | refine zk ?_ _)); exact ab.out)) : aa ≠ ag)); have dA := zzk ((by rw [hg]; exact Nat.ne_of_lt (zq (g := ah) (o := .cells #[.int .i64 aG,.int .i64 aL,.slice bU bn.length bQ,.slice bY br.length bV,.string aT] 26 (0,0)) (by (with_reducible repeat (first | refine zj ?_ _ | refine zl ?_ | refine zk ?_ _)); exact af.out)) : ah ≠ aa)); have dB := zzk ((by rw [hg]; exact Nat.ne_of_gt (zq (g := ah) (o := .cells #[.int .i64 aG,.int .i64 aL,.slice bU bn.length bQ,.slice bY br.length bV,.string aT] 26 (0,0)) (by (with_reducible repeat (first | refine zj ?_ _ | refine zl ?_ | refine zk ?_ _)); exact af.out)) : aa ≠ ah)); clear bt; clear bu; clear cb; clear cc; clear ac; clear ab; clear af; clear HB; have bt := aI; have bu := aJ; have cb := aK; have cc := ba; have ac := bk; have ab := bl; have af := bm; have HB := bv; have ad := bA; have ns := bB; have bZ := aX; have bC := bh; have cE := dx; have bD := dy; have cF := dz; have bE := dA; have cG := dB; clear aI aJ aK ba bk bl bm bv bA bB aX bh dx dy dz dA dB; clear hb hbox hg; have nt := cE.out; have nu := bC.out; have nv := cF.out; have nw := bD.out; have nx := cG.out; have ny := bE.out; have gn : cD.cell? ⟨aa,0,none⟩ = some (.int .i64 0) := (zi ad.out 0).trans rfl; have gp : cD.cell? ⟨aa,1,none⟩ = some (.int .i64 0) := (zi ad.out 1).trans rfl; have gq : cD.cell? ⟨aa,2,none⟩ = some (.int .i64 0) := (zi ad.out 2).trans rfl; have gr : cD.cell? ⟨aa,3,none⟩ = some (.int .i64 0) := (zi ad.out 3).trans rfl; have gs : cD.cell? ⟨aa,4,none⟩ = some (.slice none 0 0) := (zi ad.out 4).trans rfl; have gu : cD.cell? ⟨aa,5,none⟩ = some (.slice none 0 0) := (zi ad.out 5).trans rfl; have gv : cD.cell? ⟨aa,6,none⟩ = some (.int .i64 0) := (zi ad.out 6).trans rfl; have gw : cD.cell? ⟨aa,7,none⟩ = some (.string (⟨#[]⟩ : ByteArray)) := (zi ad.out 7).trans rfl; have gx : cD.cell? ⟨aa,8,none⟩ = some (.bool false) := (zi ad.out 8).trans rfl; have gy := zm ad.out 0; have gz := zm ad.out 1; have gA := zm ad.out 2; have gB := zm ad.out 3; have gC := zm ad.out 4; have gD := zm ad.out 5; have gE := zm ad.out 6; have gF := zm ad.out 7; have gG := zm ad.out 8; obtain ⟨bH,bz,eo46⟩ := zz cb.out; subst eo46; obtain ⟨bK,bI,eo47⟩ := zz cc.out; subst eo47; have gH : cD.cell? ⟨ah,0,none⟩ = some (.int .i64 aG) := (zi af.out 0).trans rfl; have gI : cD.cell? ⟨ah,1,none⟩ = some (.int .i64 aL) := (zi af.out 1).trans rfl; have gJ : cD.cell? ⟨ah,2,none⟩ = some (.slice bU bn.length bQ) := (zi af.out 2).trans rfl; have gK : cD.cell? ⟨ah,3,none⟩ = some (.slice bY br.length bV) := (zi af.out 3).trans rfl; have gL : cD.cell? ⟨ah,4,none⟩ = some (.string aT) := (zi af.out 4).trans rfl; have gM := zm af.out 0; have gN := zm af.out 1; have gO := zm af.out 2; have gP := zm af.out 3; have gQ := zm af.out 4) | ((with_reducible refine zza (f := 15) rfl ?_); refine zzd (some 43) rfl rfl Try.func15 (by kernel_rfl) rfl #[.int .i64 a0,.int .i64 a1,.agg #[.int .i64 aG,.int .i64 aL,.slice bU bn.length bQ,.slice bY br.length bV,.string aT]] rfl (by (try simp only [zd,ze,zf]); first | done | rfl | (simp only [zg,zh]; rfl)) ?_; (with_reducible refine (r16_Begin.calls cp a0 a1 aG aL _ _ bn _ _ br aT bw bx bG bJ bW ca bP bT bX dw _ ?side1 ?side2 ?side3 ?side4 mE.out).mono ?_); (case side1 => refine (zw (e := 3) (base := w.heap.size) (ok := fun k_ => ((some k_ ≠ (.slice bY br.length bV : Value).ownBlock ∧ some k_ ≠ (.slice bH bf.length bz : Value).ownBlock) ∧ some k_ ≠ (.slice bK bg.length bI : Value).ownBlock)) (n := bn.length) (c := bQ) ?_).2.2; exact (by (with_reducible repeat (first | apply zu | apply zt | apply zs)); exact (zx (zr (p := ⟨aa,8,none⟩) (zr (p := ⟨aa,7,none⟩) (zr (p := ⟨aa,6,none⟩) (zr (p := ⟨aa,5,none⟩) (zr (p := ⟨aa,4,none⟩) (zr (p := ⟨aa,3,none⟩) (zr (p := ⟨aa,2,none⟩) (zr (p := ⟨aa,1,none⟩) (zr (p := ⟨aa,0,none⟩) (zy bt.out ad.out (by decide)) (fun _ hk => hk.2) (.int .i64 aF)) (fun _ hk => hk.2) (.int .i64 aH)) (fun _ hk => hk.2) (.int .i64 aM)) (fun _ hk => hk.2) (.int .i64 aN)) (fun _ hk => hk.2) (.slice bH bf.length bz)) (fun _ hk => hk.2) (.slice bK bg.length bI)) (fun _ hk => hk.2) (.int .i64 aU)) (fun _ hk => hk.2) (.string aV)) (fun _ hk => hk.2) (.bool aW)) (fun _ h_ => h_.1)))); (case side2 => exact (zw bt.out).2.1); (case side3 => refine (zw (e := 3) (base := w.heap.size) (ok := fun k_ => ((some k_ ≠ (.slice bU bn.length bQ : Value).ownBlock ∧ some k_ ≠ (.slice bH bf.length bz : Value).ownBlock) ∧ some k_ ≠ (.slice bK bg.length bI : Value).ownBlock)) (n := br.length) (c := bV) ?_).2.2; exact (by (with_reducible repeat (first | apply zu | apply zt | apply zs)); exact (zx (zr (p := ⟨aa,8,none⟩) (zr (p := ⟨aa,7,none⟩) (zr (p := ⟨aa,6,none⟩) (zr (p := ⟨aa,5,none⟩) (zr (p := ⟨aa,4,none⟩) (zr (p := ⟨aa,3,none⟩) (zr (p := ⟨aa,2,none⟩) (zr (p := ⟨aa,1,none⟩) (zr (p := ⟨aa,0,none⟩) (zy bu.out ad.out (by decide)) (fun _ hk => hk.2) (.int .i64 aF)) (fun _ hk => hk.2) (.int .i64 aH)) (fun _ hk => hk.2) (.int .i64 aM)) (fun _ hk => hk.2) (.int .i64 aN)) (fun _ hk => hk.2) (.slice bH bf.length bz)) (fun _ hk => hk.2) (.slice bK bg.length bI)) (fun _ hk => hk.2) (.int .i64 aU)) (fun _ hk => hk.2) (.string aV)) (fun _ hk => hk.2) (.bool aW)) (fun _ h_ => h_.1)))); (case side4 => exact (zw bu.out).2.1); rintro e oE ⟨ot,ou,rfl,ho0,ho1,hb⟩; refine ⟨_,rfl,?_⟩; have aI := zzk (zx (Zc (Zc (Kd.R_old (by (with_reducible repeat (first | apply zu | apply zt | apply zs)); exact (zx (zr (p := ⟨aa,8,none⟩) (zr (p := ⟨aa,7,none⟩) (zr (p := ⟨aa,6,none⟩) (zr (p := ⟨aa,5,none⟩) (zr (p := ⟨aa,4,none⟩) (zr (p := ⟨aa,3,none⟩) (zr (p := ⟨aa,2,none⟩) (zr (p := ⟨aa,1,none⟩) (zr (p := ⟨aa,0,none⟩) (zy bt.out ad.out (by decide)) (fun _ hk => hk.2) (.int .i64 aF)) (fun _ hk => hk.2) (.int .i64 aH)) (fun _ hk => hk.2) (.int .i64 aM)) (fun _ hk => hk.2) (.int .i64 aN)) (fun _ hk => hk.2) (.slice bH bf.length bz)) (fun _ hk => hk.2) (.slice bK bg.length bI)) (fun _ hk => hk.2) (.int .i64 aU)) (fun _ hk => hk.2) (.string aV)) (fun _ hk => hk.2) (.bool aW)) (fun _ h_ => h_.1))) hb) (Zd ho0)) (Zd ho1)) (fun _ h_ => h_.1)); have aJ := zzk (zx (Zc (Zc (Kd.R_old (by (with_reducible repeat (first | apply zu | apply zt | apply zs)); exact (zx (zr (p := ⟨aa,8,none⟩) (zr (p := ⟨aa,7,none⟩) (zr (p := ⟨aa,6,none⟩) (zr (p := ⟨aa,5,none⟩) (zr (p := ⟨aa,4,none⟩) (zr (p := ⟨aa,3,none⟩) (zr (p := ⟨aa,2,none⟩) (zr (p := ⟨aa,1,none⟩) (zr (p := ⟨aa,0,none⟩) (zy bu.out ad.out (by decide)) (fun _ hk => hk.2) (.int .i64 aF)) (fun _ hk => hk.2) (.int .i64 aH)) (fun _ hk => hk.2) (.int .i64 aM)) (fun _ hk => hk.2) (.int .i64 aN)) (fun _ hk => hk.2) (.slice bH bf.length bz)) (fun _ hk => hk.2) (.slice bK bg.length bI)) (fun _ hk => hk.2) (.int .i64 aU)) (fun _ hk => hk.2) (.string aV)) (fun _ hk => hk.2) (.bool aW)) (fun _ h_ => h_.1))) hb) (Zd ho0)) (Zd ho1)) (fun _ h_ => h_.1)); have aK := zzk (zx (Zc (Zc (Kd.R_old (by (with_reducible repeat (first | apply zu | apply zt | apply zs)); exact (zx (zr (p := ⟨aa,8,none⟩) (zr (p := ⟨aa,7,none⟩) (zr (p := ⟨aa,6,none⟩) (zr (p := ⟨aa,5,none⟩) (zr (p := ⟨aa,4,none⟩) (zr (p := ⟨aa,3,none⟩) (zr (p := ⟨aa,2,none⟩) (zr (p := ⟨aa,1,none⟩) (zr (p := ⟨aa,0,none⟩) (zy cb.out ad.out (by decide)) (fun _ hk => hk.2) (.int .i64 aF)) (fun _ hk => hk.2) (.int .i64 aH)) (fun _ hk => hk.2) (.int .i64 aM)) (fun _ hk => hk.2) (.int .i64 aN)) (fun _ hk => hk.2) (.slice bH bf.length bz)) (fun _ hk => hk.2) (.slice bK bg.length bI)) (fun _ hk => hk.2) (.int .i64 aU)) (fun _ hk => hk.2) (.string aV)) (fun _ hk => hk.2) (.bool aW)) (fun _ h_ => h_.1))) hb) (Zd ho0)) (Zd ho1)) (fun _ h_ => h_.1)); have ba := zzk (zx (Zc (Zc (Kd.R_old (by (with_reducible repeat (first | apply zu | apply zt | apply zs)); exact (zx (zr (p := ⟨aa,8,none⟩) (zr (p := ⟨aa,7,none⟩) (zr (p := ⟨aa,6,none⟩) (zr (p := ⟨aa,5,none⟩) (zr (p := ⟨aa,4,none⟩) (zr (p := ⟨aa,3,none⟩) (zr (p := ⟨aa,2,none⟩) (zr (p := ⟨aa,1,none⟩) (zr (p := ⟨aa,0,none⟩) (zy cc.out ad.out (by decide)) (fun _ hk => hk.2) (.int .i64 aF)) (fun _ hk => hk.2) (.int .i64 aH)) (fun _ hk => hk.2) (.int .i64 aM)) (fun _ hk => hk.2) (.int .i64 aN)) (fun _ hk => hk.2) (.slice bH bf.length bz)) (fun _ hk => hk.2) (.slice bK bg.length bI)) (fun _ hk => hk.2) (.int .i64 aU)) (fun _ hk => hk.2) (.string aV)) (fun _ hk => hk.2) (.bool aW)) (fun _ h_ => h_.1))) hb) (Zd ho0)) (Zd ho1)) (fun _ h_ => h_.1)); have bk := zzk (Za (Zb (Zb (Zb (Zb ho0 (Kd.R_lt (by (with_reducible repeat (first | apply zu | apply zt | apply zs)); exact (zx (zr (p := ⟨aa,8,none⟩) (zr (p := ⟨aa,7,none⟩) (zr (p := ⟨aa,6,none⟩) (zr (p := ⟨aa,5,none⟩) (zr (p := ⟨aa,4,none⟩) (zr (p := ⟨aa,3,none⟩) (zr (p := ⟨aa,2,none⟩) (zr (p := ⟨aa,1,none⟩) (zr (p := ⟨aa,0,none⟩) (zy bt.out ad.out (by decide)) (fun _ hk => hk.2) (.int .i64 aF)) (fun _ hk => hk.2) (.int .i64 aH)) (fun _ hk => hk.2) (.int .i64 aM)) (fun _ hk => hk.2) (.int .i64 aN)) (fun _ hk => hk.2) (.slice bH bf.length bz)) (fun _ hk => hk.2) (.slice bK bg.length bI)) (fun _ hk => hk.2) (.int .i64 aU)) (fun _ hk => hk.2) (.string aV)) (fun _ hk => hk.2) (.bool aW)) (fun _ h_ => h_.1))))) (Kd.R_lt (by (with_reducible repeat (first | apply zu | apply zt | apply zs)); exact (zx (zr (p := ⟨aa,8,none⟩) (zr (p := ⟨aa,7,none⟩) (zr (p := ⟨aa,6,none⟩) (zr (p := ⟨aa,5,none⟩) (zr (p := ⟨aa,4,none⟩) (zr (p := ⟨aa,3,none⟩) (zr (p := ⟨aa,2,none⟩) (zr (p := ⟨aa,1,none⟩) (zr (p := ⟨aa,0,none⟩) (zy bu.out ad.out (by decide)) (fun _ hk => hk.2) (.int .i64 aF)) (fun _ hk => hk.2) (.int .i64 aH)) (fun _ hk => hk.2) (.int .i64 aM)) (fun _ hk => hk.2) (.int .i64 aN)) (fun _ hk => hk.2) (.slice bH bf.length bz)) (fun _ hk => hk.2) (.slice bK bg.length bI)) (fun _ hk => hk.2) (.int .i64 aU)) (fun _ hk => hk.2) (.string aV)) (fun _ hk => hk.2) (.bool aW)) (fun _ h_ => h_.1))))) (Kd.R_lt (by (with_reducible repeat (first | apply zu | apply zt | apply zs)); exact (zx (zr (p := ⟨aa,8,none⟩) (zr (p := ⟨aa,7,none⟩) (zr (p := ⟨aa,6,none⟩) (zr (p := ⟨aa,5,none⟩) (zr (p := ⟨aa,4,none⟩) (zr (p := ⟨aa,3,none⟩) (zr (p := ⟨aa,2,none⟩) (zr (p := ⟨aa,1,none⟩) (zr (p := ⟨aa,0,none⟩) (zy cb.out ad.out (by decide)) (fun _ hk => hk.2) (.int .i64 aF)) (fun _ hk => hk.2) (.int .i64 aH)) (fun _ hk => hk.2) (.int .i64 aM)) (fun _ hk => hk.2) (.int .i64 aN)) (fun _ hk => hk.2) (.slice bH bf.length bz)) (fun _ hk => hk.2) (.slice bK bg.length bI)) (fun _ hk => hk.2) (.int .i64 aU)) (fun _ hk => hk.2) (.string aV)) (fun _ hk => hk.2) (.bool aW)) (fun _ h_ => h_.1))))) (Kd.R_lt (by (with_reducible repeat (first | apply zu | apply zt | apply zs)); exact (zx (zr (p := ⟨aa,8,none⟩) (zr (p := ⟨aa,7,none⟩) (zr (p := ⟨aa,6,none⟩) (zr (p := ⟨aa,5,none⟩) (zr (p := ⟨aa,4,none⟩) (zr (p := ⟨aa,3,none⟩) (zr (p := ⟨aa,2,none⟩) (zr (p := ⟨aa,1,none⟩) (zr (p := ⟨aa,0,none⟩) (zy cc.out ad.out (by decide)) (fun _ hk => hk.2) (.int .i64 aF)) (fun _ hk => hk.2) (.int .i64 aH)) (fun _ hk => hk.2) (.int .i64 aM)) (fun _ hk => hk.2) (.int .i64 aN)) (fun _ hk => hk.2) (.slice bH bf.length bz)) (fun _ hk => hk.2) (.slice bK bg.length bI)) (fun _ hk => hk.2) (.int .i64 aU)) (fun _ hk => hk.2) (.string aV)) (fun _ hk => hk.2) (.bool aW)) (fun _ h_ => h_.1))))) (Zr (by repeat (first | (with_reducible first | exact HB.out | apply Zq | apply Zp | apply Zo | refine Zn ?_ aC.out | refine Zn ?_ aE.out | refine Zn ?_ bs.out | refine Zn ?_ bZ.out) | exact HB.out)))); have bl := zzk (Za (Zb (Zb (Zb (Zb ho1 (Kd.R_lt (by (with_reducible repeat (first | apply zu | apply zt | apply zs)); exact (zx (zr (p := ⟨aa,8,none⟩) (zr (p := ⟨aa,7,none⟩) (zr (p := ⟨aa,6,none⟩) (zr (p := ⟨aa,5,none⟩) (zr (p := ⟨aa,4,none⟩) (zr (p := ⟨aa,3,none⟩) (zr (p := ⟨aa,2,none⟩) (zr (p := ⟨aa,1,none⟩) (zr (p := ⟨aa,0,none⟩) (zy bt.out ad.out (by decide)) (fun _ hk => hk.2) (.int .i64 aF)) (fun _ hk => hk.2) (.int .i64 aH)) (fun _ hk => hk.2) (.int .i64 aM)) (fun _ hk => hk.2) (.int .i64 aN)) (fun _ hk => hk.2) (.slice bH bf.length bz)) (fun _ hk => hk.2) (.slice bK bg.length bI)) (fun _ hk => hk.2) (.int .i64 aU)) (fun _ hk => hk.2) (.string aV)) (fun _ hk => hk.2) (.bool aW)) (fun _ h_ => h_.1))))) (Kd.R_lt (by (with_reducible repeat (first | apply zu | apply zt | apply zs)); exact (zx (zr (p := ⟨aa,8,none⟩) (zr (p := ⟨aa,7,none⟩) (zr (p := ⟨aa,6,none⟩) (zr (p := ⟨aa,5,none⟩) (zr (p := ⟨aa,4,none⟩) (zr (p := ⟨aa,3,none⟩) (zr (p := ⟨aa,2,none⟩) (zr (p := ⟨aa,1,none⟩) (zr (p := ⟨aa,0,none⟩) (zy bu.out ad.out (by decide)) (fun _ hk => hk.2) (.int .i64 aF)) (fun _ hk => hk.2) (.int .i64 aH)) (fun _ hk => hk.2) (.int .i64 aM)) (fun _ hk => hk.2) (.int .i64 aN)) (fun _ hk => hk.2) (.slice bH bf.length bz)) (fun _ hk => hk.2) (.slice bK bg.length bI)) (fun _ hk => hk.2) (.int .i64 aU)) (fun _ hk => hk.2) (.string aV)) (fun _ hk => hk.2) (.bool aW)) (fun _ h_ => h_.1))))) (Kd.R_lt (by (with_reducible repeat (first | apply zu | apply zt | apply zs)); exact (zx (zr (p := ⟨aa,8,none⟩) (zr (p := ⟨aa,7,none⟩) (zr (p := ⟨aa,6,none⟩) (zr (p := ⟨aa,5,none⟩) (zr (p := ⟨aa,4,none⟩) (zr (p := ⟨aa,3,none⟩) (zr (p := ⟨aa,2,none⟩) (zr (p := ⟨aa,1,none⟩) (zr (p := ⟨aa,0,none⟩) (zy cb.out ad.out (by decide)) (fun _ hk => hk.2) (.int .i64 aF)) (fun _ hk => hk.2) (.int .i64 aH)) (fun _ hk => hk.2) (.int .i64 aM)) (fun _ hk => hk.2) (.int .i64 aN)) (fun _ hk => hk.2) (.slice bH bf.length bz)) (fun _ hk => hk.2) (.slice bK bg.length bI)) (fun _ hk => hk.2) (.int .i64 aU)) (fun _ hk => hk.2) (.string aV)) (fun _ hk => hk.2) (.bool aW)) (fun _ h_ => h_.1))))) (Kd.R_lt (by (with_reducible repeat (first | apply zu | apply zt | apply zs)); exact (zx (zr (p := ⟨aa,8,none⟩) (zr (p := ⟨aa,7,none⟩) (zr (p := ⟨aa,6,none⟩) (zr (p := ⟨aa,5,none⟩) (zr (p := ⟨aa,4,none⟩) (zr (p := ⟨aa,3,none⟩) (zr (p := ⟨aa,2,none⟩) (zr (p := ⟨aa,1,none⟩) (zr (p := ⟨aa,0,none⟩) (zy cc.out ad.out (by decide)) (fun _ hk => hk.2) (.int .i64 aF)) (fun _ hk => hk.2) (.int .i64 aH)) (fun _ hk => hk.2) (.int .i64 aM)) (fun _ hk => hk.2) (.int .i64 aN)) (fun _ hk => hk.2) (.slice bH bf.length bz)) (fun _ hk => hk.2) (.slice bK bg.length bI)) (fun _ hk => hk.2) (.int .i64 aU)) (fun _ hk => hk.2) (.string aV)) (fun _ hk => hk.2) (.bool aW)) (fun _ h_ => h_.1))))) (Zr (by repeat (first | (with_reducible first | exact HB.out | apply Zq | apply Zp | apply Zo | refine Zn ?_ aC.out | refine Zn ?_ aE.out | refine Zn ?_ bs.out | refine Zn ?_ bZ.out) | exact HB.out)))); have bm := zzk (zo (g := ai) (o := .cells #[.int .i64 al,.int .i64 am,.slice aP aj.length aQ,.slice aR ak.length aS,.string an] 26 (0,0)) (by (with_reducible repeat (first | refine zj ?_ _ | refine zl ?_ | refine zk ?_ _)); refine zn ?_ bC.out _; (with_reducible repeat (first | refine zj ?_ _ | refine zl ?_ | refine zk ?_ _)); refine zn ?_ bC.out _; (with_reducible repeat (first | refine zj ?_ _ | refine zl ?_ | refine zk ?_ _)); refine zn ?_ bC.out _; (with_reducible repeat (first | refine zj ?_ _ | refine zl ?_ | refine zk ?_ _)); refine zn ?_ bC.out _; (with_reducible repeat (first | refine zj ?_ _ | refine zl ?_ | refine zk ?_ _)); refine zn ?_ bC.out _; (with_reducible repeat (first | refine zj ?_ _ | refine zl ?_ | refine zk ?_ _)); refine zn ?_ bC.out _; (with_reducible repeat (first | refine zj ?_ _ | refine zl ?_ | refine zk ?_ _)); refine zn ?_ bC.out _; (with_reducible repeat (first | refine zj ?_ _ | refine zl ?_ | refine zk ?_ _)); refine zn ?_ bC.out _; (with_reducible repeat (first | refine zj ?_ _ | refine zl ?_ | refine zk ?_ _)); refine zn ?_ bC.out _; (with_reducible repeat (first | refine zj ?_ _ | refine zl ?_ | refine zk ?_ _)); exact ac.out) hb); have bv := zzk (zo (g := ag) (o := .cells #[.int .i64 av,.int .i64 aw,.int .i64 ax,.int .i64 ay,.slice bb ap.length bc,.slice bd aq.length be,.int .i64 az,.string ao,.bool aA] 34 (0,0)) (by (with_reducible repeat (first | refine zj ?_ _ | refine zl ?_ | refine zk ?_ _)); refine zn ?_ bD.out _; (with_reducible repeat (first | refine zj ?_ _ | refine zl ?_ | refine zk ?_ _)); refine zn ?_ bD.out _; (with_reducible repeat (first | refine zj ?_ _ | refine zl ?_ | refine zk ?_ _)); refine zn ?_ bD.out _; (with_reducible repeat (first | refine zj ?_ _ | refine zl ?_ | refine zk ?_ _)); refine zn ?_ bD.out _; (with_reducible repeat (first | refine zj ?_ _ | refine zl ?_ | refine zk ?_ _)); refine zn ?_ bD.out _; (with_reducible repeat (first | refine zj ?_ _ | refine zl ?_ | refine zk ?_ _)); refine zn ?_ bD.out _; (with_reducible repeat (first | refine zj ?_ _ | refine zl ?_ | refine zk ?_ _)); refine zn ?_ bD.out _; (with_reducible repeat (first | refine zj ?_ _ | refine zl ?_ | refine zk ?_ _)); refine zn ?_ bD.out _; (with_reducible repeat (first | refine zj ?_ _ | refine zl ?_ | refine zk ?_ _)); refine zn ?_ bD.out _; (with_reducible repeat (first | refine zj ?_ _ | refine zl ?_ | refine zk ?_ _)); exact ab.out) hb); have bA := zzk (zo (g := ah) (o := .cells #[.int .i64 aG,.int .i64 aL,.slice bU bn.length bQ,.slice bY br.length bV,.string aT] 26 (0,0)) (by (with_reducible repeat (first | refine zj ?_ _ | refine zl ?_ | refine zk ?_ _)); refine zn ?_ bE.out _; (with_reducible repeat (first | refine zj ?_ _ | refine zl ?_ | refine zk ?_ _)); refine zn ?_ bE.out _; (with_reducible repeat (first | refine zj ?_ _ | refine zl ?_ | refine zk ?_ _)); refine zn ?_ bE.out _; (with_reducible repeat (first | refine zj ?_ _ | refine zl ?_ | refine zk ?_ _)); refine zn ?_ bE.out _; (with_reducible repeat (first | refine zj ?_ _ | refine zl ?_ | refine zk ?_ _)); refine zn ?_ bE.out _; (with_reducible repeat (first | refine zj ?_ _ | refine zl ?_ | refine zk ?_ _)); refine zn ?_ bE.out _; (with_reducible repeat (first | refine zj ?_ _ | refine zl ?_ | refine zk ?_ _)); refine zn ?_ bE.out _; (with_reducible repeat (first | refine zj ?_ _ | refine zl ?_ | refine zk ?_ _)); refine zn ?_ bE.out _; (with_reducible repeat (first | refine zj ?_ _ | refine zl ?_ | refine zk ?_ _)); refine zn ?_ bE.out _; (with_reducible repeat (first | refine zj ?_ _ | refine zl ?_ | refine zk ?_ _)); exact af.out) hb); have bB := zzk (zo (g := aa) (o := .cells #[.int .i64 aF,.int .i64 aH,.int .i64 aM,.int .i64 aN,.slice bH bf.length bz,.slice bK bg.length bI,.int .i64 aU,.string aV,.bool aW] 34 (0,0)) (by (with_reducible repeat (first | refine zj ?_ _ | refine zl ?_ | refine zk ?_ _)); refine zp (cs := #[.int .i64 aF,.int .i64 aH,.int .i64 aM,.int .i64 aN,.slice bH bf.length bz,.slice bK bg.length bI,.int .i64 aU,.string aV,.bool false]) ?_ 8 _ rfl; (with_reducible repeat (first | refine zj ?_ _ | refine zl ?_ | refine zk ?_ _)); refine zp (cs := #[.int .i64 aF,.int .i64 aH,.int .i64 aM,.int .i64 aN,.slice bH bf.length bz,.slice bK bg.length bI,.int .i64 aU,.string (⟨#[]⟩ : ByteArray),.bool false]) ?_ 7 _ rfl; (with_reducible repeat (first | refine zj ?_ _ | refine zl ?_ | refine zk ?_ _)); refine zp (cs := #[.int .i64 aF,.int .i64 aH,.int .i64 aM,.int .i64 aN,.slice bH bf.length bz,.slice bK bg.length bI,.int .i64 0,.string (⟨#[]⟩ : ByteArray),.bool false]) ?_ 6 _ rfl; (with_reducible repeat (first | refine zj ?_ _ | refine zl ?_ | refine zk ?_ _)); refine zp (cs := #[.int .i64 aF,.int .i64 aH,.int .i64 aM,.int .i64 aN,.slice bH bf.length bz,.slice none 0 0,.int .i64 0,.string (⟨#[]⟩ : ByteArray),.bool false]) ?_ 5 _ rfl; (with_reducible repeat (first | refine zj ?_ _ | refine zl ?_ | refine zk ?_ _)); refine zp (cs := #[.int .i64 aF,.int .i64 aH,.int .i64 aM,.int .i64 aN,.slice none 0 0,.slice none 0 0,.int .i64 0,.string (⟨#[]⟩ : ByteArray),.bool false]) ?_ 4 _ rfl; (with_reducible repeat (first | refine zj ?_ _ | refine zl ?_ | refine zk ?_ _)); refine zp (cs := #[.int .i64 aF,.int .i64 aH,.int .i64 aM,.int .i64 0,.slice none 0 0,.slice none 0 0,.int .i64 0,.string (⟨#[]⟩ : ByteArray),.bool false]) ?_ 3 _ rfl; (with_reducible repeat (first | refine zj ?_ _ | refine zl ?_ | refine zk ?_ _)); refine zp (cs := #[.int .i64 aF,.int .i64 aH,.int .i64 0,.int .i64 0,.slice none 0 0,.slice none 0 0,.int .i64 0,.string (⟨#[]⟩ : ByteArray),.bool false]) ?_ 2 _ rfl; (with_reducible repeat (first | refine zj ?_ _ | refine zl ?_ | refine zk ?_ _)); refine zp (cs := #[.int .i64 aF,.int .i64 0,.int .i64 0,.int .i64 0,.slice none 0 0,.slice none 0 0,.int .i64 0,.string (⟨#[]⟩ : ByteArray),.bool false]) ?_ 1 _ rfl; (with_reducible repeat (first | refine zj ?_ _ | refine zl ?_ | refine zk ?_ _)); refine zp (cs := #[.int .i64 0,.int .i64 0,.int .i64 0,.int .i64 0,.slice none 0 0,.slice none 0 0,.int .i64 0,.string (⟨#[]⟩ : ByteArray),.bool false]) ?_ 0 _ rfl; (with_reducible repeat (first | refine zj ?_ _ | refine zl ?_ | refine zk ?_ _)); exact ad.out) hb); have aX := zzk (Zs (by repeat (first | (with_reducible first | exact HB.out | apply Zq | apply Zp | apply Zo | refine Zn ?_ aC.out | refine Zn ?_ aE.out | refine Zn ?_ bs.out | refine Zn ?_ bZ.out) | exact HB.out)) hb); clear bt; clear bu; clear cb; clear cc; clear ac; clear ab; clear af; clear ad; clear HB; have bt := aI; have bu := aJ; have cb := aK; have cc := ba; have ct := bk; have cu := bl; have ac := bm; have ab := bv; have af := bA; have ad := bB; have HB := aX; clear aI aJ aK ba bk bl bm bv bA bB aX; (try clear hb); (try clear hb2); (try clear hk); (try clear hi); (try clear ho0); (try clear ho1)) | ((with_reducible refine Zy (N := 12) rfl ?_); (try (refine Zz (by rfl) ?_; dsimp only)); refine zzc ?hg (N := 12) ?hd (cs := #[.int .i64 0,.int .i64 0,.int .i64 0,.int .i64 0,.slice none 0 0,.slice none 0 0,.int .i64 0,.string (⟨#[]⟩ : ByteArray),.bool false]) (t := 34) ?hr ?_; (case hd => rfl); (case hg => rfl); (case hr => first | (go_simp; done) | (go_simp; rfl)); intro ae hg cq hbox hb; have aI := zzk (zv (by (with_reducible repeat (first | apply zu | apply zt | apply zs)); exact bt.out) hb); have aJ := zzk (zv (by (with_reducible repeat (first | apply zu | apply zt | apply zs)); exact bu.out) hb); have aK := zzk (zv (by (with_reducible repeat (first | apply zu | apply zt | apply zs)); exact cb.out) hb); have ba := zzk (zv (by (with_reducible repeat (first | apply zu | apply zt | apply zs)); exact cc.out) hb); have bk := zzk (zv (by (with_reducible repeat (first | apply zu | apply zt | apply zs)); exact ct.out) hb); have bl := zzk (zv (by (with_reducible repeat (first | apply zu | apply zt | apply zs)); exact cu.out) hb); have bm := zzk (zo (g := ai) (o := .cells #[.int .i64 al,.int .i64 am,.slice aP aj.length aQ,.slice aR ak.length aS,.string an] 26 (0,0)) (by (with_reducible repeat (first | refine zj ?_ _ | refine zl ?_ | refine zk ?_ _)); exact ac.out) hb); have bv := zzk (zo (g := ag) (o := .cells #[.int .i64 av,.int .i64 aw,.int .i64 ax,.int .i64 ay,.slice bb ap.length bc,.slice bd aq.length be,.int .i64 az,.string ao,.bool aA] 34 (0,0)) (by (with_reducible repeat (first | refine zj ?_ _ | refine zl ?_ | refine zk ?_ _)); exact ab.out) hb); have bA := zzk (zo (g := ah) (o := .cells #[.int .i64 aG,.int .i64 aL,.slice bU bn.length bQ,.slice bY br.length bV,.string aT] 26 (0,0)) (by (with_reducible repeat (first | refine zj ?_ _ | refine zl ?_ | refine zk ?_ _)); exact af.out) hb); have bB := zzk (zo (g := aa) (o := .cells #[.int .i64 aF,.int .i64 aH,.int .i64 aM,.int .i64 aN,.slice bH bf.length bz,.slice bK bg.length bI,.int .i64 aU,.string aV,.bool aW] 34 (0,0)) (by (with_reducible repeat (first | refine zj ?_ _ | refine zl ?_ | refine zk ?_ _)); exact ad.out) hb); have aX := zzk (Zs (by repeat (first | (with_reducible first | exact HB.out | apply Zq | apply Zp | apply Zo | refine Zn ?_ aC.out | refine Zn ?_ aE.out | refine Zn ?_ bs.out | refine Zn ?_ bZ.out) | exact HB.out)) hb); have bh := zzk (hbox); have dx := zzk ((by rw [hg]; exact (Zr (by repeat (first | (with_reducible first | exact HB.out | apply Zq | apply Zp | apply Zo | refine Zn ?_ aC.out | refine Zn ?_ aE.out | refine Zn ?_ bs.out | refine Zn ?_ bZ.out) | exact HB.out))) : w.heap.size ≤ ae)); have dy := zzk ((by rw [hg]; exact (Zr (by repeat (first | (with_reducible first | exact HB.out | apply Zq | apply Zp | apply Zo | refine Zn ?_ aC.out | refine Zn ?_ aE.out | refine Zn ?_ bs.out | refine Zn ?_ bZ.out) | exact HB.out))) : w.heap.size ≤ ae)); have dz := zzk ((by rw [hg]; exact Nat.ne_of_lt (zq (g := ai) (o := .cells #[.int .i64 al,.int .i64 am,.slice aP aj.length aQ,.slice aR ak.length aS,.string an] 26 (0,0)) (by (with_reducible repeat (first | refine zj ?_ _ | refine zl ?_ | refine zk ?_ _)); exact ac.out)) : ai ≠ ae)); have dA := zzk ((by rw [hg]; exact Nat.ne_of_gt (zq (g := ai) (o := .cells #[.int .i64 al,.int .i64 am,.slice aP aj.length aQ,.slice aR ak.length aS,.string an] 26 (0,0)) (by (with_reducible repeat (first | refine zj ?_ _ | refine zl ?_ | refine zk ?_ _)); exact ac.out)) : ae ≠ ai)); have dB := zzk ((by rw [hg]; exact Nat.ne_of_lt (zq (g := ag) (o := .cells #[.int .i64 av,.int .i64 aw,.int .i64 ax,.int .i64 ay,.slice bb ap.length bc,.slice bd aq.length be,.int .i64 az,.string ao,.bool aA] 34 (0,0)) (by (with_reducible repeat (first | refine zj ?_ _ | refine zl ?_ | refine zk ?_ _)); exact ab.out)) : ag ≠ ae)); have iy := zzk ((by rw [hg]; exact Nat.ne_of_gt (zq (g := ag) (o := .cells #[.int .i64 av,.int .i64 aw,.int .i64 ax,.int .i64 ay,.slice bb ap.length bc,.slice bd aq.length be,.int .i64 az,.string ao,.bool aA] 34 (0,0)) (by (with_reducible repeat (first | refine zj ?_ _ | refine zl ?_ | refine zk ?_ _)); exact ab.out)) : ae ≠ ag)); have iz := zzk ((by rw [hg]; exact Nat.ne_of_lt (zq (g := ah) (o := .cells #[.int .i64 aG,.int .i64 aL,.slice bU bn.length bQ,.slice bY br.length bV,.string aT] 26 (0,0)) (by (with_reducible repeat (first | refine zj ?_ _ | refine zl ?_ | refine zk ?_ _)); exact af.out)) : ah ≠ ae)); have iA := zzk ((by rw [hg]; exact Nat.ne_of_gt (zq (g := ah) (o := .cells #[.int .i64 aG,.int .i64 aL,.slice bU bn.length bQ,.slice bY br.length bV,.string aT] 26 (0,0)) (by (with_reducible repeat (first | refine zj ?_ _ | refine zl ?_ | refine zk ?_ _)); exact af.out)) : ae ≠ ah)); have iB := zzk ((by rw [hg]; exact Nat.ne_of_lt (zq (g := aa) (o := .cells #[.int .i64 aF,.int .i64 aH,.int .i64 aM,.int .i64 aN,.slice bH bf.length bz,.slice bK bg.length bI,.int .i64 aU,.string aV,.bool aW] 34 (0,0)) (by (with_reducible repeat (first | refine zj ?_ _ | refine zl ?_ | refine zk ?_ _)); exact ad.out)) : aa ≠ ae)); have iC := zzk ((by rw [hg]; exact Nat.ne_of_gt (zq (g := aa) (o := .cells #[.int .i64 aF,.int .i64 aH,.int .i64 aM,.int .i64 aN,.slice bH bf.length bz,.slice bK bg.length bI,.int .i64 aU,.string aV,.bool aW] 34 (0,0)) (by (with_reducible repeat (first | refine zj ?_ _ | refine zl ?_ | refine zk ?_ _)); exact ad.out)) : ae ≠ aa)); clear bt; clear bu; clear cb; clear cc; clear ct; clear cu; clear ac; clear ab; clear af; clear ad; clear HB; have bt := aI; have bu := aJ; have cb := aK; have cc := ba; have ct := bk; have cu := bl; have ac := bm; have ab := bv; have af := bA; have ad := bB; have HB := aX; have ar := bh; have nz := dx; have cm := dy; have bL := dz; have da := dA; have bM := dB; have db := iy; have bN := iz; have dc := iA; have bF := iB; have cH := iC; clear aI aJ aK ba bk bl bm bv bA bB aX bh dx dy dz dA dB iy iz iA iB iC; clear hb hbox hg; have nA := da.out; have nB := bL.out; have nC := db.out; have nD := bM.out; have nE := dc.out; have nF := bN.out; have nG := cH.out; have nH := bF.out; have gR : cq.cell? ⟨ae,0,none⟩ = some (.int .i64 0) := (zi ar.out 0).trans rfl; have gS : cq.cell? ⟨ae,1,none⟩ = some (.int .i64 0) := (zi ar.out 1).trans rfl; have gT : cq.cell? ⟨ae,2,none⟩ = some (.int .i64 0) := (zi ar.out 2).trans rfl; have gU : cq.cell? ⟨ae,3,none⟩ = some (.int .i64 0) := (zi ar.out 3).trans rfl; have gV : cq.cell? ⟨ae,4,none⟩ = some (.slice none 0 0) := (zi ar.out 4).trans rfl; have gW : cq.cell? ⟨ae,5,none⟩ = some (.slice none 0 0) := (zi ar.out 5).trans rfl; have gX : cq.cell? ⟨ae,6,none⟩ = some (.int .i64 0) := (zi ar.out 6).trans rfl; have gY : cq.cell? ⟨ae,7,none⟩ = some (.string (⟨#[]⟩ : ByteArray)) := (zi ar.out 7).trans rfl; have gZ : cq.cell? ⟨ae,8,none⟩ = some (.bool false) := (zi ar.out 8).trans rfl; have ha := zm ar.out 0; have hc := zm ar.out 1; have hf := zm ar.out 2; have hh := zm ar.out 3; have hj := zm ar.out 4; have hl := zm ar.out 5; have hm := zm ar.out 6; have hq := zm ar.out 7; have ht := zm ar.out 8; obtain ⟨ci,ce,eo56⟩ := zz ct.out; subst eo56; obtain ⟨cl,cj,eo57⟩ := zz cu.out; subst eo57; have hu : cq.cell? ⟨aa,0,none⟩ = some (.int .i64 aF) := (zi ad.out 0).trans rfl; have hv : cq.cell? ⟨aa,1,none⟩ = some (.int .i64 aH) := (zi ad.out 1).trans rfl; have hx : cq.cell? ⟨aa,2,none⟩ = some (.int .i64 aM) := (zi ad.out 2).trans rfl; have hy : cq.cell? ⟨aa,3,none⟩ = some (.int .i64 aN) := (zi ad.out 3).trans rfl; have hz : cq.cell? ⟨aa,4,none⟩ = some (.slice bH bf.length bz) := (zi ad.out 4).trans rfl; have ia : cq.cell? ⟨aa,5,none⟩ = some (.slice bK bg.length bI) := (zi ad.out 5).trans rfl; have ib : cq.cell? ⟨aa,6,none⟩ = some (.int .i64 aU) := (zi ad.out 6).trans rfl; have ic : cq.cell? ⟨aa,7,none⟩ = some (.string aV) := (zi ad.out 7).trans rfl; have ie : cq.cell? ⟨aa,8,none⟩ = some (.bool aW) := (zi ad.out 8).trans rfl; have ig := zm ad.out 0; have ih := zm ad.out 1; have ii := zm ad.out 2; have ij := zm ad.out 3; have ik := zm ad.out 4; have il := zm ad.out 5; have im := zm ad.out 6; have ip := zm ad.out 7; have iq := zm ad.out 8) | (go_at_call 16; (with_reducible refine (r16_Same.calls cp aF aH aM aN _ _ bf _ _ bg aU aV aW bw bx bG bJ _ _ bW _ _ ca bP bT bX ck _ ?side1 ?side2 ?side3 ?side4 ?side5 ?side6 ?side7 ?side8 mF.out).mono ?_); (case side1 => refine (zw (e := 3) (base := w.heap.size) (ok := fun k_ => ((((some k_ ≠ (.slice bK bg.length bI : Value).ownBlock ∧ some k_ ≠ (.slice bU bn.length bQ : Value).ownBlock) ∧ some k_ ≠ (.slice bY br.length bV : Value).ownBlock) ∧ some k_ ≠ (.slice ci bW.length ce : Value).ownBlock) ∧ some k_ ≠ (.slice cl ca.length cj : Value).ownBlock)) (n := bf.length) (c := bz) ?_).2.2; exact (by (with_reducible repeat (first | apply zu | apply zt | apply zs)); exact (zx (zr (p := ⟨ae,8,none⟩) (zr (p := ⟨ae,7,none⟩) (zr (p := ⟨ae,6,none⟩) (zr (p := ⟨ae,5,none⟩) (zr (p := ⟨ae,4,none⟩) (zr (p := ⟨ae,3,none⟩) (zr (p := ⟨ae,2,none⟩) (zr (p := ⟨ae,1,none⟩) (zr (p := ⟨ae,0,none⟩) (zy cb.out ar.out (by decide)) (fun _ hk => hk.2) (.int .i64 bw)) (fun _ hk => hk.2) (.int .i64 bx)) (fun _ hk => hk.2) (.int .i64 bG)) (fun _ hk => hk.2) (.int .i64 bJ)) (fun _ hk => hk.2) (.slice ci bW.length ce)) (fun _ hk => hk.2) (.slice cl ca.length cj)) (fun _ hk => hk.2) (.int .i64 bP)) (fun _ hk => hk.2) (.string bT)) (fun _ hk => hk.2) (.bool bX)) (fun _ h_ => h_.1)))); (case side2 => exact (zw cb.out).2.1); (case side3 => refine (zw (e := 3) (base := w.heap.size) (ok := fun k_ => ((((some k_ ≠ (.slice bH bf.length bz : Value).ownBlock ∧ some k_ ≠ (.slice bU bn.length bQ : Value).ownBlock) ∧ some k_ ≠ (.slice bY br.length bV : Value).ownBlock) ∧ some k_ ≠ (.slice ci bW.length ce : Value).ownBlock) ∧ some k_ ≠ (.slice cl ca.length cj : Value).ownBlock)) (n := bg.length) (c := bI) ?_).2.2; exact (by (with_reducible repeat (first | apply zu | apply zt | apply zs)); exact (zx (zr (p := ⟨ae,8,none⟩) (zr (p := ⟨ae,7,none⟩) (zr (p := ⟨ae,6,none⟩) (zr (p := ⟨ae,5,none⟩) (zr (p := ⟨ae,4,none⟩) (zr (p := ⟨ae,3,none⟩) (zr (p := ⟨ae,2,none⟩) (zr (p := ⟨ae,1,none⟩) (zr (p := ⟨ae,0,none⟩) (zy cc.out ar.out (by decide)) (fun _ hk => hk.2) (.int .i64 bw)) (fun _ hk => hk.2) (.int .i64 bx)) (fun _ hk => hk.2) (.int .i64 bG)) (fun _ hk => hk.2) (.int .i64 bJ)) (fun _ hk => hk.2) (.slice ci bW.length ce)) (fun _ hk => hk.2) (.slice cl ca.length cj)) (fun _ hk => hk.2) (.int .i64 bP)) (fun _ hk => hk.2) (.string bT)) (fun _ hk => hk.2) (.bool bX)) (fun _ h_ => h_.1)))); (case side4 => exact (zw cc.out).2.1); (case side5 => refine (zw (e := 3) (base := w.heap.size) (ok := fun k_ => ((((some k_ ≠ (.slice cl ca.length cj : Value).ownBlock ∧ some k_ ≠ (.slice bU bn.length bQ : Value).ownBlock) ∧ some k_ ≠ (.slice bY br.length bV : Value).ownBlock) ∧ some k_ ≠ (.slice bH bf.length bz : Value).ownBlock) ∧ some k_ ≠ (.slice bK bg.length bI : Value).ownBlock)) (n := bW.length) (c := ce) ?_).2.2; exact (by (with_reducible repeat (first | apply zu | apply zt | apply zs)); exact (zx (zr (p := ⟨ae,8,none⟩) (zr (p := ⟨ae,7,none⟩) (zr (p := ⟨ae,6,none⟩) (zr (p := ⟨ae,5,none⟩) (zr (p := ⟨ae,4,none⟩) (zr (p := ⟨ae,3,none⟩) (zr (p := ⟨ae,2,none⟩) (zr (p := ⟨ae,1,none⟩) (zr (p := ⟨ae,0,none⟩) (zy ct.out ar.out (by decide)) (fun _ hk => hk.2) (.int .i64 bw)) (fun _ hk => hk.2) (.int .i64 bx)) (fun _ hk => hk.2) (.int .i64 bG)) (fun _ hk => hk.2) (.int .i64 bJ)) (fun _ hk => hk.2) (.slice ci bW.length ce)) (fun _ hk => hk.2) (.slice cl ca.length cj)) (fun _ hk => hk.2) (.int .i64 bP)) (fun _ hk => hk.2) (.string bT)) (fun _ hk => hk.2) (.bool bX)) (fun _ h_ => h_.1)))); (case side6 => exact (zw ct.out).2.1); (case side7 => refine (zw (e := 3) (base := w.heap.size) (ok := fun k_ => ((((some k_ ≠ (.slice ci bW.length ce : Value).ownBlock ∧ some k_ ≠ (.slice bU bn.length bQ : Value).ownBlock) ∧ some k_ ≠ (.slice bY br.length bV : Value).ownBlock) ∧ some k_ ≠ (.slice bH bf.length bz : Value).ownBlock) ∧ some k_ ≠ (.slice bK bg.length bI : Value).ownBlock)) (n := ca.length) (c := cj) ?_).2.2; exact (by (with_reducible repeat (first | apply zu | apply zt | apply zs)); exact (zx (zr (p := ⟨ae,8,none⟩) (zr (p := ⟨ae,7,none⟩) (zr (p := ⟨ae,6,none⟩) (zr (p := ⟨ae,5,none⟩) (zr (p := ⟨ae,4,none⟩) (zr (p := ⟨ae,3,none⟩) (zr (p := ⟨ae,2,none⟩) (zr (p := ⟨ae,1,none⟩) (zr (p := ⟨ae,0,none⟩) (zy cu.out ar.out (by decide)) (fun _ hk => hk.2) (.int .i64 bw)) (fun _ hk => hk.2) (.int .i64 bx)) (fun _ hk => hk.2) (.int .i64 bG)) (fun _ hk => hk.2) (.int .i64 bJ)) (fun _ hk => hk.2) (.slice ci bW.length ce)) (fun _ hk => hk.2) (.slice cl ca.length cj)) (fun _ hk => hk.2) (.int .i64 bP)) (fun _ hk => hk.2) (.string bT)) (fun _ hk => hk.2) (.bool bX)) (fun _ h_ => h_.1)))); (case side8 => exact (zw cu.out).2.1); rintro e oF ⟨rfl,hb⟩; have aI := zzk (zv (by (with_reducible repeat (first | apply zu | apply zt | apply zs)); exact (zx (zr (p := ⟨ae,8,none⟩) (zr (p := ⟨ae,7,none⟩) (zr (p := ⟨ae,6,none⟩) (zr (p := ⟨ae,5,none⟩) (zr (p := ⟨ae,4,none⟩) (zr (p := ⟨ae,3,none⟩) (zr (p := ⟨ae,2,none⟩) (zr (p := ⟨ae,1,none⟩) (zr (p := ⟨ae,0,none⟩) (zy bt.out ar.out (by decide)) (fun _ hk => hk.2) (.int .i64 bw)) (fun _ hk => hk.2) (.int .i64 bx)) (fun _ hk => hk.2) (.int .i64 bG)) (fun _ hk => hk.2) (.int .i64 bJ)) (fun _ hk => hk.2) (.slice ci bW.length ce)) (fun _ hk => hk.2) (.slice cl ca.length cj)) (fun _ hk => hk.2) (.int .i64 bP)) (fun _ hk => hk.2) (.string bT)) (fun _ hk => hk.2) (.bool bX)) (fun _ h_ => h_.1))) hb); have aJ := zzk (zv (by (with_reducible repeat (first | apply zu | apply zt | apply zs)); exact (zx (zr (p := ⟨ae,8,none⟩) (zr (p := ⟨ae,7,none⟩) (zr (p := ⟨ae,6,none⟩) (zr (p := ⟨ae,5,none⟩) (zr (p := ⟨ae,4,none⟩) (zr (p := ⟨ae,3,none⟩) (zr (p := ⟨ae,2,none⟩) (zr (p := ⟨ae,1,none⟩) (zr (p := ⟨ae,0,none⟩) (zy bu.out ar.out (by decide)) (fun _ hk => hk.2) (.int .i64 bw)) (fun _ hk => hk.2) (.int .i64 bx)) (fun _ hk => hk.2) (.int .i64 bG)) (fun _ hk => hk.2) (.int .i64 bJ)) (fun _ hk => hk.2) (.slice ci bW.length ce)) (fun _ hk => hk.2) (.slice cl ca.length cj)) (fun _ hk => hk.2) (.int .i64 bP)) (fun _ hk => hk.2) (.string bT)) (fun _ hk => hk.2) (.bool bX)) (fun _ h_ => h_.1))) hb); have aK := zzk (zv (by (with_reducible repeat (first | apply zu | apply zt | apply zs)); exact (zx (zr (p := ⟨ae,8,none⟩) (zr (p := ⟨ae,7,none⟩) (zr (p := ⟨ae,6,none⟩) (zr (p := ⟨ae,5,none⟩) (zr (p := ⟨ae,4,none⟩) (zr (p := ⟨ae,3,none⟩) (zr (p := ⟨ae,2,none⟩) (zr (p := ⟨ae,1,none⟩) (zr (p := ⟨ae,0,none⟩) (zy cb.out ar.out (by decide)) (fun _ hk => hk.2) (.int .i64 bw)) (fun _ hk => hk.2) (.int .i64 bx)) (fun _ hk => hk.2) (.int .i64 bG)) (fun _ hk => hk.2) (.int .i64 bJ)) (fun _ hk => hk.2) (.slice ci bW.length ce)) (fun _ hk => hk.2) (.slice cl ca.length cj)) (fun _ hk => hk.2) (.int .i64 bP)) (fun _ hk => hk.2) (.string bT)) (fun _ hk => hk.2) (.bool bX)) (fun _ h_ => h_.1))) hb); have ba := zzk (zv (by (with_reducible repeat (first | apply zu | apply zt | apply zs)); exact (zx (zr (p := ⟨ae,8,none⟩) (zr (p := ⟨ae,7,none⟩) (zr (p := ⟨ae,6,none⟩) (zr (p := ⟨ae,5,none⟩) (zr (p := ⟨ae,4,none⟩) (zr (p := ⟨ae,3,none⟩) (zr (p := ⟨ae,2,none⟩) (zr (p := ⟨ae,1,none⟩) (zr (p := ⟨ae,0,none⟩) (zy cc.out ar.out (by decide)) (fun _ hk => hk.2) (.int .i64 bw)) (fun _ hk => hk.2) (.int .i64 bx)) (fun _ hk => hk.2) (.int .i64 bG)) (fun _ hk => hk.2) (.int .i64 bJ)) (fun _ hk => hk.2) (.slice ci bW.length ce)) (fun _ hk => hk.2) (.slice cl ca.length cj)) (fun _ hk => hk.2) (.int .i64 bP)) (fun _ hk => hk.2) (.string bT)) (fun _ hk => hk.2) (.bool bX)) (fun _ h_ => h_.1))) hb); have bk := zzk (zv (by (with_reducible repeat (first | apply zu | apply zt | apply zs)); exact (zx (zr (p := ⟨ae,8,none⟩) (zr (p := ⟨ae,7,none⟩) (zr (p := ⟨ae,6,none⟩) (zr (p := ⟨ae,5,none⟩) (zr (p := ⟨ae,4,none⟩) (zr (p := ⟨ae,3,none⟩) (zr (p := ⟨ae,2,none⟩) (zr (p := ⟨ae,1,none⟩) (zr (p := ⟨ae,0,none⟩) (zy ct.out ar.out (by decide)) (fun _ hk => hk.2) (.int .i64 bw)) (fun _ hk => hk.2) (.int .i64 bx)) (fun _ hk => hk.2) (.int .i64 bG)) (fun _ hk => hk.2) (.int .i64 bJ)) (fun _ hk => hk.2) (.slice ci bW.length ce)) (fun _ hk => hk.2) (.slice cl ca.length cj)) (fun _ hk => hk.2) (.int .i64 bP)) (fun _ hk => hk.2) (.string bT)) (fun _ hk => hk.2) (.bool bX)) (fun _ h_ => h_.1))) hb); have bl := zzk (zv (by (with_reducible repeat (first | apply zu | apply zt | apply zs)); exact (zx (zr (p := ⟨ae,8,none⟩) (zr (p := ⟨ae,7,none⟩) (zr (p := ⟨ae,6,none⟩) (zr (p := ⟨ae,5,none⟩) (zr (p := ⟨ae,4,none⟩) (zr (p := ⟨ae,3,none⟩) (zr (p := ⟨ae,2,none⟩) (zr (p := ⟨ae,1,none⟩) (zr (p := ⟨ae,0,none⟩) (zy cu.out ar.out (by decide)) (fun _ hk => hk.2) (.int .i64 bw)) (fun _ hk => hk.2) (.int .i64 bx)) (fun _ hk => hk.2) (.int .i64 bG)) (fun _ hk => hk.2) (.int .i64 bJ)) (fun _ hk => hk.2) (.slice ci bW.length ce)) (fun _ hk => hk.2) (.slice cl ca.length cj)) (fun _ hk => hk.2) (.int .i64 bP)) (fun _ hk => hk.2) (.string bT)) (fun _ hk => hk.2) (.bool bX)) (fun _ h_ => h_.1))) hb); have bm := zzk (zo (g := ai) (o := .cells #[.int .i64 al,.int .i64 am,.slice aP aj.length aQ,.slice aR ak.length aS,.string an] 26 (0,0)) (by (with_reducible repeat (first | refine zj ?_ _ | refine zl ?_ | refine zk ?_ _)); refine zn ?_ bL.out _; (with_reducible repeat (first | refine zj ?_ _ | refine zl ?_ | refine zk ?_ _)); refine zn ?_ bL.out _; (with_reducible repeat (first | refine zj ?_ _ | refine zl ?_ | refine zk ?_ _)); refine zn ?_ bL.out _; (with_reducible repeat (first | refine zj ?_ _ | refine zl ?_ | refine zk ?_ _)); refine zn ?_ bL.out _; (with_reducible repeat (first | refine zj ?_ _ | refine zl ?_ | refine zk ?_ _)); refine zn ?_ bL.out _; (with_reducible repeat (first | refine zj ?_ _ | refine zl ?_ | refine zk ?_ _)); refine zn ?_ bL.out _; (with_reducible repeat (first | refine zj ?_ _ | refine zl ?_ | refine zk ?_ _)); refine zn ?_ bL.out _; (with_reducible repeat (first | refine zj ?_ _ | refine zl ?_ | refine zk ?_ _)); refine zn ?_ bL.out _; (with_reducible repeat (first | refine zj ?_ _ | refine zl ?_ | refine zk ?_ _)); refine zn ?_ bL.out _; (with_reducible repeat (first | refine zj ?_ _ | refine zl ?_ | refine zk ?_ _)); exact ac.out) hb); have bv := zzk (zo (g := ag) (o := .cells #[.int .i64 av,.int .i64 aw,.int .i64 ax,.int .i64 ay,.slice bb ap.length bc,.slice bd aq.length be,.int .i64 az,.string ao,.bool aA] 34 (0,0)) (by (with_reducible repeat (first | refine zj ?_ _ | refine zl ?_ | refine zk ?_ _)); refine zn ?_ bM.out _; (with_reducible repeat (first | refine zj ?_ _ | refine zl ?_ | refine zk ?_ _)); refine zn ?_ bM.out _; (with_reducible repeat (first | refine zj ?_ _ | refine zl ?_ | refine zk ?_ _)); refine zn ?_ bM.out _; (with_reducible repeat (first | refine zj ?_ _ | refine zl ?_ | refine zk ?_ _)); refine zn ?_ bM.out _; (with_reducible repeat (first | refine zj ?_ _ | refine zl ?_ | refine zk ?_ _)); refine zn ?_ bM.out _; (with_reducible repeat (first | refine zj ?_ _ | refine zl ?_ | refine zk ?_ _)); refine zn ?_ bM.out _; (with_reducible repeat (first | refine zj ?_ _ | refine zl ?_ | refine zk ?_ _)); refine zn ?_ bM.out _; (with_reducible repeat (first | refine zj ?_ _ | refine zl ?_ | refine zk ?_ _)); refine zn ?_ bM.out _; (with_reducible repeat (first | refine zj ?_ _ | refine zl ?_ | refine zk ?_ _)); refine zn ?_ bM.out _; (with_reducible repeat (first | refine zj ?_ _ | refine zl ?_ | refine zk ?_ _)); exact ab.out) hb); have bA := zzk (zo (g := ah) (o := .cells #[.int .i64 aG,.int .i64 aL,.slice bU bn.length bQ,.slice bY br.length bV,.string aT] 26 (0,0)) (by (with_reducible repeat (first | refine zj ?_ _ | refine zl ?_ | refine zk ?_ _)); refine zn ?_ bN.out _; (with_reducible repeat (first | refine zj ?_ _ | refine zl ?_ | refine zk ?_ _)); refine zn ?_ bN.out _; (with_reducible repeat (first | refine zj ?_ _ | refine zl ?_ | refine zk ?_ _)); refine zn ?_ bN.out _; (with_reducible repeat (first | refine zj ?_ _ | refine zl ?_ | refine zk ?_ _)); refine zn ?_ bN.out _; (with_reducible repeat (first | refine zj ?_ _ | refine zl ?_ | refine zk ?_ _)); refine zn ?_ bN.out _; (with_reducible repeat (first | refine zj ?_ _ | refine zl ?_ | refine zk ?_ _)); refine zn ?_ bN.out _; (with_reducible repeat (first | refine zj ?_ _ | refine zl ?_ | refine zk ?_ _)); refine zn ?_ bN.out _; (with_reducible repeat (first | refine zj ?_ _ | refine zl ?_ | refine zk ?_ _)); refine zn ?_ bN.out _; (with_reducible repeat (first | refine zj ?_ _ | refine zl ?_ | refine zk ?_ _)); refine zn ?_ bN.out _; (with_reducible repeat (first | refine zj ?_ _ | refine zl ?_ | refine zk ?_ _)); exact af.out) hb); have bB := zzk (zo (g := aa) (o := .cells #[.int .i64 aF,.int .i64 aH,.int .i64 aM,.int .i64 aN,.slice bH bf.length bz,.slice bK bg.length bI,.int .i64 aU,.string aV,.bool aW] 34 (0,0)) (by (with_reducible repeat (first | refine zj ?_ _ | refine zl ?_ | refine zk ?_ _)); refine zn ?_ bF.out _; (with_reducible repeat (first | refine zj ?_ _ | refine zl ?_ | refine zk ?_ _)); refine zn ?_ bF.out _; (with_reducible repeat (first | refine zj ?_ _ | refine zl ?_ | refine zk ?_ _)); refine zn ?_ bF.out _; (with_reducible repeat (first | refine zj ?_ _ | refine zl ?_ | refine zk ?_ _)); refine zn ?_ bF.out _; (with_reducible repeat (first | refine zj ?_ _ | refine zl ?_ | refine zk ?_ _)); refine zn ?_ bF.out _; (with_reducible repeat (first | refine zj ?_ _ | refine zl ?_ | refine zk ?_ _)); refine zn ?_ bF.out _; (with_reducible repeat (first | refine zj ?_ _ | refine zl ?_ | refine zk ?_ _)); refine zn ?_ bF.out _; (with_reducible repeat (first | refine zj ?_ _ | refine zl ?_ | refine zk ?_ _)); refine zn ?_ bF.out _; (with_reducible repeat (first | refine zj ?_ _ | refine zl ?_ | refine zk ?_ _)); refine zn ?_ bF.out _; (with_reducible repeat (first | refine zj ?_ _ | refine zl ?_ | refine zk ?_ _)); exact ad.out) hb); have aX := zzk (zo (g := ae) (o := .cells #[.int .i64 bw,.int .i64 bx,.int .i64 bG,.int .i64 bJ,.slice ci bW.length ce,.slice cl ca.length cj,.int .i64 bP,.string bT,.bool bX] 34 (0,0)) (by (with_reducible repeat (first | refine zj ?_ _ | refine zl ?_ | refine zk ?_ _)); refine zp (cs := #[.int .i64 bw,.int .i64 bx,.int .i64 bG,.int .i64 bJ,.slice ci bW.length ce,.slice cl ca.length cj,.int .i64 bP,.string bT,.bool false]) ?_ 8 _ rfl; (with_reducible repeat (first | refine zj ?_ _ | refine zl ?_ | refine zk ?_ _)); refine zp (cs := #[.int .i64 bw,.int .i64 bx,.int .i64 bG,.int .i64 bJ,.slice ci bW.length ce,.slice cl ca.length cj,.int .i64 bP,.string (⟨#[]⟩ : ByteArray),.bool false]) ?_ 7 _ rfl; (with_reducible repeat (first | refine zj ?_ _ | refine zl ?_ | refine zk ?_ _)); refine zp (cs := #[.int .i64 bw,.int .i64 bx,.int .i64 bG,.int .i64 bJ,.slice ci bW.length ce,.slice cl ca.length cj,.int .i64 0,.string (⟨#[]⟩ : ByteArray),.bool false]) ?_ 6 _ rfl; (with_reducible repeat (first | refine zj ?_ _ | refine zl ?_ | refine zk ?_ _)); refine zp (cs := #[.int .i64 bw,.int .i64 bx,.int .i64 bG,.int .i64 bJ,.slice ci bW.length ce,.slice none 0 0,.int .i64 0,.string (⟨#[]⟩ : ByteArray),.bool false]) ?_ 5 _ rfl; (with_reducible repeat (first | refine zj ?_ _ | refine zl ?_ | refine zk ?_ _)); refine zp (cs := #[.int .i64 bw,.int .i64 bx,.int .i64 bG,.int .i64 bJ,.slice none 0 0,.slice none 0 0,.int .i64 0,.string (⟨#[]⟩ : ByteArray),.bool false]) ?_ 4 _ rfl; (with_reducible repeat (first | refine zj ?_ _ | refine zl ?_ | refine zk ?_ _)); refine zp (cs := #[.int .i64 bw,.int .i64 bx,.int .i64 bG,.int .i64 0,.slice none 0 0,.slice none 0 0,.int .i64 0,.string (⟨#[]⟩ : ByteArray),.bool false]) ?_ 3 _ rfl; (with_reducible repeat (first | refine zj ?_ _ | refine zl ?_ | refine zk ?_ _)); refine zp (cs := #[.int .i64 bw,.int .i64 bx,.int .i64 0,.int .i64 0,.slice none 0 0,.slice none 0 0,.int .i64 0,.string (⟨#[]⟩ : ByteArray),.bool false]) ?_ 2 _ rfl; (with_reducible repeat (first | refine zj ?_ _ | refine zl ?_ | refine zk ?_ _)); refine zp (cs := #[.int .i64 bw,.int .i64 0,.int .i64 0,.int .i64 0,.slice none 0 0,.slice none 0 0,.int .i64 0,.string (⟨#[]⟩ : ByteArray),.bool false]) ?_ 1 _ rfl; (with_reducible repeat (first | refine zj ?_ _ | refine zl ?_ | refine zk ?_ _)); refine zp (cs := #[.int .i64 0,.int .i64 0,.int .i64 0,.int .i64 0,.slice none 0 0,.slice none 0 0,.int .i64 0,.string (⟨#[]⟩ : ByteArray),.bool false]) ?_ 0 _ rfl; (with_reducible repeat (first | refine zj ?_ _ | refine zl ?_ | refine zk ?_ _)); exact ar.out) hb); have bh := zzk (Zs (by repeat (first | (with_reducible first | exact HB.out | apply Zq | apply Zp | apply Zo | refine Zn ?_ aC.out | refine Zn ?_ aE.out | refine Zn ?_ bs.out | refine Zn ?_ bZ.out | refine Zn ?_ cm.out) | exact HB.out)) hb); clear bt; clear bu; clear cb; clear cc; clear ct; clear cu; clear ac; clear ab; clear af; clear ad; clear ar; clear HB; have bt := aI; have bu := aJ; have cb := aK; have cc := ba; have ct := bk; have cu := bl; have ac := bm; have ab := bv; have af := bA; have ad := bB; have ar := aX; have HB := bh; clear aI aJ aK ba bk bl bm bv bA bB aX bh; (try clear hb); (try clear hb2); (try clear hk); (try clear hi)))
     go_loopg [15] cp (fun kq mG w' => ∃ (cd : Int) (bo : List Int) (bq : List Int) (aB : List Int) (cv : List Int) (dd : List Int) (de : List Int) (bi : Value) (bj : Value) (cf : Value) (aO : Value) (aY : Value) (aZ : Value),mG = .int .i64 cd ∧ Aside0 (L_ChunkBegins.l0 kq ck cd al am aj ak an av aw ax ay ap aq az ao aA aG aL bo bq aT aF aH aM aN aB cv aU aV aW = some r) ∧ Aside0 (kq ≤ cp) ∧ Aside0 (Kd.R (Kd.int .i64) 3 w' w.heap.size (fun k_ => some k_ ≠ (bj : Value).ownBlock ∧ some k_ ≠ (cf : Value).ownBlock ∧ some k_ ≠ (aO : Value).ownBlock ∧ some k_ ≠ (aY : Value).ownBlock ∧ some k_ ≠ (aZ : Value).ownBlock) bi bo) ∧ Aside0 (Kd.R (Kd.int .i64) 3 w' w.heap.size (fun k_ => some k_ ≠ (bi : Value).ownBlock ∧ some k_ ≠ (cf : Value).ownBlock ∧ some k_ ≠ (aO : Value).ownBlock ∧ some k_ ≠ (aY : Value).ownBlock ∧ some k_ ≠ (aZ : Value).ownBlock) bj bq) ∧ Aside0 (Kd.R (Kd.int .i64) 3 w' w.heap.size (fun k_ => some k_ ≠ (bi : Value).ownBlock ∧ some k_ ≠ (bj : Value).ownBlock ∧ some k_ ≠ (aO : Value).ownBlock ∧ some k_ ≠ (aY : Value).ownBlock ∧ some k_ ≠ (aZ : Value).ownBlock) cf aB) ∧ Aside0 (Kd.R (Kd.int .i64) 3 w' w.heap.size (fun k_ => some k_ ≠ (bi : Value).ownBlock ∧ some k_ ≠ (bj : Value).ownBlock ∧ some k_ ≠ (cf : Value).ownBlock ∧ some k_ ≠ (aY : Value).ownBlock ∧ some k_ ≠ (aZ : Value).ownBlock) aO cv) ∧ Aside0 (Kd.R (Kd.int .i64) 3 w' w.heap.size (fun k_ => some k_ ≠ (bi : Value).ownBlock ∧ some k_ ≠ (bj : Value).ownBlock ∧ some k_ ≠ (cf : Value).ownBlock ∧ some k_ ≠ (aO : Value).ownBlock ∧ some k_ ≠ (aZ : Value).ownBlock) aY dd) ∧ Aside0 (Kd.R (Kd.int .i64) 3 w' w.heap.size (fun k_ => some k_ ≠ (bi : Value).ownBlock ∧ some k_ ≠ (bj : Value).ownBlock ∧ some k_ ≠ (cf : Value).ownBlock ∧ some k_ ≠ (aO : Value).ownBlock ∧ some k_ ≠ (aY : Value).ownBlock) aZ de) ∧ Aside0 (w'.heap[ai]? = some (.cells #[.int .i64 al,.int .i64 am,(.slice aP aj.length aQ),(.slice aR ak.length aS),.string an] 26 (0,0))) ∧ Aside0 (w'.heap[ag]? = some (.cells #[.int .i64 av,.int .i64 aw,.int .i64 ax,.int .i64 ay,(.slice bb ap.length bc),(.slice bd aq.length be),.int .i64 az,.string ao,.bool aA] 34 (0,0))) ∧ Aside0 (w'.heap[ah]? = some (.cells #[.int .i64 aG,.int .i64 aL,bi,bj,.string aT] 26 (0,0))) ∧ Aside0 (w'.heap[aa]? = some (.cells #[.int .i64 aF,.int .i64 aH,.int .i64 aM,.int .i64 aN,cf,aO,.int .i64 aU,.string aV,.bool aW] 34 (0,0))) ∧ Aside0 (w'.heap[ae]? = some (.cells #[.int .i64 bw,.int .i64 bx,.int .i64 bG,.int .i64 bJ,aY,aZ,.int .i64 bP,.string bT,.bool bX] 34 (0,0))) ∧ Aside0 (Below w.heap.size w w'))
     case atStart => exact ⟨(0),(bn),(br),(bf),(bg),(bW),(ca),(.slice bU bn.length bQ),(.slice bY br.length bV),(.slice bH bf.length bz),(.slice bK bg.length bI),(.slice ci bW.length ce),(.slice cl ca.length cj),(by first | rfl | (simp; done) | (simp [*]; done)),H',⟨Nat.le_refl _⟩,⟨by (with_reducible repeat (first | apply zu | apply zt | apply zs)); exact zx bt.out (fun _ hk => ⟨hk.1.1.1.1,⟨hk.1.1.1.2,⟨hk.1.1.2,⟨hk.1.2,hk.2⟩⟩⟩⟩)⟩,⟨by (with_reducible repeat (first | apply zu | apply zt | apply zs)); exact zx bu.out (fun _ hk => ⟨hk.1.1.1.1,⟨hk.1.1.1.2,⟨hk.1.1.2,⟨hk.1.2,hk.2⟩⟩⟩⟩)⟩,⟨by (with_reducible repeat (first | apply zu | apply zt | apply zs)); exact zx cb.out (fun _ hk => ⟨hk.1.1.1.2,⟨hk.1.1.2,⟨hk.1.1.1.1,⟨hk.1.2,hk.2⟩⟩⟩⟩)⟩,⟨by (with_reducible repeat (first | apply zu | apply zt | apply zs)); exact zx cc.out (fun _ hk => ⟨hk.1.1.1.2,⟨hk.1.1.2,⟨hk.1.1.1.1,⟨hk.1.2,hk.2⟩⟩⟩⟩)⟩,⟨by (with_reducible repeat (first | apply zu | apply zt | apply zs)); exact zx ct.out (fun _ hk => ⟨hk.1.1.1.2,⟨hk.1.1.2,⟨hk.1.2,⟨hk.2,hk.1.1.1.1⟩⟩⟩⟩)⟩,⟨by (with_reducible repeat (first | apply zu | apply zt | apply zs)); exact zx cu.out (fun _ hk => ⟨hk.1.1.1.2,⟨hk.1.1.2,⟨hk.1.2,⟨hk.2,hk.1.1.1.1⟩⟩⟩⟩)⟩,⟨by (with_reducible repeat (first | refine zj ?_ _ | refine zl ?_ | refine zk ?_ _)); exact ac.out⟩,⟨by (with_reducible repeat (first | refine zj ?_ _ | refine zl ?_ | refine zk ?_ _)); exact ab.out⟩,⟨by (with_reducible repeat (first | refine zj ?_ _ | refine zl ?_ | refine zk ?_ _)); exact af.out⟩,⟨by (with_reducible repeat (first | refine zj ?_ _ | refine zl ?_ | refine zk ?_ _)); exact ad.out⟩,⟨by (with_reducible repeat (first | refine zj ?_ _ | refine zl ?_ | refine zk ?_ _)); exact ar.out⟩,⟨by repeat (first | (with_reducible first | exact HB.out | apply Zq | apply Zp | apply Zo | refine Zn ?_ aC.out | refine Zn ?_ aE.out | refine Zn ?_ bs.out | refine Zn ?_ bZ.out | refine Zn ?_ cm.out) | exact HB.out)⟩⟩
     case round =>
      clear H'
      try clear c1
      try clear c2
      try clear p2
      try clear c3
      try clear c4
      try clear c5
      try clear c8
      try clear c9
      try clear mz
      try clear ds
      try clear cW
      try clear fa
      try clear mA
      try clear oG
      try clear mB
      try clear fe
      try clear eY
      try clear iP
      try clear iQ
      try clear oH
      try clear oI
      try clear oJ
      try clear oK
      try clear oL
      try clear oM
      try clear oN
      try clear oO
      try clear oP
      try clear oQ
      try clear dJ
      try clear dK
      try clear dL
      try clear dM
      try clear dN
      try clear dT
      try clear dU
      try clear dV
      try clear dW
      try clear dX
      try clear ed
      try clear ee
      try clear ef
      try clear eg
      try clear eh
      try clear ei
      try clear ej
      try clear ek
      try clear el
      try clear ew
      try clear ex
      try clear ey
      try clear ez
      try clear eA
      try clear eG
      try clear eH
      try clear eI
      try clear eJ
      try clear eK
      try clear eL
      try clear eM
      try clear eN
      try clear eO
      try clear fH
      try clear fI
      try clear fJ
      try clear fK
      try clear fL
      try clear fR
      try clear fS
      try clear fT
      try clear fU
      try clear fV
      try clear gb
      try clear gc
      try clear gd
      try clear gf
      try clear gg
      try clear gn
      try clear gp
      try clear gq
      try clear gr
      try clear gs
      try clear gu
      try clear gv
      try clear gw
      try clear gx
      try clear gH
      try clear gI
      try clear gJ
      try clear gK
      try clear gL
      try clear gR
      try clear gS
      try clear gT
      try clear gU
      try clear gV
      try clear gW
      try clear gX
      try clear gY
      try clear gZ
      try clear hu
      try clear hv
      try clear hx
      try clear hy
      try clear hz
      try clear ia
      try clear ib
      try clear ic
      try clear ie
      try clear dO
      try clear dP
      try clear dQ
      try clear dR
      try clear dS
      try clear dY
      try clear dZ
      try clear ea
      try clear eb
      try clear ec
      try clear em
      try clear en
      try clear eo
      try clear ep
      try clear er
      try clear es
      try clear et
      try clear eu
      try clear ev
      try clear eB
      try clear eC
      try clear eD
      try clear eE
      try clear eF
      try clear eP
      try clear eQ
      try clear eR
      try clear eS
      try clear eT
      try clear eU
      try clear eV
      try clear eW
      try clear eX
      try clear fM
      try clear fN
      try clear fO
      try clear fP
      try clear fQ
      try clear fW
      try clear fX
      try clear fY
      try clear fZ
      try clear ga
      try clear gh
      try clear gi
      try clear gj
      try clear gl
      try clear gm
      try clear gy
      try clear gz
      try clear gA
      try clear gB
      try clear gC
      try clear gD
      try clear gE
      try clear gF
      try clear gG
      try clear gM
      try clear gN
      try clear gO
      try clear gP
      try clear gQ
      try clear ha
      try clear hc
      try clear hf
      try clear hh
      try clear hj
      try clear hl
      try clear hm
      try clear hq
      try clear ht
      try clear ig
      try clear ih
      try clear ii
      try clear ij
      try clear ik
      try clear il
      try clear im
      try clear ip
      try clear iq
      try clear p2
      obtain ⟨cd,bo,bq,aB,cv,dd,de,bi,bj,cf,aO,aY,aZ,rfl,HA,HK2,HO_292002,HO_292003,HO_307004,HO_307005,HO_322004,HO_322005,ac,ab,af,ad,ar,HB⟩ := hrel
      cases gk with
      | zero => exact absurd HA.out (by simp [L_ChunkBegins.l0])
      | succ k2 =>
       have H := HA.out
       clear HA
       simp only [L_ChunkBegins.l0] at H
       by_cases eZ : cd < (aB.length : Int)
       ·
        rw [if_pos eZ] at H
        have iR : decide (cd < (aB.length : Int)) = true := zzn eZ
        clear eZ
        by_cases fq : 0 ≤ cd
        ·
         rw [if_pos fq] at H
         have nI : decide (0 ≤ cd) = true := zzn fq
         clear fq
         obtain ⟨fg,hy323⟩ : ∃ y_ : List Int,y_ = (aB.set (cd : Int).toNat 77) := ⟨_,rfl⟩
         replace H : (L_ChunkBegins.l0 k2 ck (wrap64 (cd + 1)) al am aj ak an av aw ax ay ap aq az ao aA aG aL bo bq aT aF aH aM aN fg cv aU aV aW) = some r := by first | (rw [hy323]; with_reducible exact H) | (have iD := (zzi _ _).symm.trans H; rw [hy323]; with_reducible exact iD) | (have iD := (zzi _ _).symm.trans H; with_reducible exact iD) | with_reducible exact H | (rw [hy323]; exact H) | exact H
         have iS := zzk hy323
         clear hy323
         have H' := zzk H
         clear H
         have nJ := cE.out
         have nK := bC.out
         have nL := cF.out
         have nM := bD.out
         have nN := cG.out
         have nO := bE.out
         have nP := bF.out
         have nQ := cH.out
         have kU : wr.cell? ⟨aa,0,none⟩ = some (.int .i64 aF) := (zi ad.out 0).trans rfl
         have kV : wr.cell? ⟨aa,1,none⟩ = some (.int .i64 aH) := (zi ad.out 1).trans rfl
         have kW : wr.cell? ⟨aa,2,none⟩ = some (.int .i64 aM) := (zi ad.out 2).trans rfl
         have kX : wr.cell? ⟨aa,3,none⟩ = some (.int .i64 aN) := (zi ad.out 3).trans rfl
         have kY : wr.cell? ⟨aa,4,none⟩ = some (cf) := (zi ad.out 4).trans rfl
         have kZ : wr.cell? ⟨aa,5,none⟩ = some (aO) := (zi ad.out 5).trans rfl
         have la : wr.cell? ⟨aa,6,none⟩ = some (.int .i64 aU) := (zi ad.out 6).trans rfl
         have lb : wr.cell? ⟨aa,7,none⟩ = some (.string aV) := (zi ad.out 7).trans rfl
         have lc : wr.cell? ⟨aa,8,none⟩ = some (.bool aW) := (zi ad.out 8).trans rfl
         have ld := zm ad.out 0
         have lf := zm ad.out 1
         have lg := zm ad.out 2
         have lh := zm ad.out 3
         have li := zm ad.out 4
         have lj := zm ad.out 5
         have lk := zm ad.out 6
         have ll := zm ad.out 7
         have lm := zm ad.out 8
         obtain ⟨ov,cr,eo68⟩ := zz HO_307004.out
         subst eo68
         have p62 : 0 ≤ (cd : Int) := of_decide_eq_true (by first | (with_reducible assumption) | assumption)
         have iE : (cd : Int) < ((aB.length : Int) : Int) := of_decide_eq_true (by first | (with_reducible assumption) | assumption)
         obtain ⟨go62,ow,eo62,iF,gl62,cl62,HG62⟩ := Kd.R_form HO_307004.out (by omega)
         (first | cases eo62 | (injection eo62 with ea_ en_ ec_; (first | subst ea_ | (injection ea_ with ea_; subst ea_)); subst ec_; clear en_))
         have GB62 := zzk iF
         have GG62 := zzk HG62
         clear iF gl62 HG62
         obtain ⟨hx62_0,hf62_0⟩ := Kd.R_celln 0 HO_307004.out (cd : Int) p62 iE
         replace p62 := eq_true p62
         replace iE := eq_true iE
         have HP69 := Kd.R_putg HO_307004.out (cd : Int) 77
         go_wp2_with (first | ((with_reducible refine gate_store (t := 3) (p := 66) rfl ?_); refine store_event (t := 3) (p := 66) (v := ?vo_w70) (w1 := (wr.setCell ⟨go62,(cd : Int).toNat,none⟩ (.int .i64 77))) ?hg ?ho ?hn ?hr ?_; (case ho => rfl); (case hg => rfl); (case hn => rfl); (case hr => first | (go_simp; done) | (go_simp; rfl)); intro iG hw; have hg : wr.grownBy iG (some go62) := (by rw [hw]; exact HP69.2); have hp_ : Kd.R (Kd.int .i64) 3 iG w.heap.size (fun k_ => some k_ ≠ (bi : Value).ownBlock ∧ some k_ ≠ (bj : Value).ownBlock ∧ some k_ ≠ (aO : Value).ownBlock ∧ some k_ ≠ (aY : Value).ownBlock ∧ some k_ ≠ (aZ : Value).ownBlock) (.slice (some ⟨go62,0,none⟩) aB.length cr) fg := (by rw [hw,iS.out]; exact HP69.1); clear HP69; have aI := zzk (Kd.R_after (v := (.slice (some ⟨go62,0,none⟩) aB.length cr)) (v1 := (.slice (some ⟨go62,0,none⟩) aB.length cr)) (ok := (fun k_ => some k_ ≠ (bj : Value).ownBlock ∧ some k_ ≠ (aO : Value).ownBlock ∧ some k_ ≠ (aY : Value).ownBlock ∧ some k_ ≠ (aZ : Value).ownBlock)) (by (with_reducible repeat (first | apply zu | apply zt | apply zs)); exact zx HO_292002.out (fun _ hk => ⟨⟨hk.1,⟨hk.2.2.1,⟨hk.2.2.2.1,hk.2.2.2.2⟩⟩⟩,hk.2.1⟩)) hg (.inl rfl)); have aJ := zzk (Kd.R_after (v := (.slice (some ⟨go62,0,none⟩) aB.length cr)) (v1 := (.slice (some ⟨go62,0,none⟩) aB.length cr)) (ok := (fun k_ => some k_ ≠ (bi : Value).ownBlock ∧ some k_ ≠ (aO : Value).ownBlock ∧ some k_ ≠ (aY : Value).ownBlock ∧ some k_ ≠ (aZ : Value).ownBlock)) (by (with_reducible repeat (first | apply zu | apply zt | apply zs)); exact zx HO_292003.out (fun _ hk => ⟨⟨hk.1,⟨hk.2.2.1,⟨hk.2.2.2.1,hk.2.2.2.2⟩⟩⟩,hk.2.1⟩)) hg (.inl rfl)); have aK := zzk (hp_); have ba := zzk (Kd.R_after (v := (.slice (some ⟨go62,0,none⟩) aB.length cr)) (v1 := (.slice (some ⟨go62,0,none⟩) aB.length cr)) (ok := (fun k_ => some k_ ≠ (bi : Value).ownBlock ∧ some k_ ≠ (bj : Value).ownBlock ∧ some k_ ≠ (aY : Value).ownBlock ∧ some k_ ≠ (aZ : Value).ownBlock)) (by (with_reducible repeat (first | apply zu | apply zt | apply zs)); exact zx HO_307005.out (fun _ hk => ⟨⟨hk.1,⟨hk.2.1,⟨hk.2.2.2.1,hk.2.2.2.2⟩⟩⟩,hk.2.2.1⟩)) hg (.inl rfl)); have bk := zzk (Kd.R_after (v := (.slice (some ⟨go62,0,none⟩) aB.length cr)) (v1 := (.slice (some ⟨go62,0,none⟩) aB.length cr)) (ok := (fun k_ => some k_ ≠ (bi : Value).ownBlock ∧ some k_ ≠ (bj : Value).ownBlock ∧ some k_ ≠ (aO : Value).ownBlock ∧ some k_ ≠ (aZ : Value).ownBlock)) (by (with_reducible repeat (first | apply zu | apply zt | apply zs)); exact zx HO_322004.out (fun _ hk => ⟨⟨hk.1,⟨hk.2.1,⟨hk.2.2.2.1,hk.2.2.2.2⟩⟩⟩,hk.2.2.1⟩)) hg (.inl rfl)); have bl := zzk (Kd.R_after (v := (.slice (some ⟨go62,0,none⟩) aB.length cr)) (v1 := (.slice (some ⟨go62,0,none⟩) aB.length cr)) (ok := (fun k_ => some k_ ≠ (bi : Value).ownBlock ∧ some k_ ≠ (bj : Value).ownBlock ∧ some k_ ≠ (aO : Value).ownBlock ∧ some k_ ≠ (aY : Value).ownBlock)) (by (with_reducible repeat (first | apply zu | apply zt | apply zs)); exact zx HO_322005.out (fun _ hk => ⟨⟨hk.1,⟨hk.2.1,⟨hk.2.2.2.1,hk.2.2.2.2⟩⟩⟩,hk.2.2.1⟩)) hg (.inl rfl)); have bm := zzk (blk_grown (g := ai) (o := .cells #[.int .i64 al,.int .i64 am,.slice aP aj.length aQ,.slice aR ak.length aS,.string an] 26 (0,0)) (by (with_reducible repeat (first | refine zj ?_ _ | refine zl ?_ | refine zk ?_ _)); exact ac.out) hg (Kd.R_ne HO_307004.out ac.out (by decide))); have bv := zzk (blk_grown (g := ag) (o := .cells #[.int .i64 av,.int .i64 aw,.int .i64 ax,.int .i64 ay,.slice bb ap.length bc,.slice bd aq.length be,.int .i64 az,.string ao,.bool aA] 34 (0,0)) (by (with_reducible repeat (first | refine zj ?_ _ | refine zl ?_ | refine zk ?_ _)); exact ab.out) hg (Kd.R_ne HO_307004.out ab.out (by decide))); have bA := zzk (blk_grown (g := ah) (o := .cells #[.int .i64 aG,.int .i64 aL,bi,bj,.string aT] 26 (0,0)) (by (with_reducible repeat (first | refine zj ?_ _ | refine zl ?_ | refine zk ?_ _)); exact af.out) hg (Kd.R_ne HO_307004.out af.out (by decide))); have bB := zzk (blk_grown (g := aa) (o := .cells #[.int .i64 aF,.int .i64 aH,.int .i64 aM,.int .i64 aN,.slice (some ⟨go62,0,none⟩) aB.length cr,aO,.int .i64 aU,.string aV,.bool aW] 34 (0,0)) (by (with_reducible repeat (first | refine zj ?_ _ | refine zl ?_ | refine zk ?_ _)); exact ad.out) hg (Kd.R_ne HO_307004.out ad.out (by decide))); have aX := zzk (blk_grown (g := ae) (o := .cells #[.int .i64 bw,.int .i64 bx,.int .i64 bG,.int .i64 bJ,aY,aZ,.int .i64 bP,.string bT,.bool bX] 34 (0,0)) (by (with_reducible repeat (first | refine zj ?_ _ | refine zl ?_ | refine zk ?_ _)); exact ar.out) hg (Kd.R_ne HO_307004.out ar.out (by decide))); have bh := zzk ((by rw [hw]; exact Zn (HB.out) GB62.out : Below w.heap.size w iG)); clear HO_292002; clear HO_292003; clear HO_307004; clear HO_307005; clear HO_322004; clear HO_322005; clear ac; clear ab; clear af; clear ad; clear ar; clear HB; have HO_292002 := aI; have HO_292003 := aJ; have HO_307004 := aK; have HO_307005 := ba; have HO_322004 := bk; have HO_322005 := bl; have ac := bm; have ab := bv; have af := bA; have ad := bB; have ar := aX; have HB := bh; clear aI aJ aK ba bk bl bm bv bA bB aX bh; clear hg hw hp_))
         go_roundg k2
         case measure => have := HJ4.out; have := HK2.out; omega
         case rel => exact ⟨(wrap64 (cd + 1)),(bo),(bq),(fg),(cv),(dd),(de),(bi),(bj),(.slice (some ⟨go62,0,none⟩) aB.length cr),(aO),(aY),(aZ),(by first | rfl | (simp; done) | (simp [*]; done)),H',⟨by have := HJ4.out; have := HK2.out; omega⟩,⟨by (with_reducible repeat (first | apply zu | apply zt | apply zs)); exact zx HO_292002.out (fun _ hk => ⟨hk.1.1,⟨hk.2,⟨hk.1.2.1,⟨hk.1.2.2.1,hk.1.2.2.2⟩⟩⟩⟩)⟩,⟨by (with_reducible repeat (first | apply zu | apply zt | apply zs)); exact zx HO_292003.out (fun _ hk => ⟨hk.1.1,⟨hk.2,⟨hk.1.2.1,⟨hk.1.2.2.1,hk.1.2.2.2⟩⟩⟩⟩)⟩,⟨by (with_reducible repeat (first | apply zu | apply zt | apply zs)); exact HO_307004.out⟩,⟨by (with_reducible repeat (first | apply zu | apply zt | apply zs)); exact zx HO_307005.out (fun _ hk => ⟨hk.1.1,⟨hk.1.2.1,⟨hk.2,⟨hk.1.2.2.1,hk.1.2.2.2⟩⟩⟩⟩)⟩,⟨by (with_reducible repeat (first | apply zu | apply zt | apply zs)); exact zx HO_322004.out (fun _ hk => ⟨hk.1.1,⟨hk.1.2.1,⟨hk.2,⟨hk.1.2.2.1,hk.1.2.2.2⟩⟩⟩⟩)⟩,⟨by (with_reducible repeat (first | apply zu | apply zt | apply zs)); exact zx HO_322005.out (fun _ hk => ⟨hk.1.1,⟨hk.1.2.1,⟨hk.2,⟨hk.1.2.2.1,hk.1.2.2.2⟩⟩⟩⟩)⟩,⟨by (with_reducible repeat (first | refine zj ?_ _ | refine zl ?_ | refine zk ?_ _)); exact ac.out⟩,⟨by (with_reducible repeat (first | refine zj ?_ _ | refine zl ?_ | refine zk ?_ _)); exact ab.out⟩,⟨by (with_reducible repeat (first | refine zj ?_ _ | refine zl ?_ | refine zk ?_ _)); exact af.out⟩,⟨by (with_reducible repeat (first | refine zj ?_ _ | refine zl ?_ | refine zk ?_ _)); exact ad.out⟩,⟨by (with_reducible repeat (first | refine zj ?_ _ | refine zl ?_ | refine zk ?_ _)); exact ar.out⟩,⟨by repeat (first | (with_reducible first | exact HB.out | apply Zq | apply Zp | apply Zo | refine Zn ?_ aC.out | refine Zn ?_ aE.out | refine Zn ?_ bs.out | refine Zn ?_ bZ.out | refine Zn ?_ cm.out) | exact HB.out)⟩⟩
        ·
         rw [if_neg fq] at H
         exact absurd H (by simp)
       ·
        rw [if_neg eZ] at H
        have iR : decide (cd < (aB.length : Int)) = false := zzo eZ
        clear eZ
        replace H := Option.bind_eq_some_iff.mp H
        obtain ⟨bR,iH,H⟩ := H
        replace H : ((L_begins.f k2).bind fun dp => (if dp = true then (if ck = true then ((r08_SameSnap.f k2 al am aj ak an aG aL bo bq aT).bind fun cw => (if cw = true then ((r16_Right.f k2 av aw ax ay ap aq az ao aA).bind fun bS => (if bR = 0 then (if bS = true then (some true) else (none)) else (if bS = true then (none) else (some (bR == 150))))) else (none))) else (none)) else (none))) = some r := H
        have iX := zzk iH
        clear iH
        replace H := Option.bind_eq_some_iff.mp H
        obtain ⟨dp,iI,H⟩ := H
        replace H : (if dp = true then (if ck = true then ((r08_SameSnap.f k2 al am aj ak an aG aL bo bq aT).bind fun cw => (if cw = true then ((r16_Right.f k2 av aw ax ay ap aq az ao aA).bind fun bS => (if bR = 0 then (if bS = true then (some true) else (none)) else (if bS = true then (none) else (some (bR == 150))))) else (none))) else (none)) else (none)) = some r := H
        have iY := zzk iI
        clear iI
        by_cases fr : dp = true
        ·
         subst fr
         have H1 : (if ck = true then ((r08_SameSnap.f k2 al am aj ak an aG aL bo bq aT).bind fun cw => (if cw = true then ((r16_Right.f k2 av aw ax ay ap aq az ao aA).bind fun bS => (if bR = 0 then (if bS = true then (some true) else (none)) else (if bS = true then (none) else (some (bR == 150))))) else (none))) else (none)) = some r := by rw [if_pos rfl] at H; exact H
         clear H
         have H := H1
         clear H1
         by_cases fs : ck = true
         ·
          subst fs
          have H1 : ((r08_SameSnap.f k2 al am aj ak an aG aL bo bq aT).bind fun cw => (if cw = true then ((r16_Right.f k2 av aw ax ay ap aq az ao aA).bind fun bS => (if bR = 0 then (if bS = true then (some true) else (none)) else (if bS = true then (none) else (some (bR == 150))))) else (none))) = some r := by rw [if_pos rfl] at H; exact H
          clear H
          have H := H1
          clear H1
          replace H := Option.bind_eq_some_iff.mp H
          obtain ⟨cw,iJ,H⟩ := H
          replace H : (if cw = true then ((r16_Right.f k2 av aw ax ay ap aq az ao aA).bind fun bS => (if bR = 0 then (if bS = true then (some true) else (none)) else (if bS = true then (none) else (some (bR == 150))))) else (none)) = some r := H
          have iZ := zzk iJ
          clear iJ
          by_cases ft : cw = true
          ·
           subst ft
           have H1 : ((r16_Right.f k2 av aw ax ay ap aq az ao aA).bind fun bS => (if bR = 0 then (if bS = true then (some true) else (none)) else (if bS = true then (none) else (some (bR == 150))))) = some r := by rw [if_pos rfl] at H; exact H
           clear H
           have H := H1
           clear H1
           replace H := Option.bind_eq_some_iff.mp H
           obtain ⟨bS,iK,H⟩ := H
           replace H : (if bR = 0 then (if bS = true then (some true) else (none)) else (if bS = true then (none) else (some (bR == 150)))) = some r := H
           have ja := zzk iK
           clear iK
           by_cases dC : bR = 0
           ·
            rw [if_pos dC] at H
            have iT : (bR == 0) = true := beq_iff_eq.mpr dC
            have iU : (bR != 0) = false := bne_eq_false_iff_eq.mpr dC
            clear dC
            by_cases fu : bS = true
            ·
             subst fu
             have H1 : (some true) = some r := by rw [if_pos rfl] at H; exact H
             clear H
             have H := H1
             clear H1
             obtain rfl := zzu H
             have nR := cE.out
             have nS := bC.out
             have nT := cF.out
             have nU := bD.out
             have nV := cG.out
             have nW := bE.out
             have nX := bF.out
             have nY := cH.out
             have ln : wr.cell? ⟨aa,0,none⟩ = some (.int .i64 aF) := (zi ad.out 0).trans rfl
             have lo : wr.cell? ⟨aa,1,none⟩ = some (.int .i64 aH) := (zi ad.out 1).trans rfl
             have lp : wr.cell? ⟨aa,2,none⟩ = some (.int .i64 aM) := (zi ad.out 2).trans rfl
             have lq : wr.cell? ⟨aa,3,none⟩ = some (.int .i64 aN) := (zi ad.out 3).trans rfl
             have lr : wr.cell? ⟨aa,4,none⟩ = some (cf) := (zi ad.out 4).trans rfl
             have ls : wr.cell? ⟨aa,5,none⟩ = some (aO) := (zi ad.out 5).trans rfl
             have lu : wr.cell? ⟨aa,6,none⟩ = some (.int .i64 aU) := (zi ad.out 6).trans rfl
             have lv : wr.cell? ⟨aa,7,none⟩ = some (.string aV) := (zi ad.out 7).trans rfl
             have lw : wr.cell? ⟨aa,8,none⟩ = some (.bool aW) := (zi ad.out 8).trans rfl
             have lx := zm ad.out 0
             have ly := zm ad.out 1
             have lz := zm ad.out 2
             have lA := zm ad.out 3
             have lB := zm ad.out 4
             have lC := zm ad.out 5
             have lD := zm ad.out 6
             have lE := zm ad.out 7
             have lF := zm ad.out 8
             obtain ⟨fb,fc,eo85⟩ := zz HO_307004.out
             subst eo85
             have nZ := co.out
             have oa := cn.out
             have ob := ch.out
             have oc := cZ.out
             have od := bM.out
             have oe := db.out
             have lG : wr.cell? ⟨ag,0,none⟩ = some (.int .i64 av) := (zi ab.out 0).trans rfl
             have lH : wr.cell? ⟨ag,1,none⟩ = some (.int .i64 aw) := (zi ab.out 1).trans rfl
             have lI : wr.cell? ⟨ag,2,none⟩ = some (.int .i64 ax) := (zi ab.out 2).trans rfl
             have lJ : wr.cell? ⟨ag,3,none⟩ = some (.int .i64 ay) := (zi ab.out 3).trans rfl
             have lK : wr.cell? ⟨ag,4,none⟩ = some (.slice bb ap.length bc) := (zi ab.out 4).trans rfl
             have lL : wr.cell? ⟨ag,5,none⟩ = some (.slice bd aq.length be) := (zi ab.out 5).trans rfl
             have lM : wr.cell? ⟨ag,6,none⟩ = some (.int .i64 az) := (zi ab.out 6).trans rfl
             have lN : wr.cell? ⟨ag,7,none⟩ = some (.string ao) := (zi ab.out 7).trans rfl
             have lO : wr.cell? ⟨ag,8,none⟩ = some (.bool aA) := (zi ab.out 8).trans rfl
             have lP := zm ab.out 0
             have lQ := zm ab.out 1
             have lR := zm ab.out 2
             have lS := zm ab.out 3
             have lT := zm ab.out 4
             have lU := zm ab.out 5
             have lV := zm ab.out 6
             have lW := zm ab.out 7
             have lX := zm ab.out 8
             go_wp2_with (first | ((with_reducible refine zza (f := 17) rfl ?_); refine zzd (some 68) rfl rfl Try.func17 (by kernel_rfl) rfl #[.agg #[.int .i64 av,.int .i64 aw,.int .i64 ax,.int .i64 ay,.slice bb ap.length bc,.slice bd aq.length be,.int .i64 az,.string ao,.bool aA]] rfl (by (try simp only [zd,ze,zf]); first | done | rfl | (simp only [zg,zh]; rfl)) ?_; (with_reducible refine (chunk_Check.calls k2 av aw ax ay _ _ ap _ _ aq az ao aA bR _ ?side1 ?side2 ?side3 ?side4 iX.out).mono ?_); (case side1 => repeat (first | exact (Zm dh.out HB.out) | (with_reducible refine Zk ?_ _) | (with_reducible refine Zj ?_ _) | (with_reducible refine Zl ?_))); (case side2 => exact di.out); (case side3 => repeat (first | exact (Zm dj.out HB.out) | (with_reducible refine Zk ?_ _) | (with_reducible refine Zj ?_ _) | (with_reducible refine Zl ?_))); (case side4 => exact dk.out); rintro e oR ⟨rfl,hb⟩; refine ⟨_,rfl,?_⟩; have aI := zzk (zv (by (with_reducible repeat (first | apply zu | apply zt | apply zs)); exact HO_292002.out) hb); have aJ := zzk (zv (by (with_reducible repeat (first | apply zu | apply zt | apply zs)); exact HO_292003.out) hb); have aK := zzk (zv (by (with_reducible repeat (first | apply zu | apply zt | apply zs)); exact HO_307004.out) hb); have ba := zzk (zv (by (with_reducible repeat (first | apply zu | apply zt | apply zs)); exact HO_307005.out) hb); have bk := zzk (zv (by (with_reducible repeat (first | apply zu | apply zt | apply zs)); exact HO_322004.out) hb); have bl := zzk (zv (by (with_reducible repeat (first | apply zu | apply zt | apply zs)); exact HO_322005.out) hb); have bm := zzk (zo (g := ai) (o := .cells #[.int .i64 al,.int .i64 am,.slice aP aj.length aQ,.slice aR ak.length aS,.string an] 26 (0,0)) (by (with_reducible repeat (first | refine zj ?_ _ | refine zl ?_ | refine zk ?_ _)); exact ac.out) hb); have bv := zzk (zo (g := ag) (o := .cells #[.int .i64 av,.int .i64 aw,.int .i64 ax,.int .i64 ay,.slice bb ap.length bc,.slice bd aq.length be,.int .i64 az,.string ao,.bool aA] 34 (0,0)) (by (with_reducible repeat (first | refine zj ?_ _ | refine zl ?_ | refine zk ?_ _)); exact ab.out) hb); have bA := zzk (zo (g := ah) (o := .cells #[.int .i64 aG,.int .i64 aL,bi,bj,.string aT] 26 (0,0)) (by (with_reducible repeat (first | refine zj ?_ _ | refine zl ?_ | refine zk ?_ _)); exact af.out) hb); have bB := zzk (zo (g := aa) (o := .cells #[.int .i64 aF,.int .i64 aH,.int .i64 aM,.int .i64 aN,.slice fb aB.length fc,aO,.int .i64 aU,.string aV,.bool aW] 34 (0,0)) (by (with_reducible repeat (first | refine zj ?_ _ | refine zl ?_ | refine zk ?_ _)); exact ad.out) hb); have aX := zzk (zo (g := ae) (o := .cells #[.int .i64 bw,.int .i64 bx,.int .i64 bG,.int .i64 bJ,aY,aZ,.int .i64 bP,.string bT,.bool bX] 34 (0,0)) (by (with_reducible repeat (first | refine zj ?_ _ | refine zl ?_ | refine zk ?_ _)); exact ar.out) hb); have bh := zzk (Zs (by repeat (first | (with_reducible first | exact HB.out | apply Zq | apply Zp | apply Zo | refine Zn ?_ aC.out | refine Zn ?_ aE.out | refine Zn ?_ bs.out | refine Zn ?_ bZ.out | refine Zn ?_ cm.out) | exact HB.out)) hb); clear HO_292002; clear HO_292003; clear HO_307004; clear HO_307005; clear HO_322004; clear HO_322005; clear ac; clear ab; clear af; clear ad; clear ar; clear HB; have HO_292002 := aI; have HO_292003 := aJ; have HO_307004 := aK; have HO_307005 := ba; have HO_322004 := bk; have HO_322005 := bl; have ac := bm; have ab := bv; have af := bA; have ad := bB; have ar := aX; have HB := bh; clear aI aJ aK ba bk bl bm bv bA bB aX bh; (try clear hb); (try clear hb2); (try clear hk); (try clear hi)) | ((with_reducible refine zza (f := 18) rfl ?_); refine zzd (some 69) rfl rfl Try.func18 (by kernel_rfl) rfl #[] rfl (by (try simp only [zd,ze,zf]); first | done | rfl | (simp only [zg,zh]; rfl)) ?_; (with_reducible refine (L_begins.calls k2  true _ iY.out).mono ?_); rintro e dg ⟨rfl,hb⟩; refine ⟨_,rfl,?_⟩; have aI := zzk (zv (by (with_reducible repeat (first | apply zu | apply zt | apply zs)); exact HO_292002.out) hb); have aJ := zzk (zv (by (with_reducible repeat (first | apply zu | apply zt | apply zs)); exact HO_292003.out) hb); have aK := zzk (zv (by (with_reducible repeat (first | apply zu | apply zt | apply zs)); exact HO_307004.out) hb); have ba := zzk (zv (by (with_reducible repeat (first | apply zu | apply zt | apply zs)); exact HO_307005.out) hb); have bk := zzk (zv (by (with_reducible repeat (first | apply zu | apply zt | apply zs)); exact HO_322004.out) hb); have bl := zzk (zv (by (with_reducible repeat (first | apply zu | apply zt | apply zs)); exact HO_322005.out) hb); have bm := zzk (zo (g := ai) (o := .cells #[.int .i64 al,.int .i64 am,.slice aP aj.length aQ,.slice aR ak.length aS,.string an] 26 (0,0)) (by (with_reducible repeat (first | refine zj ?_ _ | refine zl ?_ | refine zk ?_ _)); exact ac.out) hb); have bv := zzk (zo (g := ag) (o := .cells #[.int .i64 av,.int .i64 aw,.int .i64 ax,.int .i64 ay,.slice bb ap.length bc,.slice bd aq.length be,.int .i64 az,.string ao,.bool aA] 34 (0,0)) (by (with_reducible repeat (first | refine zj ?_ _ | refine zl ?_ | refine zk ?_ _)); exact ab.out) hb); have bA := zzk (zo (g := ah) (o := .cells #[.int .i64 aG,.int .i64 aL,bi,bj,.string aT] 26 (0,0)) (by (with_reducible repeat (first | refine zj ?_ _ | refine zl ?_ | refine zk ?_ _)); exact af.out) hb); have bB := zzk (zo (g := aa) (o := .cells #[.int .i64 aF,.int .i64 aH,.int .i64 aM,.int .i64 aN,.slice fb aB.length fc,aO,.int .i64 aU,.string aV,.bool aW] 34 (0,0)) (by (with_reducible repeat (first | refine zj ?_ _ | refine zl ?_ | refine zk ?_ _)); exact ad.out) hb); have aX := zzk (zo (g := ae) (o := .cells #[.int .i64 bw,.int .i64 bx,.int .i64 bG,.int .i64 bJ,aY,aZ,.int .i64 bP,.string bT,.bool bX] 34 (0,0)) (by (with_reducible repeat (first | refine zj ?_ _ | refine zl ?_ | refine zk ?_ _)); exact ar.out) hb); have bh := zzk (Zs (by repeat (first | (with_reducible first | exact HB.out | apply Zq | apply Zp | apply Zo | refine Zn ?_ aC.out | refine Zn ?_ aE.out | refine Zn ?_ bs.out | refine Zn ?_ bZ.out | refine Zn ?_ cm.out) | exact HB.out)) hb); clear HO_292002; clear HO_292003; clear HO_307004; clear HO_307005; clear HO_322004; clear HO_322005; clear ac; clear ab; clear af; clear ad; clear ar; clear HB; have HO_292002 := aI; have HO_292003 := aJ; have HO_307004 := aK; have HO_307005 := ba; have HO_322004 := bk; have HO_322005 := bl; have ac := bm; have ab := bv; have af := bA; have ad := bB; have ar := aX; have HB := bh; clear aI aJ aK ba bk bl bm bv bA bB aX bh; (try clear hb); (try clear hb2); (try clear hk); (try clear hi); have og := cg.out; have oh := cY.out; have oi := bL.out; have oj := da.out; have lY : dg.cell? ⟨ai,0,none⟩ = some (.int .i64 al) := (zi ac.out 0).trans rfl; have lZ : dg.cell? ⟨ai,1,none⟩ = some (.int .i64 am) := (zi ac.out 1).trans rfl; have ma : dg.cell? ⟨ai,2,none⟩ = some (.slice aP aj.length aQ) := (zi ac.out 2).trans rfl; have mb : dg.cell? ⟨ai,3,none⟩ = some (.slice aR ak.length aS) := (zi ac.out 3).trans rfl; have mc : dg.cell? ⟨ai,4,none⟩ = some (.string an) := (zi ac.out 4).trans rfl; have md := zm ac.out 0; have me := zm ac.out 1; have mf := zm ac.out 2; have mg := zm ac.out 3; have mh := zm ac.out 4; have ol := bN.out; have om := dc.out; have mi : dg.cell? ⟨ah,0,none⟩ = some (.int .i64 aG) := (zi af.out 0).trans rfl; have mj : dg.cell? ⟨ah,1,none⟩ = some (.int .i64 aL) := (zi af.out 1).trans rfl; have ml : dg.cell? ⟨ah,2,none⟩ = some (bi) := (zi af.out 2).trans rfl; have mm : dg.cell? ⟨ah,3,none⟩ = some (bj) := (zi af.out 3).trans rfl; have mo : dg.cell? ⟨ah,4,none⟩ = some (.string aT) := (zi af.out 4).trans rfl; have mq := zm af.out 0; have mr := zm af.out 1; have ms := zm af.out 2; have mt := zm af.out 3; have mu := zm af.out 4; obtain ⟨iL,iM,eo97⟩ := zz HO_292002.out; subst eo97; obtain ⟨iN,iO,eo98⟩ := zz HO_292003.out; subst eo98) | (go_at_call 19; (with_reducible refine (r08_SameSnap.calls k2 al am _ _ aj _ _ ak an aG aL _ _ bo _ _ bq aT true _ ?side1 ?side2 ?side3 ?side4 ?side5 ?side6 ?side7 ?side8 iZ.out).mono ?_); (case side1 => repeat (first | exact (Zm cS.out HB.out) | (with_reducible refine Zk ?_ _) | (with_reducible refine Zj ?_ _) | (with_reducible refine Zl ?_))); (case side2 => exact cT.out); (case side3 => repeat (first | exact (Zm cU.out HB.out) | (with_reducible refine Zk ?_ _) | (with_reducible refine Zj ?_ _) | (with_reducible refine Zl ?_))); (case side4 => exact cV.out); (case side5 => repeat (first | exact (zw HO_292002.out).2.2 | (with_reducible refine Zk ?_ _) | (with_reducible refine Zj ?_ _) | (with_reducible refine Zl ?_))); (case side6 => exact (zw HO_292002.out).2.1); (case side7 => repeat (first | exact (zw HO_292003.out).2.2 | (with_reducible refine Zk ?_ _) | (with_reducible refine Zj ?_ _) | (with_reducible refine Zl ?_))); (case side8 => exact (zw HO_292003.out).2.1); rintro e dn ⟨rfl,hb⟩; have aI := zzk (zv (by (with_reducible repeat (first | apply zu | apply zt | apply zs)); exact HO_292002.out) hb); have aJ := zzk (zv (by (with_reducible repeat (first | apply zu | apply zt | apply zs)); exact HO_292003.out) hb); have aK := zzk (zv (by (with_reducible repeat (first | apply zu | apply zt | apply zs)); exact HO_307004.out) hb); have ba := zzk (zv (by (with_reducible repeat (first | apply zu | apply zt | apply zs)); exact HO_307005.out) hb); have bk := zzk (zv (by (with_reducible repeat (first | apply zu | apply zt | apply zs)); exact HO_322004.out) hb); have bl := zzk (zv (by (with_reducible repeat (first | apply zu | apply zt | apply zs)); exact HO_322005.out) hb); have bm := zzk (zo (g := ai) (o := .cells #[.int .i64 al,.int .i64 am,.slice aP aj.length aQ,.slice aR ak.length aS,.string an] 26 (0,0)) (by (with_reducible repeat (first | refine zj ?_ _ | refine zl ?_ | refine zk ?_ _)); exact ac.out) hb); have bv := zzk (zo (g := ag) (o := .cells #[.int .i64 av,.int .i64 aw,.int .i64 ax,.int .i64 ay,.slice bb ap.length bc,.slice bd aq.length be,.int .i64 az,.string ao,.bool aA] 34 (0,0)) (by (with_reducible repeat (first | refine zj ?_ _ | refine zl ?_ | refine zk ?_ _)); exact ab.out) hb); have bA := zzk (zo (g := ah) (o := .cells #[.int .i64 aG,.int .i64 aL,.slice iL bo.length iM,.slice iN bq.length iO,.string aT] 26 (0,0)) (by (with_reducible repeat (first | refine zj ?_ _ | refine zl ?_ | refine zk ?_ _)); exact af.out) hb); have bB := zzk (zo (g := aa) (o := .cells #[.int .i64 aF,.int .i64 aH,.int .i64 aM,.int .i64 aN,.slice fb aB.length fc,aO,.int .i64 aU,.string aV,.bool aW] 34 (0,0)) (by (with_reducible repeat (first | refine zj ?_ _ | refine zl ?_ | refine zk ?_ _)); exact ad.out) hb); have aX := zzk (zo (g := ae) (o := .cells #[.int .i64 bw,.int .i64 bx,.int .i64 bG,.int .i64 bJ,aY,aZ,.int .i64 bP,.string bT,.bool bX] 34 (0,0)) (by (with_reducible repeat (first | refine zj ?_ _ | refine zl ?_ | refine zk ?_ _)); exact ar.out) hb); have bh := zzk (Zs (by repeat (first | (with_reducible first | exact HB.out | apply Zq | apply Zp | apply Zo | refine Zn ?_ aC.out | refine Zn ?_ aE.out | refine Zn ?_ bs.out | refine Zn ?_ bZ.out | refine Zn ?_ cm.out) | exact HB.out)) hb); clear HO_292002; clear HO_292003; clear HO_307004; clear HO_307005; clear HO_322004; clear HO_322005; clear ac; clear ab; clear af; clear ad; clear ar; clear HB; have HO_292002 := aI; have HO_292003 := aJ; have HO_307004 := aK; have HO_307005 := ba; have HO_322004 := bk; have HO_322005 := bl; have ac := bm; have ab := bv; have af := bA; have ad := bB; have ar := aX; have HB := bh; clear aI aJ aK ba bk bl bm bv bA bB aX bh; (try clear hb); (try clear hb2); (try clear hk); (try clear hi); have jb : dn.cell? ⟨ag,0,none⟩ = some (.int .i64 av) := (zi ab.out 0).trans rfl; have jc : dn.cell? ⟨ag,1,none⟩ = some (.int .i64 aw) := (zi ab.out 1).trans rfl; have jd : dn.cell? ⟨ag,2,none⟩ = some (.int .i64 ax) := (zi ab.out 2).trans rfl; have je : dn.cell? ⟨ag,3,none⟩ = some (.int .i64 ay) := (zi ab.out 3).trans rfl; have jf : dn.cell? ⟨ag,4,none⟩ = some (.slice bb ap.length bc) := (zi ab.out 4).trans rfl; have jg : dn.cell? ⟨ag,5,none⟩ = some (.slice bd aq.length be) := (zi ab.out 5).trans rfl; have jh : dn.cell? ⟨ag,6,none⟩ = some (.int .i64 az) := (zi ab.out 6).trans rfl; have ji : dn.cell? ⟨ag,7,none⟩ = some (.string ao) := (zi ab.out 7).trans rfl; have jj : dn.cell? ⟨ag,8,none⟩ = some (.bool aA) := (zi ab.out 8).trans rfl; have jk := zm ab.out 0; have jl := zm ab.out 1; have jm := zm ab.out 2; have jn := zm ab.out 3; have jo := zm ab.out 4; have jp := zm ab.out 5; have jq := zm ab.out 6; have jr := zm ab.out 7; have js := zm ab.out 8) | (go_at_call 20; (with_reducible refine (r16_Right.calls k2 av aw ax ay _ _ ap _ _ aq az ao aA true _ ?side1 ?side2 ?side3 ?side4 ja.out).mono ?_); (case side1 => repeat (first | exact (Zm dh.out HB.out) | (with_reducible refine Zk ?_ _) | (with_reducible refine Zj ?_ _) | (with_reducible refine Zl ?_))); (case side2 => exact di.out); (case side3 => repeat (first | exact (Zm dj.out HB.out) | (with_reducible refine Zk ?_ _) | (with_reducible refine Zj ?_ _) | (with_reducible refine Zl ?_))); (case side4 => exact dk.out); rintro e ox ⟨rfl,hb⟩; have aI := zzk (zv (by (with_reducible repeat (first | apply zu | apply zt | apply zs)); exact HO_292002.out) hb); have aJ := zzk (zv (by (with_reducible repeat (first | apply zu | apply zt | apply zs)); exact HO_292003.out) hb); have aK := zzk (zv (by (with_reducible repeat (first | apply zu | apply zt | apply zs)); exact HO_307004.out) hb); have ba := zzk (zv (by (with_reducible repeat (first | apply zu | apply zt | apply zs)); exact HO_307005.out) hb); have bk := zzk (zv (by (with_reducible repeat (first | apply zu | apply zt | apply zs)); exact HO_322004.out) hb); have bl := zzk (zv (by (with_reducible repeat (first | apply zu | apply zt | apply zs)); exact HO_322005.out) hb); have bm := zzk (zo (g := ai) (o := .cells #[.int .i64 al,.int .i64 am,.slice aP aj.length aQ,.slice aR ak.length aS,.string an] 26 (0,0)) (by (with_reducible repeat (first | refine zj ?_ _ | refine zl ?_ | refine zk ?_ _)); exact ac.out) hb); have bv := zzk (zo (g := ag) (o := .cells #[.int .i64 av,.int .i64 aw,.int .i64 ax,.int .i64 ay,.slice bb ap.length bc,.slice bd aq.length be,.int .i64 az,.string ao,.bool aA] 34 (0,0)) (by (with_reducible repeat (first | refine zj ?_ _ | refine zl ?_ | refine zk ?_ _)); exact ab.out) hb); have bA := zzk (zo (g := ah) (o := .cells #[.int .i64 aG,.int .i64 aL,.slice iL bo.length iM,.slice iN bq.length iO,.string aT] 26 (0,0)) (by (with_reducible repeat (first | refine zj ?_ _ | refine zl ?_ | refine zk ?_ _)); exact af.out) hb); have bB := zzk (zo (g := aa) (o := .cells #[.int .i64 aF,.int .i64 aH,.int .i64 aM,.int .i64 aN,.slice fb aB.length fc,aO,.int .i64 aU,.string aV,.bool aW] 34 (0,0)) (by (with_reducible repeat (first | refine zj ?_ _ | refine zl ?_ | refine zk ?_ _)); exact ad.out) hb); have aX := zzk (zo (g := ae) (o := .cells #[.int .i64 bw,.int .i64 bx,.int .i64 bG,.int .i64 bJ,aY,aZ,.int .i64 bP,.string bT,.bool bX] 34 (0,0)) (by (with_reducible repeat (first | refine zj ?_ _ | refine zl ?_ | refine zk ?_ _)); exact ar.out) hb); have bh := zzk (Zs (by repeat (first | (with_reducible first | exact HB.out | apply Zq | apply Zp | apply Zo | refine Zn ?_ aC.out | refine Zn ?_ aE.out | refine Zn ?_ bs.out | refine Zn ?_ bZ.out | refine Zn ?_ cm.out) | exact HB.out)) hb); clear HO_292002; clear HO_292003; clear HO_307004; clear HO_307005; clear HO_322004; clear HO_322005; clear ac; clear ab; clear af; clear ad; clear ar; clear HB; have HO_292002 := aI; have HO_292003 := aJ; have HO_307004 := aK; have HO_307005 := ba; have HO_322004 := bk; have HO_322005 := bl; have ac := bm; have ab := bv; have af := bA; have ad := bB; have ar := aX; have HB := bh; clear aI aJ aK ba bk bl bm bv bA bB aX bh; (try clear hb); (try clear hb2); (try clear hk); (try clear hi)))
             go_ret
             exact ⟨by first | rfl | (simp [zzl,zzm] <;> rfl) | (simp [*,zzl,zzm] <;> rfl),by repeat (first | (with_reducible first | exact HB.out | apply Zq | apply Zp | apply Zo | refine Zn ?_ aC.out | refine Zn ?_ aE.out | refine Zn ?_ bs.out | refine Zn ?_ bZ.out | refine Zn ?_ cm.out) | exact HB.out)⟩
            ·
             replace fu := Bool.eq_false_iff.mpr fu
             subst fu
             have H1 : (none) = some r := by rw [if_neg (show ¬ (false = true) by decide)] at H; exact H
             clear H
             have H := H1
             clear H1
             exact absurd H (by simp)
           ·
            rw [if_neg dC] at H
            have iT : (bR == 0) = false := beq_eq_false_iff_ne.mpr dC
            have iU : (bR != 0) = true := bne_iff_ne.mpr dC
            by_cases fd : bS = true
            ·
             subst fd
             have H1 : (none) = some r := by rw [if_pos rfl] at H; exact H
             clear H
             have H := H1
             clear H1
             exact absurd H (by simp)
            ·
             replace fd := Bool.eq_false_iff.mpr fd
             subst fd
             have H1 : (some (bR == 150)) = some r := by rw [if_neg (show ¬ (false = true) by decide)] at H; exact H
             clear H
             have H := H1
             clear H1
             obtain rfl := zzu H
             have mH := cE.out
             have mI := bC.out
             have mJ := cF.out
             have mK := bD.out
             have mL := cG.out
             have mM := bE.out
             have mN := bF.out
             have mO := cH.out
             have jt : wr.cell? ⟨aa,0,none⟩ = some (.int .i64 aF) := (zi ad.out 0).trans rfl
             have ju : wr.cell? ⟨aa,1,none⟩ = some (.int .i64 aH) := (zi ad.out 1).trans rfl
             have jv : wr.cell? ⟨aa,2,none⟩ = some (.int .i64 aM) := (zi ad.out 2).trans rfl
             have jw : wr.cell? ⟨aa,3,none⟩ = some (.int .i64 aN) := (zi ad.out 3).trans rfl
             have jx : wr.cell? ⟨aa,4,none⟩ = some (cf) := (zi ad.out 4).trans rfl
             have jy : wr.cell? ⟨aa,5,none⟩ = some (aO) := (zi ad.out 5).trans rfl
             have jz : wr.cell? ⟨aa,6,none⟩ = some (.int .i64 aU) := (zi ad.out 6).trans rfl
             have jA : wr.cell? ⟨aa,7,none⟩ = some (.string aV) := (zi ad.out 7).trans rfl
             have jB : wr.cell? ⟨aa,8,none⟩ = some (.bool aW) := (zi ad.out 8).trans rfl
             have jC := zm ad.out 0
             have jD := zm ad.out 1
             have jE := zm ad.out 2
             have jF := zm ad.out 3
             have jG := zm ad.out 4
             have jH := zm ad.out 5
             have jI := zm ad.out 6
             have jJ := zm ad.out 7
             have jK := zm ad.out 8
             obtain ⟨du,dv,eo108⟩ := zz HO_307004.out
             subst eo108
             have mP := co.out
             have mQ := cn.out
             have mR := ch.out
             have mS := cZ.out
             have mT := bM.out
             have mU := db.out
             have jL : wr.cell? ⟨ag,0,none⟩ = some (.int .i64 av) := (zi ab.out 0).trans rfl
             have jM : wr.cell? ⟨ag,1,none⟩ = some (.int .i64 aw) := (zi ab.out 1).trans rfl
             have jN : wr.cell? ⟨ag,2,none⟩ = some (.int .i64 ax) := (zi ab.out 2).trans rfl
             have jO : wr.cell? ⟨ag,3,none⟩ = some (.int .i64 ay) := (zi ab.out 3).trans rfl
             have jP : wr.cell? ⟨ag,4,none⟩ = some (.slice bb ap.length bc) := (zi ab.out 4).trans rfl
             have jQ : wr.cell? ⟨ag,5,none⟩ = some (.slice bd aq.length be) := (zi ab.out 5).trans rfl
             have jR : wr.cell? ⟨ag,6,none⟩ = some (.int .i64 az) := (zi ab.out 6).trans rfl
             have jS : wr.cell? ⟨ag,7,none⟩ = some (.string ao) := (zi ab.out 7).trans rfl
             have jT : wr.cell? ⟨ag,8,none⟩ = some (.bool aA) := (zi ab.out 8).trans rfl
             have jU := zm ab.out 0
             have jV := zm ab.out 1
             have jW := zm ab.out 2
             have jX := zm ab.out 3
             have jY := zm ab.out 4
             have jZ := zm ab.out 5
             have ka := zm ab.out 6
             have kb := zm ab.out 7
             have kc := zm ab.out 8
             go_wp2_with (first | ((with_reducible refine zza (f := 17) rfl ?_); refine zzd (some 68) rfl rfl Try.func17 (by kernel_rfl) rfl #[.agg #[.int .i64 av,.int .i64 aw,.int .i64 ax,.int .i64 ay,.slice bb ap.length bc,.slice bd aq.length be,.int .i64 az,.string ao,.bool aA]] rfl (by (try simp only [zd,ze,zf]); first | done | rfl | (simp only [zg,zh]; rfl)) ?_; (with_reducible refine (chunk_Check.calls k2 av aw ax ay _ _ ap _ _ aq az ao aA bR _ ?side1 ?side2 ?side3 ?side4 iX.out).mono ?_); (case side1 => repeat (first | exact (Zm dh.out HB.out) | (with_reducible refine Zk ?_ _) | (with_reducible refine Zj ?_ _) | (with_reducible refine Zl ?_))); (case side2 => exact di.out); (case side3 => repeat (first | exact (Zm dj.out HB.out) | (with_reducible refine Zk ?_ _) | (with_reducible refine Zj ?_ _) | (with_reducible refine Zl ?_))); (case side4 => exact dk.out); rintro e oy ⟨rfl,hb⟩; refine ⟨_,rfl,?_⟩; have aI := zzk (zv (by (with_reducible repeat (first | apply zu | apply zt | apply zs)); exact HO_292002.out) hb); have aJ := zzk (zv (by (with_reducible repeat (first | apply zu | apply zt | apply zs)); exact HO_292003.out) hb); have aK := zzk (zv (by (with_reducible repeat (first | apply zu | apply zt | apply zs)); exact HO_307004.out) hb); have ba := zzk (zv (by (with_reducible repeat (first | apply zu | apply zt | apply zs)); exact HO_307005.out) hb); have bk := zzk (zv (by (with_reducible repeat (first | apply zu | apply zt | apply zs)); exact HO_322004.out) hb); have bl := zzk (zv (by (with_reducible repeat (first | apply zu | apply zt | apply zs)); exact HO_322005.out) hb); have bm := zzk (zo (g := ai) (o := .cells #[.int .i64 al,.int .i64 am,.slice aP aj.length aQ,.slice aR ak.length aS,.string an] 26 (0,0)) (by (with_reducible repeat (first | refine zj ?_ _ | refine zl ?_ | refine zk ?_ _)); exact ac.out) hb); have bv := zzk (zo (g := ag) (o := .cells #[.int .i64 av,.int .i64 aw,.int .i64 ax,.int .i64 ay,.slice bb ap.length bc,.slice bd aq.length be,.int .i64 az,.string ao,.bool aA] 34 (0,0)) (by (with_reducible repeat (first | refine zj ?_ _ | refine zl ?_ | refine zk ?_ _)); exact ab.out) hb); have bA := zzk (zo (g := ah) (o := .cells #[.int .i64 aG,.int .i64 aL,bi,bj,.string aT] 26 (0,0)) (by (with_reducible repeat (first | refine zj ?_ _ | refine zl ?_ | refine zk ?_ _)); exact af.out) hb); have bB := zzk (zo (g := aa) (o := .cells #[.int .i64 aF,.int .i64 aH,.int .i64 aM,.int .i64 aN,.slice du aB.length dv,aO,.int .i64 aU,.string aV,.bool aW] 34 (0,0)) (by (with_reducible repeat (first | refine zj ?_ _ | refine zl ?_ | refine zk ?_ _)); exact ad.out) hb); have aX := zzk (zo (g := ae) (o := .cells #[.int .i64 bw,.int .i64 bx,.int .i64 bG,.int .i64 bJ,aY,aZ,.int .i64 bP,.string bT,.bool bX] 34 (0,0)) (by (with_reducible repeat (first | refine zj ?_ _ | refine zl ?_ | refine zk ?_ _)); exact ar.out) hb); have bh := zzk (Zs (by repeat (first | (with_reducible first | exact HB.out | apply Zq | apply Zp | apply Zo | refine Zn ?_ aC.out | refine Zn ?_ aE.out | refine Zn ?_ bs.out | refine Zn ?_ bZ.out | refine Zn ?_ cm.out) | exact HB.out)) hb); clear HO_292002; clear HO_292003; clear HO_307004; clear HO_307005; clear HO_322004; clear HO_322005; clear ac; clear ab; clear af; clear ad; clear ar; clear HB; have HO_292002 := aI; have HO_292003 := aJ; have HO_307004 := aK; have HO_307005 := ba; have HO_322004 := bk; have HO_322005 := bl; have ac := bm; have ab := bv; have af := bA; have ad := bB; have ar := aX; have HB := bh; clear aI aJ aK ba bk bl bm bv bA bB aX bh; (try clear hb); (try clear hb2); (try clear hk); (try clear hi)) | ((with_reducible refine zza (f := 18) rfl ?_); refine zzd (some 69) rfl rfl Try.func18 (by kernel_rfl) rfl #[] rfl (by (try simp only [zd,ze,zf]); first | done | rfl | (simp only [zg,zh]; rfl)) ?_; (with_reducible refine (L_begins.calls k2  true _ iY.out).mono ?_); rintro e cI ⟨rfl,hb⟩; refine ⟨_,rfl,?_⟩; have aI := zzk (zv (by (with_reducible repeat (first | apply zu | apply zt | apply zs)); exact HO_292002.out) hb); have aJ := zzk (zv (by (with_reducible repeat (first | apply zu | apply zt | apply zs)); exact HO_292003.out) hb); have aK := zzk (zv (by (with_reducible repeat (first | apply zu | apply zt | apply zs)); exact HO_307004.out) hb); have ba := zzk (zv (by (with_reducible repeat (first | apply zu | apply zt | apply zs)); exact HO_307005.out) hb); have bk := zzk (zv (by (with_reducible repeat (first | apply zu | apply zt | apply zs)); exact HO_322004.out) hb); have bl := zzk (zv (by (with_reducible repeat (first | apply zu | apply zt | apply zs)); exact HO_322005.out) hb); have bm := zzk (zo (g := ai) (o := .cells #[.int .i64 al,.int .i64 am,.slice aP aj.length aQ,.slice aR ak.length aS,.string an] 26 (0,0)) (by (with_reducible repeat (first | refine zj ?_ _ | refine zl ?_ | refine zk ?_ _)); exact ac.out) hb); have bv := zzk (zo (g := ag) (o := .cells #[.int .i64 av,.int .i64 aw,.int .i64 ax,.int .i64 ay,.slice bb ap.length bc,.slice bd aq.length be,.int .i64 az,.string ao,.bool aA] 34 (0,0)) (by (with_reducible repeat (first | refine zj ?_ _ | refine zl ?_ | refine zk ?_ _)); exact ab.out) hb); have bA := zzk (zo (g := ah) (o := .cells #[.int .i64 aG,.int .i64 aL,bi,bj,.string aT] 26 (0,0)) (by (with_reducible repeat (first | refine zj ?_ _ | refine zl ?_ | refine zk ?_ _)); exact af.out) hb); have bB := zzk (zo (g := aa) (o := .cells #[.int .i64 aF,.int .i64 aH,.int .i64 aM,.int .i64 aN,.slice du aB.length dv,aO,.int .i64 aU,.string aV,.bool aW] 34 (0,0)) (by (with_reducible repeat (first | refine zj ?_ _ | refine zl ?_ | refine zk ?_ _)); exact ad.out) hb); have aX := zzk (zo (g := ae) (o := .cells #[.int .i64 bw,.int .i64 bx,.int .i64 bG,.int .i64 bJ,aY,aZ,.int .i64 bP,.string bT,.bool bX] 34 (0,0)) (by (with_reducible repeat (first | refine zj ?_ _ | refine zl ?_ | refine zk ?_ _)); exact ar.out) hb); have bh := zzk (Zs (by repeat (first | (with_reducible first | exact HB.out | apply Zq | apply Zp | apply Zo | refine Zn ?_ aC.out | refine Zn ?_ aE.out | refine Zn ?_ bs.out | refine Zn ?_ bZ.out | refine Zn ?_ cm.out) | exact HB.out)) hb); clear HO_292002; clear HO_292003; clear HO_307004; clear HO_307005; clear HO_322004; clear HO_322005; clear ac; clear ab; clear af; clear ad; clear ar; clear HB; have HO_292002 := aI; have HO_292003 := aJ; have HO_307004 := aK; have HO_307005 := ba; have HO_322004 := bk; have HO_322005 := bl; have ac := bm; have ab := bv; have af := bA; have ad := bB; have ar := aX; have HB := bh; clear aI aJ aK ba bk bl bm bv bA bB aX bh; (try clear hb); (try clear hb2); (try clear hk); (try clear hi); have mV := cg.out; have mW := cY.out; have mX := bL.out; have mY := da.out; have ke : cI.cell? ⟨ai,0,none⟩ = some (.int .i64 al) := (zi ac.out 0).trans rfl; have kf : cI.cell? ⟨ai,1,none⟩ = some (.int .i64 am) := (zi ac.out 1).trans rfl; have kg : cI.cell? ⟨ai,2,none⟩ = some (.slice aP aj.length aQ) := (zi ac.out 2).trans rfl; have kh : cI.cell? ⟨ai,3,none⟩ = some (.slice aR ak.length aS) := (zi ac.out 3).trans rfl; have ki : cI.cell? ⟨ai,4,none⟩ = some (.string an) := (zi ac.out 4).trans rfl; have kj := zm ac.out 0; have kk := zm ac.out 1; have kl := zm ac.out 2; have km := zm ac.out 3; have ko := zm ac.out 4; have mZ := bN.out; have na := dc.out; have kp : cI.cell? ⟨ah,0,none⟩ = some (.int .i64 aG) := (zi af.out 0).trans rfl; have kr : cI.cell? ⟨ah,1,none⟩ = some (.int .i64 aL) := (zi af.out 1).trans rfl; have kt : cI.cell? ⟨ah,2,none⟩ = some (bi) := (zi af.out 2).trans rfl; have ku : cI.cell? ⟨ah,3,none⟩ = some (bj) := (zi af.out 3).trans rfl; have kv : cI.cell? ⟨ah,4,none⟩ = some (.string aT) := (zi af.out 4).trans rfl; have kw := zm af.out 0; have ky := zm af.out 1; have kz := zm af.out 2; have kA := zm af.out 3; have kB := zm af.out 4; obtain ⟨fv,fw,eo120⟩ := zz HO_292002.out; subst eo120; obtain ⟨fx,fy,eo121⟩ := zz HO_292003.out; subst eo121) | (go_at_call 19; (with_reducible refine (r08_SameSnap.calls k2 al am _ _ aj _ _ ak an aG aL _ _ bo _ _ bq aT true _ ?side1 ?side2 ?side3 ?side4 ?side5 ?side6 ?side7 ?side8 iZ.out).mono ?_); (case side1 => repeat (first | exact (Zm cS.out HB.out) | (with_reducible refine Zk ?_ _) | (with_reducible refine Zj ?_ _) | (with_reducible refine Zl ?_))); (case side2 => exact cT.out); (case side3 => repeat (first | exact (Zm cU.out HB.out) | (with_reducible refine Zk ?_ _) | (with_reducible refine Zj ?_ _) | (with_reducible refine Zl ?_))); (case side4 => exact cV.out); (case side5 => repeat (first | exact (zw HO_292002.out).2.2 | (with_reducible refine Zk ?_ _) | (with_reducible refine Zj ?_ _) | (with_reducible refine Zl ?_))); (case side6 => exact (zw HO_292002.out).2.1); (case side7 => repeat (first | exact (zw HO_292003.out).2.2 | (with_reducible refine Zk ?_ _) | (with_reducible refine Zj ?_ _) | (with_reducible refine Zl ?_))); (case side8 => exact (zw HO_292003.out).2.1); rintro e cX ⟨rfl,hb⟩; have aI := zzk (zv (by (with_reducible repeat (first | apply zu | apply zt | apply zs)); exact HO_292002.out) hb); have aJ := zzk (zv (by (with_reducible repeat (first | apply zu | apply zt | apply zs)); exact HO_292003.out) hb); have aK := zzk (zv (by (with_reducible repeat (first | apply zu | apply zt | apply zs)); exact HO_307004.out) hb); have ba := zzk (zv (by (with_reducible repeat (first | apply zu | apply zt | apply zs)); exact HO_307005.out) hb); have bk := zzk (zv (by (with_reducible repeat (first | apply zu | apply zt | apply zs)); exact HO_322004.out) hb); have bl := zzk (zv (by (with_reducible repeat (first | apply zu | apply zt | apply zs)); exact HO_322005.out) hb); have bm := zzk (zo (g := ai) (o := .cells #[.int .i64 al,.int .i64 am,.slice aP aj.length aQ,.slice aR ak.length aS,.string an] 26 (0,0)) (by (with_reducible repeat (first | refine zj ?_ _ | refine zl ?_ | refine zk ?_ _)); exact ac.out) hb); have bv := zzk (zo (g := ag) (o := .cells #[.int .i64 av,.int .i64 aw,.int .i64 ax,.int .i64 ay,.slice bb ap.length bc,.slice bd aq.length be,.int .i64 az,.string ao,.bool aA] 34 (0,0)) (by (with_reducible repeat (first | refine zj ?_ _ | refine zl ?_ | refine zk ?_ _)); exact ab.out) hb); have bA := zzk (zo (g := ah) (o := .cells #[.int .i64 aG,.int .i64 aL,.slice fv bo.length fw,.slice fx bq.length fy,.string aT] 26 (0,0)) (by (with_reducible repeat (first | refine zj ?_ _ | refine zl ?_ | refine zk ?_ _)); exact af.out) hb); have bB := zzk (zo (g := aa) (o := .cells #[.int .i64 aF,.int .i64 aH,.int .i64 aM,.int .i64 aN,.slice du aB.length dv,aO,.int .i64 aU,.string aV,.bool aW] 34 (0,0)) (by (with_reducible repeat (first | refine zj ?_ _ | refine zl ?_ | refine zk ?_ _)); exact ad.out) hb); have aX := zzk (zo (g := ae) (o := .cells #[.int .i64 bw,.int .i64 bx,.int .i64 bG,.int .i64 bJ,aY,aZ,.int .i64 bP,.string bT,.bool bX] 34 (0,0)) (by (with_reducible repeat (first | refine zj ?_ _ | refine zl ?_ | refine zk ?_ _)); exact ar.out) hb); have bh := zzk (Zs (by repeat (first | (with_reducible first | exact HB.out | apply Zq | apply Zp | apply Zo | refine Zn ?_ aC.out | refine Zn ?_ aE.out | refine Zn ?_ bs.out | refine Zn ?_ bZ.out | refine Zn ?_ cm.out) | exact HB.out)) hb); clear HO_292002; clear HO_292003; clear HO_307004; clear HO_307005; clear HO_322004; clear HO_322005; clear ac; clear ab; clear af; clear ad; clear ar; clear HB; have HO_292002 := aI; have HO_292003 := aJ; have HO_307004 := aK; have HO_307005 := ba; have HO_322004 := bk; have HO_322005 := bl; have ac := bm; have ab := bv; have af := bA; have ad := bB; have ar := aX; have HB := bh; clear aI aJ aK ba bk bl bm bv bA bB aX bh; (try clear hb); (try clear hb2); (try clear hk); (try clear hi); have kC : cX.cell? ⟨ag,0,none⟩ = some (.int .i64 av) := (zi ab.out 0).trans rfl; have kD : cX.cell? ⟨ag,1,none⟩ = some (.int .i64 aw) := (zi ab.out 1).trans rfl; have kE : cX.cell? ⟨ag,2,none⟩ = some (.int .i64 ax) := (zi ab.out 2).trans rfl; have kF : cX.cell? ⟨ag,3,none⟩ = some (.int .i64 ay) := (zi ab.out 3).trans rfl; have kG : cX.cell? ⟨ag,4,none⟩ = some (.slice bb ap.length bc) := (zi ab.out 4).trans rfl; have kH : cX.cell? ⟨ag,5,none⟩ = some (.slice bd aq.length be) := (zi ab.out 5).trans rfl; have kI : cX.cell? ⟨ag,6,none⟩ = some (.int .i64 az) := (zi ab.out 6).trans rfl; have kJ : cX.cell? ⟨ag,7,none⟩ = some (.string ao) := (zi ab.out 7).trans rfl; have kK : cX.cell? ⟨ag,8,none⟩ = some (.bool aA) := (zi ab.out 8).trans rfl; have kL := zm ab.out 0; have kM := zm ab.out 1; have kN := zm ab.out 2; have kO := zm ab.out 3; have kP := zm ab.out 4; have kQ := zm ab.out 5; have kR := zm ab.out 6; have kS := zm ab.out 7; have kT := zm ab.out 8) | (go_at_call 20; (with_reducible refine (r16_Right.calls k2 av aw ax ay _ _ ap _ _ aq az ao aA false _ ?side1 ?side2 ?side3 ?side4 ja.out).mono ?_); (case side1 => repeat (first | exact (Zm dh.out HB.out) | (with_reducible refine Zk ?_ _) | (with_reducible refine Zj ?_ _) | (with_reducible refine Zl ?_))); (case side2 => exact di.out); (case side3 => repeat (first | exact (Zm dj.out HB.out) | (with_reducible refine Zk ?_ _) | (with_reducible refine Zj ?_ _) | (with_reducible refine Zl ?_))); (case side4 => exact dk.out); rintro e oz ⟨rfl,hb⟩; have aI := zzk (zv (by (with_reducible repeat (first | apply zu | apply zt | apply zs)); exact HO_292002.out) hb); have aJ := zzk (zv (by (with_reducible repeat (first | apply zu | apply zt | apply zs)); exact HO_292003.out) hb); have aK := zzk (zv (by (with_reducible repeat (first | apply zu | apply zt | apply zs)); exact HO_307004.out) hb); have ba := zzk (zv (by (with_reducible repeat (first | apply zu | apply zt | apply zs)); exact HO_307005.out) hb); have bk := zzk (zv (by (with_reducible repeat (first | apply zu | apply zt | apply zs)); exact HO_322004.out) hb); have bl := zzk (zv (by (with_reducible repeat (first | apply zu | apply zt | apply zs)); exact HO_322005.out) hb); have bm := zzk (zo (g := ai) (o := .cells #[.int .i64 al,.int .i64 am,.slice aP aj.length aQ,.slice aR ak.length aS,.string an] 26 (0,0)) (by (with_reducible repeat (first | refine zj ?_ _ | refine zl ?_ | refine zk ?_ _)); exact ac.out) hb); have bv := zzk (zo (g := ag) (o := .cells #[.int .i64 av,.int .i64 aw,.int .i64 ax,.int .i64 ay,.slice bb ap.length bc,.slice bd aq.length be,.int .i64 az,.string ao,.bool aA] 34 (0,0)) (by (with_reducible repeat (first | refine zj ?_ _ | refine zl ?_ | refine zk ?_ _)); exact ab.out) hb); have bA := zzk (zo (g := ah) (o := .cells #[.int .i64 aG,.int .i64 aL,.slice fv bo.length fw,.slice fx bq.length fy,.string aT] 26 (0,0)) (by (with_reducible repeat (first | refine zj ?_ _ | refine zl ?_ | refine zk ?_ _)); exact af.out) hb); have bB := zzk (zo (g := aa) (o := .cells #[.int .i64 aF,.int .i64 aH,.int .i64 aM,.int .i64 aN,.slice du aB.length dv,aO,.int .i64 aU,.string aV,.bool aW] 34 (0,0)) (by (with_reducible repeat (first | refine zj ?_ _ | refine zl ?_ | refine zk ?_ _)); exact ad.out) hb); have aX := zzk (zo (g := ae) (o := .cells #[.int .i64 bw,.int .i64 bx,.int .i64 bG,.int .i64 bJ,aY,aZ,.int .i64 bP,.string bT,.bool bX] 34 (0,0)) (by (with_reducible repeat (first | refine zj ?_ _ | refine zl ?_ | refine zk ?_ _)); exact ar.out) hb); have bh := zzk (Zs (by repeat (first | (with_reducible first | exact HB.out | apply Zq | apply Zp | apply Zo | refine Zn ?_ aC.out | refine Zn ?_ aE.out | refine Zn ?_ bs.out | refine Zn ?_ bZ.out | refine Zn ?_ cm.out) | exact HB.out)) hb); clear HO_292002; clear HO_292003; clear HO_307004; clear HO_307005; clear HO_322004; clear HO_322005; clear ac; clear ab; clear af; clear ad; clear ar; clear HB; have HO_292002 := aI; have HO_292003 := aJ; have HO_307004 := aK; have HO_307005 := ba; have HO_322004 := bk; have HO_322005 := bl; have ac := bm; have ab := bv; have af := bA; have ad := bB; have ar := aX; have HB := bh; clear aI aJ aK ba bk bl bm bv bA bB aX bh; (try clear hb); (try clear hb2); (try clear hk); (try clear hi)))
             go_ret
             exact ⟨by first | rfl | (simp [zzl,zzm] <;> rfl) | (simp [*,zzl,zzm] <;> rfl),by repeat (first | (with_reducible first | exact HB.out | apply Zq | apply Zp | apply Zo | refine Zn ?_ aC.out | refine Zn ?_ aE.out | refine Zn ?_ bs.out | refine Zn ?_ bZ.out | refine Zn ?_ cm.out) | exact HB.out)⟩
          ·
           replace ft := Bool.eq_false_iff.mpr ft
           subst ft
           have H1 : (none) = some r := by rw [if_neg (show ¬ (false = true) by decide)] at H; exact H
           clear H
           have H := H1
           clear H1
           exact absurd H (by simp)
         ·
          replace fs := Bool.eq_false_iff.mpr fs
          subst fs
          have H1 : (none) = some r := by rw [if_neg (show ¬ (false = true) by decide)] at H; exact H
          clear H
          have H := H1
          clear H1
          exact absurd H (by simp)
        ·
         replace fr := Bool.eq_false_iff.mpr fr
         subst fr
         have H1 : (none) = some r := by rw [if_neg (show ¬ (false = true) by decide)] at H; exact H
         clear H
         have H := H1
         clear H1
         exact absurd H (by simp)
    ·
     rw [if_neg eY] at H
     exact absurd H (by simp)
end Go.Proofs.Ytpagkmdlmhdenaa.PAll
