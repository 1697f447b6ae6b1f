-- Written by a program of the session.
import Derived.Test.YtpagkmdlmhdenaaAlAll
import Derived.Test.YtpagkmdlmhdenaaPAllx0
import Derived.Test.YtpagkmdlmhdenaaPAllx2
import Derived.Test.YtpagkmdlmhdenaaPAllx15
import Derived.Test.YtpagkmdlmhdenaaPAllx23
import Derived.Test.YtpagkmdlmhdenaaPAllx24
import Derived.Test.YtpagkmdlmhdenaaPAllx30
import Derived.Test.YtpagkmdlmhdenaaPAllx34
namespace Go.Proofs.Ytpagkmdlmhdenaa.PAll
open Go.RowKit Go.Proofs.YtpagkmdlmhdenaaW.PrintWords Go.Proofs.YtpagkmdlmhdenaaW.PrintLast Go.Proofs.YtpagkmdlmhdenaaW.PrintMore
attribute [local go_sem] max2_int min2_int max_two min_two max_three min_three max_four min_four   -- for this text's walks alone
set_option linter.unusedVariables false
set_option linter.unusedSimpArgs false
/-! ### L_ChunkTwice: function 6 -/
mutual
def L_ChunkTwice.j0 : Nat → ByteArray → Int → Bool → Int → Int → Int → Int → List Int → List Int → Int → ByteArray → Bool → Option (Bool)
 | 0,_,_,_,_,_,_,_,_,_,_,_,_ => none
 | k + 1,x1,x2,nr,bK,bL,bM,bN,bO,bP,bQ,bG,bR => if nr = true then (some true) else ((chunk_Take.f k bK bL bM bN bO bP bQ bG bR (bG.size : Int) x1).bind fun aO => (if aO.2.2.2.2.2.2.2.2.2.2 = 0 then (L_ChunkTwice.j1 k x1 x2 aO.2.2.2.2.2.2.2.2.2.2 (!aO.2.2.2.2.2.2.2.2.2.1) bK bL bM bN bO bP bQ bG bR aO.1 aO.2.1 aO.2.2.1 aO.2.2.2.1 aO.2.2.2.2.1 aO.2.2.2.2.2.1 aO.2.2.2.2.2.2.1 aO.2.2.2.2.2.2.2.1 aO.2.2.2.2.2.2.2.2.1) else (L_ChunkTwice.j1 k x1 x2 aO.2.2.2.2.2.2.2.2.2.2 true bK bL bM bN bO bP bQ bG bR aO.1 aO.2.1 aO.2.2.1 aO.2.2.2.1 aO.2.2.2.2.1 aO.2.2.2.2.2.1 aO.2.2.2.2.2.2.1 aO.2.2.2.2.2.2.2.1 aO.2.2.2.2.2.2.2.2.1)))
def L_ChunkTwice.j1 : Nat → ByteArray → Int → Int → Bool → Int → Int → Int → Int → List Int → List Int → Int → ByteArray → Bool → Int → Int → Int → Int → List Int → List Int → Int → ByteArray → Bool → Option (Bool)
 | 0,_,_,_,_,_,_,_,_,_,_,_,_,_,_,_,_,_,_,_,_,_,_ => none
 | k + 1,x1,x2,x9,ns,bK,bL,bM,bN,bO,bP,bQ,bG,bR,ca,cb,cc,cd,ce,cf,cg,bV,ch => if ns = true then ((L_takes.f k).bind fun dc => (if dc = true then (if x9 = 0 then ((r16_Same.f k ca cb cc cd ce cf cg bV ch bK bL bM bN bO bP bQ bG bR).bind fun cC => (some cC)) else (some true)) else (none))) else ((chunk_Take.f k ca cb cc cd ce cf cg bV ch (bG.size : Int) x1).bind fun bE => (if bE.2.2.2.2.2.2.2.2.2.2 = 0 then (if bE.2.2.2.2.2.2.2.2.2.1 = true then (if (x1.size : Int) > 0 then (L_ChunkTwice.j2 k x1 x2 true bK bL bM bN bO bP bQ bG bR ca cb cc cd ce cf cg bV ch) else (L_ChunkTwice.j2 k x1 x2 false bK bL bM bN bO bP bQ bG bR ca cb cc cd ce cf cg bV ch)) else ((r16_Same.f k ca cb cc cd ce cf cg bV ch bE.1 bE.2.1 bE.2.2.1 bE.2.2.2.1 bE.2.2.2.2.1 bE.2.2.2.2.2.1 bE.2.2.2.2.2.2.1 bE.2.2.2.2.2.2.2.1 bE.2.2.2.2.2.2.2.2.1).bind fun cy => (L_ChunkTwice.j2 k x1 x2 (!cy) bK bL bM bN bO bP bQ bG bR ca cb cc cd ce cf cg bV ch))) else (L_ChunkTwice.j2 k x1 x2 true bK bL bM bN bO bP bQ bG bR ca cb cc cd ce cf cg bV ch)))
def L_ChunkTwice.j2 : Nat → ByteArray → Int → Bool → Int → Int → Int → Int → List Int → List Int → Int → ByteArray → Bool → Int → Int → Int → Int → List Int → List Int → Int → ByteArray → Bool → Option (Bool)
 | 0,_,_,_,_,_,_,_,_,_,_,_,_,_,_,_,_,_,_,_,_,_ => none
 | k + 1,x1,x2,nt,bK,bL,bM,bN,bO,bP,bQ,bG,bR,ca,cb,cc,cd,ce,cf,cg,bV,ch => if nt = true then (none) else ((chunk_Take.f k bK bL bM bN bO bP bQ bG bR x2 x1).bind fun bA => ((L_takes.f k).bind fun cE => (if cE = true then ((L_begins.f k).bind fun cv => (if cv = true then (if (wrap64 ((bV.size : Int) - (x1.size : Int))) = (bG.size : Int) then ((chunk_Check.f k ca cb cc cd ce cf cg bV ch).bind fun bS => (if bS = 0 then (if bA.2.2.2.2.2.2.2.2.2.2 = 0 then (if (bA.2.2.2.2.2.2.2.2.2.1 == (x2 == (bG.size : Int))) = true then (if bA.2.2.2.2.2.2.2.2.2.1 = true then (some true) else ((r16_Same.f k bA.1 bA.2.1 bA.2.2.1 bA.2.2.2.1 bA.2.2.2.2.1 bA.2.2.2.2.2.1 bA.2.2.2.2.2.2.1 bA.2.2.2.2.2.2.2.1 bA.2.2.2.2.2.2.2.2.1 bK bL bM bN bO bP bQ bG bR).bind fun bT => (some bT))) else (none)) else (none)) else (none))) else (none)) else (none))) else (none))))
end
def L_ChunkTwice.f (k : Nat) (al : Int) (am : Int) (an : Int) (ao : Int) (aj : List Int) (ak : List Int) (ap : Int) (ag : ByteArray) (aq : Bool) (a1 : ByteArray) (a2 : Int) : Option (Bool) := if (ag.size : Int) > 262144 then (L_ChunkTwice.j0 k a1 a2 true al am an ao aj ak ap ag aq) else (if (a1.size : Int) > 262144 then (L_ChunkTwice.j0 k a1 a2 true al am an ao aj ak ap ag aq) else ((r08_BigCouncil.f aj ak).bind fun cT => (L_ChunkTwice.j0 k a1 a2 cT al am an ao aj ak ap ag aq)))
set_option maxHeartbeats 8000000 in
set_option maxRecDepth 100000 in
theorem L_ChunkTwice.calls (k : Nat) (al : Int) (am : Int) (an : Int) (ao : Int) (aV : Option Addr) (aW : Nat) (aj : List Int) (aX : Option Addr) (aY : Nat) (ak : List Int) (ap : Int) (ag : ByteArray) (aq : Bool) (a1 : ByteArray) (a2 : Int) (r : Bool) (w : World) (fs : Kd.C (Kd.int .i64) w aV aj.length aj) (ft : aj.length ≤ aW) (fu : Kd.C (Kd.int .i64) w aX ak.length ak) (fv : ak.length ≤ aY) (h : L_ChunkTwice.f k al am an ao aj ak ap ag aq a1 a2 = some r) :
 Calls Try.prog 6 #[.agg #[.int .i64 al,.int .i64 am,.int .i64 an,.int .i64 ao,.slice aV aj.length aW,.slice aX ak.length aY,.int .i64 ap,.string ag,.bool aq],.string a1,.int .i64 a2] w fun e w' => e = .returned (.bool r) ∧ Below w.heap.size w w' := by
 have hu34 := Try.underlying34
 have hu24 := Try.underlying24
 have cM := zzk fs
 have cN := zzk ft
 clear fs ft
 have cO := zzk fu
 have cP := zzk fv
 clear fu fv
 have HB := zzk (Below.refl w.heap.size w)
 have H : (if (ag.size : Int) > 262144 then (L_ChunkTwice.j0 k a1 a2 true al am an ao aj ak ap ag aq) else (if (a1.size : Int) > 262144 then (L_ChunkTwice.j0 k a1 a2 true al am an ao aj ak ap ag aq) else ((r08_BigCouncil.f aj ak).bind fun cT => (L_ChunkTwice.j0 k a1 a2 cT al am an ao aj ak ap ag aq)))) = some r := h
 clear h
 have iU := zzk H
 clear H
 go_enter Try.func6,Try.ntmps6
 go_upto_region 1 with (first | ((with_reducible refine Zy (N := 3) rfl ?_); (try (refine Zz (by rfl) ?_; dsimp only)); refine zzc ?hg (N := 3) ?hd (cs := #[.int .i64 al,.int .i64 am,.int .i64 an,.int .i64 ao,.slice aV aj.length aW,.slice aX ak.length aY,.int .i64 ap,.string ag,.bool aq]) (t := 34) ?hr ?_; (case hd => rfl); (case hg => rfl); (case hr => first | (go_simp; done) | (go_simp; rfl)); intro ae hg w5 hbox hb; have be := zzk (Zs (by repeat (first | (with_reducible first | exact HB.out | apply Zq | apply Zp | apply Zo) | exact HB.out)) hb); have bf := zzk (hbox); have bi := zzk ((by rw [hg]; exact (Zr (by repeat (first | (with_reducible first | exact HB.out | apply Zq | apply Zp | apply Zo) | exact HB.out))) : w.heap.size ≤ ae)); have bj := zzk ((by rw [hg]; exact (Zr (by repeat (first | (with_reducible first | exact HB.out | apply Zq | apply Zp | apply Zo) | exact HB.out))) : w.heap.size ≤ ae)); clear HB; have HB := be; have aa := bf; have nH := bi; have aI := bj; clear be bf bi bj; clear hb hbox hg))
 (try simp only [Act.put,za,zb,zc])
 go_cut [29] (fun nu wc => ∃ (kq : Nat) (dy : Bool),nu = .bool dy ∧ Aside0 (L_ChunkTwice.j0 kq a1 a2 dy al am an ao aj ak ap ag aq = some r) ∧ Aside0 (kq ≤ k) ∧ Aside0 (wc.heap[ae]? = some (.cells #[.int .i64 al,.int .i64 am,.int .i64 an,.int .i64 ao,(.slice aV aj.length aW),(.slice aX ak.length aY),.int .i64 ap,.string ag,.bool aq] 34 (0,0))) ∧ Aside0 (Below w.heap.size w wc))
 case first =>
  have H := iU.out
  clear iU
  by_cases c6 : (ag.size : Int) > 262144
  ·
   rw [if_pos c6] at H
   have cF : decide (262144 < (ag.size : Int)) = true := zzn c6
   have fd : decide (262144 < ag.size) = true := zzn (by omega)
   clear c6
   (first | rw [cF] | (simp only [Zv,Zw]; rw [cF]) | skip)
   have H' := zzk H
   clear H
   have dz : w5.cell? ⟨ae,0,none⟩ = some (.int .i64 al) := (zi aa.out 0).trans rfl
   have dA : w5.cell? ⟨ae,1,none⟩ = some (.int .i64 am) := (zi aa.out 1).trans rfl
   have dB : w5.cell? ⟨ae,2,none⟩ = some (.int .i64 an) := (zi aa.out 2).trans rfl
   have dC : w5.cell? ⟨ae,3,none⟩ = some (.int .i64 ao) := (zi aa.out 3).trans rfl
   have dD : w5.cell? ⟨ae,4,none⟩ = some (.slice aV aj.length aW) := (zi aa.out 4).trans rfl
   have dE : w5.cell? ⟨ae,5,none⟩ = some (.slice aX ak.length aY) := (zi aa.out 5).trans rfl
   have dF : w5.cell? ⟨ae,6,none⟩ = some (.int .i64 ap) := (zi aa.out 6).trans rfl
   have dG : w5.cell? ⟨ae,7,none⟩ = some (.string ag) := (zi aa.out 7).trans rfl
   have dH : w5.cell? ⟨ae,8,none⟩ = some (.bool aq) := (zi aa.out 8).trans rfl
   have dI := zm aa.out 0
   have dJ := zm aa.out 1
   have dK := zm aa.out 2
   have dL := zm aa.out 3
   have dM := zm aa.out 4
   have dN := zm aa.out 5
   have dO := zm aa.out 6
   have dP := zm aa.out 7
   have dQ := zm aa.out 8
   go_wp2
   go_meet
   case rel => exact ⟨_,(true),(by first | rfl | (simp; done) | (simp [*]; done)),H',⟨by first | omega | exact Nat.le_refl _⟩,⟨by (with_reducible repeat (first | refine zj ?_ _ | refine zl ?_ | refine zk ?_ _)); exact aa.out⟩,⟨by repeat (first | (with_reducible first | exact HB.out | apply Zq | apply Zp | apply Zo | refine Zn ?_ aI.out) | exact HB.out)⟩⟩
  ·
   rw [if_neg c6] at H
   have cF : decide (262144 < (ag.size : Int)) = false := zzo c6
   have fd : decide (262144 < ag.size) = false := zzo (by omega)
   clear c6
   (first | rw [cF] | (simp only [Zv,Zw]; rw [cF]) | skip)
   by_cases c8 : (a1.size : Int) > 262144
   ·
    rw [if_pos c8] at H
    have fe : decide (262144 < (a1.size : Int)) = true := zzn c8
    have fg : decide (262144 < a1.size) = true := zzn (by omega)
    clear c8
    have H' := zzk H
    clear H
    have dR : w5.cell? ⟨ae,0,none⟩ = some (.int .i64 al) := (zi aa.out 0).trans rfl
    have dS : w5.cell? ⟨ae,1,none⟩ = some (.int .i64 am) := (zi aa.out 1).trans rfl
    have dT : w5.cell? ⟨ae,2,none⟩ = some (.int .i64 an) := (zi aa.out 2).trans rfl
    have dU : w5.cell? ⟨ae,3,none⟩ = some (.int .i64 ao) := (zi aa.out 3).trans rfl
    have dV : w5.cell? ⟨ae,4,none⟩ = some (.slice aV aj.length aW) := (zi aa.out 4).trans rfl
    have dW : w5.cell? ⟨ae,5,none⟩ = some (.slice aX ak.length aY) := (zi aa.out 5).trans rfl
    have dX : w5.cell? ⟨ae,6,none⟩ = some (.int .i64 ap) := (zi aa.out 6).trans rfl
    have dY : w5.cell? ⟨ae,7,none⟩ = some (.string ag) := (zi aa.out 7).trans rfl
    have dZ : w5.cell? ⟨ae,8,none⟩ = some (.bool aq) := (zi aa.out 8).trans rfl
    have ea := zm aa.out 0
    have eb := zm aa.out 1
    have ec := zm aa.out 2
    have ed := zm aa.out 3
    have ee := zm aa.out 4
    have ef := zm aa.out 5
    have eg := zm aa.out 6
    have eh := zm aa.out 7
    have ei := zm aa.out 8
    go_wp2
    go_meet
    case rel => exact ⟨_,(true),(by first | rfl | (simp; done) | (simp [*]; done)),H',⟨by first | omega | exact Nat.le_refl _⟩,⟨by (with_reducible repeat (first | refine zj ?_ _ | refine zl ?_ | refine zk ?_ _)); exact aa.out⟩,⟨by repeat (first | (with_reducible first | exact HB.out | apply Zq | apply Zp | apply Zo | refine Zn ?_ aI.out) | exact HB.out)⟩⟩
   ·
    rw [if_neg c8] at H
    have fe : decide (262144 < (a1.size : Int)) = false := zzo c8
    have fg : decide (262144 < a1.size) = false := zzo (by omega)
    clear c8
    replace H := Option.bind_eq_some_iff.mp H
    obtain ⟨cT,iV,H⟩ := H
    replace H : (L_ChunkTwice.j0 k a1 a2 cT al am an ao aj ak ap ag aq) = some r := H
    have nv := zzk iV
    clear iV
    have H' := zzk H
    clear H
    have dd : w5.cell? ⟨ae,0,none⟩ = some (.int .i64 al) := (zi aa.out 0).trans rfl
    have de : w5.cell? ⟨ae,1,none⟩ = some (.int .i64 am) := (zi aa.out 1).trans rfl
    have df : w5.cell? ⟨ae,2,none⟩ = some (.int .i64 an) := (zi aa.out 2).trans rfl
    have dg : w5.cell? ⟨ae,3,none⟩ = some (.int .i64 ao) := (zi aa.out 3).trans rfl
    have dh : w5.cell? ⟨ae,4,none⟩ = some (.slice aV aj.length aW) := (zi aa.out 4).trans rfl
    have di : w5.cell? ⟨ae,5,none⟩ = some (.slice aX ak.length aY) := (zi aa.out 5).trans rfl
    have dj : w5.cell? ⟨ae,6,none⟩ = some (.int .i64 ap) := (zi aa.out 6).trans rfl
    have dk : w5.cell? ⟨ae,7,none⟩ = some (.string ag) := (zi aa.out 7).trans rfl
    have dl : w5.cell? ⟨ae,8,none⟩ = some (.bool aq) := (zi aa.out 8).trans rfl
    have dm := zm aa.out 0
    have dn := zm aa.out 1
    have dp := zm aa.out 2
    have dq := zm aa.out 3
    have dr := zm aa.out 4
    have ds := zm aa.out 5
    have dt := zm aa.out 6
    have du := zm aa.out 7
    have dv := zm aa.out 8
    go_wp2_with (first | (go_at_call 12; (with_reducible refine (r08_BigCouncil.calls _ _ aj _ _ ak cT _ ?side1 ?side2 ?side3 ?side4 nv.out).mono ?_); (case side1 => repeat (first | exact (Zm cM.out HB.out) | (with_reducible refine Zk ?_ _) | (with_reducible refine Zj ?_ _) | (with_reducible refine Zl ?_))); (case side2 => exact cN.out); (case side3 => repeat (first | exact (Zm cO.out HB.out) | (with_reducible refine Zk ?_ _) | (with_reducible refine Zj ?_ _) | (with_reducible refine Zl ?_))); (case side4 => exact cP.out); rintro e oO ⟨rfl,hb⟩; have be := zzk (zo (g := ae) (o := .cells #[.int .i64 al,.int .i64 am,.int .i64 an,.int .i64 ao,.slice aV aj.length aW,.slice aX ak.length aY,.int .i64 ap,.string ag,.bool aq] 34 (0,0)) (by (with_reducible repeat (first | refine zj ?_ _ | refine zl ?_ | refine zk ?_ _)); exact aa.out) hb); have bf := zzk (Zs (by repeat (first | (with_reducible first | exact HB.out | apply Zq | apply Zp | apply Zo | refine Zn ?_ aI.out) | exact HB.out)) hb); clear aa; clear HB; have aa := be; have HB := bf; clear be bf; (try clear hb); (try clear hb2); (try clear hk); (try clear hi)))
    go_meet
    case rel => exact ⟨_,(cT),(by first | rfl | (simp; done) | (simp [*]; done)),H',⟨by first | omega | exact Nat.le_refl _⟩,⟨by (with_reducible repeat (first | refine zj ?_ _ | refine zl ?_ | refine zk ?_ _)); exact aa.out⟩,⟨by repeat (first | (with_reducible first | exact HB.out | apply Zq | apply Zp | apply Zo | refine Zn ?_ aI.out) | exact HB.out)⟩⟩
 case rest =>
  clear iU
  try clear p2
  try clear c6
  try clear cF
  try clear fd
  try clear c8
  try clear fe
  try clear fg
  try clear dd
  try clear de
  try clear df
  try clear dg
  try clear dh
  try clear di
  try clear dj
  try clear dk
  try clear dl
  try clear dz
  try clear dA
  try clear dB
  try clear dC
  try clear dD
  try clear dE
  try clear dF
  try clear dG
  try clear dH
  try clear dR
  try clear dS
  try clear dT
  try clear dU
  try clear dV
  try clear dW
  try clear dX
  try clear dY
  try clear dZ
  try clear dm
  try clear dn
  try clear dp
  try clear dq
  try clear dr
  try clear ds
  try clear dt
  try clear du
  try clear dv
  try clear dI
  try clear dJ
  try clear dK
  try clear dL
  try clear dM
  try clear dN
  try clear dO
  try clear dP
  try clear dQ
  try clear ea
  try clear eb
  try clear ec
  try clear ed
  try clear ee
  try clear ef
  try clear eg
  try clear eh
  try clear ei
  obtain ⟨kq,dy,rfl,HA,HJ3,aa,HB⟩ := hcut
  cases kq with
  | zero => exact absurd HA.out (by simp [L_ChunkTwice.j0])
  | succ ej =>
   have H := HA.out
   clear HA
   simp only [L_ChunkTwice.j0] at H
   by_cases er : dy = true
   ·
    subst er
    have H1 : (some true) = some r := by rw [if_pos rfl] at H; exact H
    clear H
    have H := H1
    clear H1
    obtain rfl := zzu H
    go_wp2
    go_ret
    exact ⟨by first | rfl | (simp [zzl,zzm] <;> rfl) | (simp [*,zzl,zzm] <;> rfl),by repeat (first | (with_reducible first | exact HB.out | apply Zq | apply Zp | apply Zo | refine Zn ?_ aI.out) | exact HB.out)⟩
   ·
    replace er := Bool.eq_false_iff.mpr er
    subst er
    have H1 : ((chunk_Take.f ej al am an ao aj ak ap ag aq (ag.size : Int) a1).bind fun aO => (if aO.2.2.2.2.2.2.2.2.2.2 = 0 then (L_ChunkTwice.j1 ej a1 a2 aO.2.2.2.2.2.2.2.2.2.2 (!aO.2.2.2.2.2.2.2.2.2.1) al am an ao aj ak ap ag aq aO.1 aO.2.1 aO.2.2.1 aO.2.2.2.1 aO.2.2.2.2.1 aO.2.2.2.2.2.1 aO.2.2.2.2.2.2.1 aO.2.2.2.2.2.2.2.1 aO.2.2.2.2.2.2.2.2.1) else (L_ChunkTwice.j1 ej a1 a2 aO.2.2.2.2.2.2.2.2.2.2 true al am an ao aj ak ap ag aq aO.1 aO.2.1 aO.2.2.1 aO.2.2.2.1 aO.2.2.2.2.1 aO.2.2.2.2.2.1 aO.2.2.2.2.2.2.1 aO.2.2.2.2.2.2.2.1 aO.2.2.2.2.2.2.2.2.1))) = some r := by rw [if_neg (show ¬ (false = true) by decide)] at H; exact H
    clear H
    have H := H1
    clear H1
    replace H := Option.bind_eq_some_iff.mp H
    obtain ⟨⟨ax,ay,az,aB,av,aw,aC,aA,aE,fo,bW⟩,iW,H⟩ := H
    replace H : (if bW = 0 then (L_ChunkTwice.j1 ej a1 a2 bW (!fo) al am an ao aj ak ap ag aq ax ay az aB av aw aC aA aE) else (L_ChunkTwice.j1 ej a1 a2 bW true al am an ao aj ak ap ag aq ax ay az aB av aw aC aA aE)) = some r := H
    have nw := zzk iW
    clear iW
    have fp := zzk H
    clear H
    have es : wc.cell? ⟨ae,0,none⟩ = some (.int .i64 al) := (zi aa.out 0).trans rfl
    have et : wc.cell? ⟨ae,1,none⟩ = some (.int .i64 am) := (zi aa.out 1).trans rfl
    have eu : wc.cell? ⟨ae,2,none⟩ = some (.int .i64 an) := (zi aa.out 2).trans rfl
    have ev : wc.cell? ⟨ae,3,none⟩ = some (.int .i64 ao) := (zi aa.out 3).trans rfl
    have ew : wc.cell? ⟨ae,4,none⟩ = some (.slice aV aj.length aW) := (zi aa.out 4).trans rfl
    have ex : wc.cell? ⟨ae,5,none⟩ = some (.slice aX ak.length aY) := (zi aa.out 5).trans rfl
    have ey : wc.cell? ⟨ae,6,none⟩ = some (.int .i64 ap) := (zi aa.out 6).trans rfl
    have ez : wc.cell? ⟨ae,7,none⟩ = some (.string ag) := (zi aa.out 7).trans rfl
    have eA : wc.cell? ⟨ae,8,none⟩ = some (.bool aq) := (zi aa.out 8).trans rfl
    have eB := zm aa.out 0
    have eC := zm aa.out 1
    have eD := zm aa.out 2
    have eE := zm aa.out 3
    have eF := zm aa.out 4
    have eG := zm aa.out 5
    have eH := zm aa.out 6
    have eI := zm aa.out 7
    have eJ := zm aa.out 8
    go_upto_region 4 with (first | ((with_reducible refine zza (f := 22) rfl ?_); refine zzd (some 36) rfl rfl Try.func22 (by kernel_rfl) rfl #[.agg #[.int .i64 al,.int .i64 am,.int .i64 an,.int .i64 ao,.slice aV aj.length aW,.slice aX ak.length aY,.int .i64 ap,.string ag,.bool aq],.int .i64 (ag.size : Int),.string a1] rfl (by (try simp only [zd,ze,zf]); first | done | rfl | (simp only [zg,zh]; rfl)) ?_; (with_reducible refine (chunk_Take.calls ej al am an ao _ _ aj _ _ ak ap ag aq (ag.size : Int) a1 ax ay az aB av aw aC aA aE fo bW _ ?side1 ?side2 ?side3 ?side4 nw.out).mono ?_); (case side1 => repeat (first | exact (Zm cM.out HB.out) | (with_reducible refine Zk ?_ _) | (with_reducible refine Zj ?_ _) | (with_reducible refine Zl ?_))); (case side2 => exact cN.out); (case side3 => repeat (first | exact (Zm cO.out HB.out) | (with_reducible refine Zk ?_ _) | (with_reducible refine Zj ?_ _) | (with_reducible refine Zl ?_))); (case side4 => exact cP.out); rintro e oP ⟨oJ,oK,rfl,ho0,ho1,hb⟩; refine ⟨_,rfl,?_⟩; have be := zzk (Za ho0 (Zr (by repeat (first | (with_reducible first | exact HB.out | apply Zq | apply Zp | apply Zo | refine Zn ?_ aI.out) | exact HB.out)))); have bf := zzk (Za ho1 (Zr (by repeat (first | (with_reducible first | exact HB.out | apply Zq | apply Zp | apply Zo | refine Zn ?_ aI.out) | exact HB.out)))); have bi := zzk (zo (g := ae) (o := .cells #[.int .i64 al,.int .i64 am,.int .i64 an,.int .i64 ao,.slice aV aj.length aW,.slice aX ak.length aY,.int .i64 ap,.string ag,.bool aq] 34 (0,0)) (by (with_reducible repeat (first | refine zj ?_ _ | refine zl ?_ | refine zk ?_ _)); exact aa.out) hb); have bj := zzk (Zs (by repeat (first | (with_reducible first | exact HB.out | apply Zq | apply Zp | apply Zo | refine Zn ?_ aI.out) | exact HB.out)) hb); clear aa; clear HB; have cQ := be; have cR := bf; have aa := bi; have HB := bj; clear be bf bi bj; (try clear hb); (try clear hb2); (try clear hk); (try clear hi); (try clear ho0); (try clear ho1)) | ((with_reducible refine Zy (N := 7) rfl ?_); (try (refine Zz (by rfl) ?_; dsimp only)); refine zzc ?hg (N := 7) ?hd (cs := #[.int .i64 0,.int .i64 0,.int .i64 0,.int .i64 0,.slice none 0 0,.slice none 0 0,.int .i64 0,.string (⟨#[]⟩ : ByteArray),.bool false]) (t := 34) ?hr ?_; (case hd => rfl); (case hg => rfl); (case hr => first | (go_simp; done) | (go_simp; rfl)); intro af hg cV hbox hb; have be := zzk (zv (by (with_reducible repeat (first | apply zu | apply zt | apply zs)); exact cQ.out) hb); have bf := zzk (zv (by (with_reducible repeat (first | apply zu | apply zt | apply zs)); exact cR.out) hb); have bi := zzk (zo (g := ae) (o := .cells #[.int .i64 al,.int .i64 am,.int .i64 an,.int .i64 ao,.slice aV aj.length aW,.slice aX ak.length aY,.int .i64 ap,.string ag,.bool aq] 34 (0,0)) (by (with_reducible repeat (first | refine zj ?_ _ | refine zl ?_ | refine zk ?_ _)); exact aa.out) hb); have bj := zzk (Zs (by repeat (first | (with_reducible first | exact HB.out | apply Zq | apply Zp | apply Zo | refine Zn ?_ aI.out) | exact HB.out)) hb); have br := zzk (hbox); have bv := zzk ((by rw [hg]; exact (Zr (by repeat (first | (with_reducible first | exact HB.out | apply Zq | apply Zp | apply Zo | refine Zn ?_ aI.out) | exact HB.out))) : w.heap.size ≤ af)); have bw := zzk ((by rw [hg]; exact (Zr (by repeat (first | (with_reducible first | exact HB.out | apply Zq | apply Zp | apply Zo | refine Zn ?_ aI.out) | exact HB.out))) : w.heap.size ≤ af)); have bB := zzk ((by rw [hg]; exact Nat.ne_of_lt (zq (g := ae) (o := .cells #[.int .i64 al,.int .i64 am,.int .i64 an,.int .i64 ao,.slice aV aj.length aW,.slice aX ak.length aY,.int .i64 ap,.string ag,.bool aq] 34 (0,0)) (by (with_reducible repeat (first | refine zj ?_ _ | refine zl ?_ | refine zk ?_ _)); exact aa.out)) : ae ≠ af)); have bH := zzk ((by rw [hg]; exact Nat.ne_of_gt (zq (g := ae) (o := .cells #[.int .i64 al,.int .i64 am,.int .i64 an,.int .i64 ao,.slice aV aj.length aW,.slice aX ak.length aY,.int .i64 ap,.string ag,.bool aq] 34 (0,0)) (by (with_reducible repeat (first | refine zj ?_ _ | refine zl ?_ | refine zk ?_ _)); exact aa.out)) : af ≠ ae)); clear cQ; clear cR; clear aa; clear HB; have cQ := be; have cR := bf; have aa := bi; have HB := bj; have ac := br; have nI := bv; have aZ := bw; have aQ := bB; have cm := bH; clear be bf bi bj br bv bw bB bH; clear hb hbox hg; have nJ := cm.out; have nK := aQ.out; have eK : cV.cell? ⟨af,0,none⟩ = some (.int .i64 0) := (zi ac.out 0).trans rfl; have eL : cV.cell? ⟨af,1,none⟩ = some (.int .i64 0) := (zi ac.out 1).trans rfl; have eM : cV.cell? ⟨af,2,none⟩ = some (.int .i64 0) := (zi ac.out 2).trans rfl; have eN : cV.cell? ⟨af,3,none⟩ = some (.int .i64 0) := (zi ac.out 3).trans rfl; have eO : cV.cell? ⟨af,4,none⟩ = some (.slice none 0 0) := (zi ac.out 4).trans rfl; have eP : cV.cell? ⟨af,5,none⟩ = some (.slice none 0 0) := (zi ac.out 5).trans rfl; have eQ : cV.cell? ⟨af,6,none⟩ = some (.int .i64 0) := (zi ac.out 6).trans rfl; have eR : cV.cell? ⟨af,7,none⟩ = some (.string (⟨#[]⟩ : ByteArray)) := (zi ac.out 7).trans rfl; have eS : cV.cell? ⟨af,8,none⟩ = some (.bool false) := (zi ac.out 8).trans rfl; have eT := zm ac.out 0; have eU := zm ac.out 1; have eV := zm ac.out 2; have eW := zm ac.out 3; have eX := zm ac.out 4; have eY := zm ac.out 5; have eZ := zm ac.out 6; have fa := zm ac.out 7; have fb := zm ac.out 8; obtain ⟨aS,aR,eo21⟩ := zz cQ.out; subst eo21; obtain ⟨aU,aT,eo22⟩ := zz cR.out; subst eo22))
    (try simp only [Act.put,za,zb,zc])
    go_cut [45] (fun nx wc => ∃ (kq : Nat) (cW : Bool),nx = .bool cW ∧ Aside0 (L_ChunkTwice.j1 kq a1 a2 bW cW al am an ao aj ak ap ag aq ax ay az aB av aw aC aA aE = some r) ∧ Aside0 (kq ≤ ej) ∧ Aside0 (Kd.R (Kd.int .i64) 3 wc w.heap.size (fun k_ => some k_ ≠ ((.slice aU aw.length aT) : Value).ownBlock) (.slice aS av.length aR) av) ∧ Aside0 (Kd.R (Kd.int .i64) 3 wc w.heap.size (fun k_ => some k_ ≠ ((.slice aS av.length aR) : Value).ownBlock) (.slice aU aw.length aT) aw) ∧ Aside0 (wc.heap[ae]? = some (.cells #[.int .i64 al,.int .i64 am,.int .i64 an,.int .i64 ao,(.slice aV aj.length aW),(.slice aX ak.length aY),.int .i64 ap,.string ag,.bool aq] 34 (0,0))) ∧ Aside0 (wc.heap[af]? = some (.cells #[.int .i64 ax,.int .i64 ay,.int .i64 az,.int .i64 aB,(.slice aS av.length aR),(.slice aU aw.length aT),.int .i64 aC,.string aA,.bool aE] 34 (0,0))) ∧ Aside0 (Below w.heap.size w wc))
    case first =>
     have H := fp.out
     clear fp
     by_cases cX : bW = 0
     ·
      rw [if_pos cX] at H
      have cD : (bW == 0) = true := beq_iff_eq.mpr cX
      have fh : (bW != 0) = false := bne_eq_false_iff_eq.mpr cX
      clear cX
      (first | rw [cD] | (simp only [Zv,Zw]; rw [cD]) | skip)
      have H' := zzk H
      clear H
      go_wp2
      go_meet
      case rel => exact ⟨_,(!fo),(by first | rfl | (simp; done) | (simp [*]; done)),H',⟨by have := HJ3.out; first | omega | exact Nat.le_refl _⟩,⟨by (with_reducible repeat (first | apply zu | apply zt | apply zs)); exact zx (zr (p := ⟨af,8,none⟩) (zr (p := ⟨af,7,none⟩) (zr (p := ⟨af,6,none⟩) (zr (p := ⟨af,5,none⟩) (zr (p := ⟨af,4,none⟩) (zr (p := ⟨af,3,none⟩) (zr (p := ⟨af,2,none⟩) (zr (p := ⟨af,1,none⟩) (zr (p := ⟨af,0,none⟩) (zy cQ.out ac.out (by decide)) (fun _ hk => hk.2) (.int .i64 ax)) (fun _ hk => hk.2) (.int .i64 ay)) (fun _ hk => hk.2) (.int .i64 az)) (fun _ hk => hk.2) (.int .i64 aB)) (fun _ hk => hk.2) (.slice aS av.length aR)) (fun _ hk => hk.2) (.slice aU aw.length aT)) (fun _ hk => hk.2) (.int .i64 aC)) (fun _ hk => hk.2) (.string aA)) (fun _ hk => hk.2) (.bool aE)) (fun _ hk => hk.1)⟩,⟨by (with_reducible repeat (first | apply zu | apply zt | apply zs)); exact zx (zr (p := ⟨af,8,none⟩) (zr (p := ⟨af,7,none⟩) (zr (p := ⟨af,6,none⟩) (zr (p := ⟨af,5,none⟩) (zr (p := ⟨af,4,none⟩) (zr (p := ⟨af,3,none⟩) (zr (p := ⟨af,2,none⟩) (zr (p := ⟨af,1,none⟩) (zr (p := ⟨af,0,none⟩) (zy cR.out ac.out (by decide)) (fun _ hk => hk.2) (.int .i64 ax)) (fun _ hk => hk.2) (.int .i64 ay)) (fun _ hk => hk.2) (.int .i64 az)) (fun _ hk => hk.2) (.int .i64 aB)) (fun _ hk => hk.2) (.slice aS av.length aR)) (fun _ hk => hk.2) (.slice aU aw.length aT)) (fun _ hk => hk.2) (.int .i64 aC)) (fun _ hk => hk.2) (.string aA)) (fun _ hk => hk.2) (.bool aE)) (fun _ hk => hk.1)⟩,⟨by (with_reducible repeat (first | refine zj ?_ _ | refine zl ?_ | refine zk ?_ _)); refine zn ?_ aQ.out _; (with_reducible repeat (first | refine zj ?_ _ | refine zl ?_ | refine zk ?_ _)); refine zn ?_ aQ.out _; (with_reducible repeat (first | refine zj ?_ _ | refine zl ?_ | refine zk ?_ _)); refine zn ?_ aQ.out _; (with_reducible repeat (first | refine zj ?_ _ | refine zl ?_ | refine zk ?_ _)); refine zn ?_ aQ.out _; (with_reducible repeat (first | refine zj ?_ _ | refine zl ?_ | refine zk ?_ _)); refine zn ?_ aQ.out _; (with_reducible repeat (first | refine zj ?_ _ | refine zl ?_ | refine zk ?_ _)); refine zn ?_ aQ.out _; (with_reducible repeat (first | refine zj ?_ _ | refine zl ?_ | refine zk ?_ _)); refine zn ?_ aQ.out _; (with_reducible repeat (first | refine zj ?_ _ | refine zl ?_ | refine zk ?_ _)); refine zn ?_ aQ.out _; (with_reducible repeat (first | refine zj ?_ _ | refine zl ?_ | refine zk ?_ _)); refine zn ?_ aQ.out _; (with_reducible repeat (first | refine zj ?_ _ | refine zl ?_ | refine zk ?_ _)); exact aa.out⟩,⟨by (with_reducible repeat (first | refine zj ?_ _ | refine zl ?_ | refine zk ?_ _)); refine zp (cs := #[.int .i64 ax,.int .i64 ay,.int .i64 az,.int .i64 aB,.slice aS av.length aR,.slice aU aw.length aT,.int .i64 aC,.string aA,.bool false]) ?_ 8 _ rfl; (with_reducible repeat (first | refine zj ?_ _ | refine zl ?_ | refine zk ?_ _)); refine zp (cs := #[.int .i64 ax,.int .i64 ay,.int .i64 az,.int .i64 aB,.slice aS av.length aR,.slice aU aw.length aT,.int .i64 aC,.string (⟨#[]⟩ : ByteArray),.bool false]) ?_ 7 _ rfl; (with_reducible repeat (first | refine zj ?_ _ | refine zl ?_ | refine zk ?_ _)); refine zp (cs := #[.int .i64 ax,.int .i64 ay,.int .i64 az,.int .i64 aB,.slice aS av.length aR,.slice aU aw.length aT,.int .i64 0,.string (⟨#[]⟩ : ByteArray),.bool false]) ?_ 6 _ rfl; (with_reducible repeat (first | refine zj ?_ _ | refine zl ?_ | refine zk ?_ _)); refine zp (cs := #[.int .i64 ax,.int .i64 ay,.int .i64 az,.int .i64 aB,.slice aS av.length aR,.slice none 0 0,.int .i64 0,.string (⟨#[]⟩ : ByteArray),.bool false]) ?_ 5 _ rfl; (with_reducible repeat (first | refine zj ?_ _ | refine zl ?_ | refine zk ?_ _)); refine zp (cs := #[.int .i64 ax,.int .i64 ay,.int .i64 az,.int .i64 aB,.slice none 0 0,.slice none 0 0,.int .i64 0,.string (⟨#[]⟩ : ByteArray),.bool false]) ?_ 4 _ rfl; (with_reducible repeat (first | refine zj ?_ _ | refine zl ?_ | refine zk ?_ _)); refine zp (cs := #[.int .i64 ax,.int .i64 ay,.int .i64 az,.int .i64 0,.slice none 0 0,.slice none 0 0,.int .i64 0,.string (⟨#[]⟩ : ByteArray),.bool false]) ?_ 3 _ rfl; (with_reducible repeat (first | refine zj ?_ _ | refine zl ?_ | refine zk ?_ _)); refine zp (cs := #[.int .i64 ax,.int .i64 ay,.int .i64 0,.int .i64 0,.slice none 0 0,.slice none 0 0,.int .i64 0,.string (⟨#[]⟩ : ByteArray),.bool false]) ?_ 2 _ rfl; (with_reducible repeat (first | refine zj ?_ _ | refine zl ?_ | refine zk ?_ _)); refine zp (cs := #[.int .i64 ax,.int .i64 0,.int .i64 0,.int .i64 0,.slice none 0 0,.slice none 0 0,.int .i64 0,.string (⟨#[]⟩ : ByteArray),.bool false]) ?_ 1 _ rfl; (with_reducible repeat (first | refine zj ?_ _ | refine zl ?_ | refine zk ?_ _)); refine zp (cs := #[.int .i64 0,.int .i64 0,.int .i64 0,.int .i64 0,.slice none 0 0,.slice none 0 0,.int .i64 0,.string (⟨#[]⟩ : ByteArray),.bool false]) ?_ 0 _ rfl; (with_reducible repeat (first | refine zj ?_ _ | refine zl ?_ | refine zk ?_ _)); exact ac.out⟩,⟨by repeat (first | (with_reducible first | exact HB.out | apply Zq | apply Zp | apply Zo | refine Zn ?_ aI.out | refine Zn ?_ aZ.out) | exact HB.out)⟩⟩
     ·
      rw [if_neg cX] at H
      have cD : (bW == 0) = false := beq_eq_false_iff_ne.mpr cX
      have fh : (bW != 0) = true := bne_iff_ne.mpr cX
      (first | rw [cD] | (simp only [Zv,Zw]; rw [cD]) | skip)
      have H' := zzk H
      clear H
      go_wp2
      go_meet
      case rel => exact ⟨_,(true),(by first | rfl | (simp; done) | (simp [*]; done)),H',⟨by have := HJ3.out; first | omega | exact Nat.le_refl _⟩,⟨by (with_reducible repeat (first | apply zu | apply zt | apply zs)); exact zx (zr (p := ⟨af,8,none⟩) (zr (p := ⟨af,7,none⟩) (zr (p := ⟨af,6,none⟩) (zr (p := ⟨af,5,none⟩) (zr (p := ⟨af,4,none⟩) (zr (p := ⟨af,3,none⟩) (zr (p := ⟨af,2,none⟩) (zr (p := ⟨af,1,none⟩) (zr (p := ⟨af,0,none⟩) (zy cQ.out ac.out (by decide)) (fun _ hk => hk.2) (.int .i64 ax)) (fun _ hk => hk.2) (.int .i64 ay)) (fun _ hk => hk.2) (.int .i64 az)) (fun _ hk => hk.2) (.int .i64 aB)) (fun _ hk => hk.2) (.slice aS av.length aR)) (fun _ hk => hk.2) (.slice aU aw.length aT)) (fun _ hk => hk.2) (.int .i64 aC)) (fun _ hk => hk.2) (.string aA)) (fun _ hk => hk.2) (.bool aE)) (fun _ hk => hk.1)⟩,⟨by (with_reducible repeat (first | apply zu | apply zt | apply zs)); exact zx (zr (p := ⟨af,8,none⟩) (zr (p := ⟨af,7,none⟩) (zr (p := ⟨af,6,none⟩) (zr (p := ⟨af,5,none⟩) (zr (p := ⟨af,4,none⟩) (zr (p := ⟨af,3,none⟩) (zr (p := ⟨af,2,none⟩) (zr (p := ⟨af,1,none⟩) (zr (p := ⟨af,0,none⟩) (zy cR.out ac.out (by decide)) (fun _ hk => hk.2) (.int .i64 ax)) (fun _ hk => hk.2) (.int .i64 ay)) (fun _ hk => hk.2) (.int .i64 az)) (fun _ hk => hk.2) (.int .i64 aB)) (fun _ hk => hk.2) (.slice aS av.length aR)) (fun _ hk => hk.2) (.slice aU aw.length aT)) (fun _ hk => hk.2) (.int .i64 aC)) (fun _ hk => hk.2) (.string aA)) (fun _ hk => hk.2) (.bool aE)) (fun _ hk => hk.1)⟩,⟨by (with_reducible repeat (first | refine zj ?_ _ | refine zl ?_ | refine zk ?_ _)); refine zn ?_ aQ.out _; (with_reducible repeat (first | refine zj ?_ _ | refine zl ?_ | refine zk ?_ _)); refine zn ?_ aQ.out _; (with_reducible repeat (first | refine zj ?_ _ | refine zl ?_ | refine zk ?_ _)); refine zn ?_ aQ.out _; (with_reducible repeat (first | refine zj ?_ _ | refine zl ?_ | refine zk ?_ _)); refine zn ?_ aQ.out _; (with_reducible repeat (first | refine zj ?_ _ | refine zl ?_ | refine zk ?_ _)); refine zn ?_ aQ.out _; (with_reducible repeat (first | refine zj ?_ _ | refine zl ?_ | refine zk ?_ _)); refine zn ?_ aQ.out _; (with_reducible repeat (first | refine zj ?_ _ | refine zl ?_ | refine zk ?_ _)); refine zn ?_ aQ.out _; (with_reducible repeat (first | refine zj ?_ _ | refine zl ?_ | refine zk ?_ _)); refine zn ?_ aQ.out _; (with_reducible repeat (first | refine zj ?_ _ | refine zl ?_ | refine zk ?_ _)); refine zn ?_ aQ.out _; (with_reducible repeat (first | refine zj ?_ _ | refine zl ?_ | refine zk ?_ _)); exact aa.out⟩,⟨by (with_reducible repeat (first | refine zj ?_ _ | refine zl ?_ | refine zk ?_ _)); refine zp (cs := #[.int .i64 ax,.int .i64 ay,.int .i64 az,.int .i64 aB,.slice aS av.length aR,.slice aU aw.length aT,.int .i64 aC,.string aA,.bool false]) ?_ 8 _ rfl; (with_reducible repeat (first | refine zj ?_ _ | refine zl ?_ | refine zk ?_ _)); refine zp (cs := #[.int .i64 ax,.int .i64 ay,.int .i64 az,.int .i64 aB,.slice aS av.length aR,.slice aU aw.length aT,.int .i64 aC,.string (⟨#[]⟩ : ByteArray),.bool false]) ?_ 7 _ rfl; (with_reducible repeat (first | refine zj ?_ _ | refine zl ?_ | refine zk ?_ _)); refine zp (cs := #[.int .i64 ax,.int .i64 ay,.int .i64 az,.int .i64 aB,.slice aS av.length aR,.slice aU aw.length aT,.int .i64 0,.string (⟨#[]⟩ : ByteArray),.bool false]) ?_ 6 _ rfl; (with_reducible repeat (first | refine zj ?_ _ | refine zl ?_ | refine zk ?_ _)); refine zp (cs := #[.int .i64 ax,.int .i64 ay,.int .i64 az,.int .i64 aB,.slice aS av.length aR,.slice none 0 0,.int .i64 0,.string (⟨#[]⟩ : ByteArray),.bool false]) ?_ 5 _ rfl; (with_reducible repeat (first | refine zj ?_ _ | refine zl ?_ | refine zk ?_ _)); refine zp (cs := #[.int .i64 ax,.int .i64 ay,.int .i64 az,.int .i64 aB,.slice none 0 0,.slice none 0 0,.int .i64 0,.string (⟨#[]⟩ : ByteArray),.bool false]) ?_ 4 _ rfl; (with_reducible repeat (first | refine zj ?_ _ | refine zl ?_ | refine zk ?_ _)); refine zp (cs := #[.int .i64 ax,.int .i64 ay,.int .i64 az,.int .i64 0,.slice none 0 0,.slice none 0 0,.int .i64 0,.string (⟨#[]⟩ : ByteArray),.bool false]) ?_ 3 _ rfl; (with_reducible repeat (first | refine zj ?_ _ | refine zl ?_ | refine zk ?_ _)); refine zp (cs := #[.int .i64 ax,.int .i64 ay,.int .i64 0,.int .i64 0,.slice none 0 0,.slice none 0 0,.int .i64 0,.string (⟨#[]⟩ : ByteArray),.bool false]) ?_ 2 _ rfl; (with_reducible repeat (first | refine zj ?_ _ | refine zl ?_ | refine zk ?_ _)); refine zp (cs := #[.int .i64 ax,.int .i64 0,.int .i64 0,.int .i64 0,.slice none 0 0,.slice none 0 0,.int .i64 0,.string (⟨#[]⟩ : ByteArray),.bool false]) ?_ 1 _ rfl; (with_reducible repeat (first | refine zj ?_ _ | refine zl ?_ | refine zk ?_ _)); refine zp (cs := #[.int .i64 0,.int .i64 0,.int .i64 0,.int .i64 0,.slice none 0 0,.slice none 0 0,.int .i64 0,.string (⟨#[]⟩ : ByteArray),.bool false]) ?_ 0 _ rfl; (with_reducible repeat (first | refine zj ?_ _ | refine zl ?_ | refine zk ?_ _)); exact ac.out⟩,⟨by repeat (first | (with_reducible first | exact HB.out | apply Zq | apply Zp | apply Zo | refine Zn ?_ aI.out | refine Zn ?_ aZ.out) | exact HB.out)⟩⟩
    case rest =>
     clear fp
     try clear c1
     try clear c2
     try clear p2
     try clear c6
     try clear cF
     try clear fd
     try clear c8
     try clear fe
     try clear fg
     try clear er
     try clear ny
     try clear nz
     try clear cX
     try clear cD
     try clear fh
     try clear dd
     try clear de
     try clear df
     try clear dg
     try clear dh
     try clear di
     try clear dj
     try clear dk
     try clear dl
     try clear es
     try clear et
     try clear eu
     try clear ev
     try clear ew
     try clear ex
     try clear ey
     try clear ez
     try clear eA
     try clear eK
     try clear eL
     try clear eM
     try clear eN
     try clear eO
     try clear eP
     try clear eQ
     try clear eR
     try clear eS
     try clear dz
     try clear dA
     try clear dB
     try clear dC
     try clear dD
     try clear dE
     try clear dF
     try clear dG
     try clear dH
     try clear dR
     try clear dS
     try clear dT
     try clear dU
     try clear dV
     try clear dW
     try clear dX
     try clear dY
     try clear dZ
     try clear dm
     try clear dn
     try clear dp
     try clear dq
     try clear dr
     try clear ds
     try clear dt
     try clear du
     try clear dv
     try clear eB
     try clear eC
     try clear eD
     try clear eE
     try clear eF
     try clear eG
     try clear eH
     try clear eI
     try clear eJ
     try clear eT
     try clear eU
     try clear eV
     try clear eW
     try clear eX
     try clear eY
     try clear eZ
     try clear fa
     try clear fb
     try clear dI
     try clear dJ
     try clear dK
     try clear dL
     try clear dM
     try clear dN
     try clear dO
     try clear dP
     try clear dQ
     try clear ea
     try clear eb
     try clear ec
     try clear ed
     try clear ee
     try clear ef
     try clear eg
     try clear eh
     try clear ei
     try clear p2
     obtain ⟨kq,cW,rfl,HA,HJ14,HO_575004,HO_575005,aa,ac,HB⟩ := hcut
     cases kq with
     | zero => exact absurd HA.out (by simp [L_ChunkTwice.j1])
     | succ bI =>
      have H := HA.out
      clear HA
      simp only [L_ChunkTwice.j1] at H
      by_cases fi : cW = true
      ·
       subst fi
       have H1 : ((L_takes.f bI).bind fun dc => (if dc = true then (if bW = 0 then ((r16_Same.f bI ax ay az aB av aw aC aA aE al am an ao aj ak ap ag aq).bind fun cC => (some cC)) else (some true)) else (none))) = some r := by rw [if_pos rfl] at H; exact H
       clear H
       have H := H1
       clear H1
       replace H := Option.bind_eq_some_iff.mp H
       obtain ⟨dc,iX,H⟩ := H
       replace H : (if dc = true then (if bW = 0 then ((r16_Same.f bI ax ay az aB av aw aC aA aE al am an ao aj ak ap ag aq).bind fun cC => (some cC)) else (some true)) else (none)) = some r := H
       have jh := zzk iX
       clear iX
       by_cases fj : dc = true
       ·
        subst fj
        have H1 : (if bW = 0 then ((r16_Same.f bI ax ay az aB av aw aC aA aE al am an ao aj ak ap ag aq).bind fun cC => (some cC)) else (some true)) = some r := by rw [if_pos rfl] at H; exact H
        clear H
        have H := H1
        clear H1
        by_cases dw : bW = 0
        ·
         rw [if_pos dw] at H
         have fw : (bW == 0) = true := beq_iff_eq.mpr dw
         have fx : (bW != 0) = false := bne_eq_false_iff_eq.mpr dw
         clear dw
         replace H := Option.bind_eq_some_iff.mp H
         obtain ⟨cC,iY,H⟩ := H
         replace H : (some cC) = some r := H
         have nA := zzk iY
         clear iY
         obtain rfl := zzu H
         go_wp2_with (first | ((with_reducible refine zza (f := 26) rfl ?_); refine zzd (some 46) rfl rfl Try.func26 (by kernel_rfl) rfl #[] rfl (by (try simp only [zd,ze,zf]); first | done | rfl | (simp only [zg,zh]; rfl)) ?_; (with_reducible refine (L_takes.calls bI  true _ jh.out).mono ?_); rintro e cp ⟨rfl,hb⟩; refine ⟨_,rfl,?_⟩; have be := zzk (zv (by (with_reducible repeat (first | apply zu | apply zt | apply zs)); exact HO_575004.out) hb); have bf := zzk (zv (by (with_reducible repeat (first | apply zu | apply zt | apply zs)); exact HO_575005.out) hb); have bi := zzk (zo (g := ae) (o := .cells #[.int .i64 al,.int .i64 am,.int .i64 an,.int .i64 ao,.slice aV aj.length aW,.slice aX ak.length aY,.int .i64 ap,.string ag,.bool aq] 34 (0,0)) (by (with_reducible repeat (first | refine zj ?_ _ | refine zl ?_ | refine zk ?_ _)); exact aa.out) hb); have bj := zzk (zo (g := af) (o := .cells #[.int .i64 ax,.int .i64 ay,.int .i64 az,.int .i64 aB,.slice aS av.length aR,.slice aU aw.length aT,.int .i64 aC,.string aA,.bool aE] 34 (0,0)) (by (with_reducible repeat (first | refine zj ?_ _ | refine zl ?_ | refine zk ?_ _)); exact ac.out) hb); have br := zzk (Zs (by repeat (first | (with_reducible first | exact HB.out | apply Zq | apply Zp | apply Zo | refine Zn ?_ aI.out | refine Zn ?_ aZ.out) | exact HB.out)) hb); clear HO_575004; clear HO_575005; clear aa; clear ac; clear HB; have HO_575004 := be; have HO_575005 := bf; have aa := bi; have ac := bj; have HB := br; clear be bf bi bj br; (try clear hb); (try clear hb2); (try clear hk); (try clear hi); have nL := cm.out; have nM := aQ.out; have fF : cp.cell? ⟨af,0,none⟩ = some (.int .i64 ax) := (zi ac.out 0).trans rfl; have fG : cp.cell? ⟨af,1,none⟩ = some (.int .i64 ay) := (zi ac.out 1).trans rfl; have fH : cp.cell? ⟨af,2,none⟩ = some (.int .i64 az) := (zi ac.out 2).trans rfl; have fI : cp.cell? ⟨af,3,none⟩ = some (.int .i64 aB) := (zi ac.out 3).trans rfl; have fJ : cp.cell? ⟨af,4,none⟩ = some (.slice aS av.length aR) := (zi ac.out 4).trans rfl; have fK : cp.cell? ⟨af,5,none⟩ = some (.slice aU aw.length aT) := (zi ac.out 5).trans rfl; have fL : cp.cell? ⟨af,6,none⟩ = some (.int .i64 aC) := (zi ac.out 6).trans rfl; have fM : cp.cell? ⟨af,7,none⟩ = some (.string aA) := (zi ac.out 7).trans rfl; have fN : cp.cell? ⟨af,8,none⟩ = some (.bool aE) := (zi ac.out 8).trans rfl; have fO := zm ac.out 0; have fP := zm ac.out 1; have fQ := zm ac.out 2; have fR := zm ac.out 3; have fS := zm ac.out 4; have fT := zm ac.out 5; have fU := zm ac.out 6; have fV := zm ac.out 7; have fW := zm ac.out 8; have fX : cp.cell? ⟨ae,0,none⟩ = some (.int .i64 al) := (zi aa.out 0).trans rfl; have fY : cp.cell? ⟨ae,1,none⟩ = some (.int .i64 am) := (zi aa.out 1).trans rfl; have fZ : cp.cell? ⟨ae,2,none⟩ = some (.int .i64 an) := (zi aa.out 2).trans rfl; have ga : cp.cell? ⟨ae,3,none⟩ = some (.int .i64 ao) := (zi aa.out 3).trans rfl; have gb : cp.cell? ⟨ae,4,none⟩ = some (.slice aV aj.length aW) := (zi aa.out 4).trans rfl; have gc : cp.cell? ⟨ae,5,none⟩ = some (.slice aX ak.length aY) := (zi aa.out 5).trans rfl; have gd : cp.cell? ⟨ae,6,none⟩ = some (.int .i64 ap) := (zi aa.out 6).trans rfl; have gf : cp.cell? ⟨ae,7,none⟩ = some (.string ag) := (zi aa.out 7).trans rfl; have gg : cp.cell? ⟨ae,8,none⟩ = some (.bool aq) := (zi aa.out 8).trans rfl; have gh := zm aa.out 0; have gi := zm aa.out 1; have gj := zm aa.out 2; have gl := zm aa.out 3; have gm := zm aa.out 4; have gn := zm aa.out 5; have gp := zm aa.out 6; have gq := zm aa.out 7; have gr := zm aa.out 8) | (go_at_call 16; (with_reducible refine (r16_Same.calls bI ax ay az aB _ _ av _ _ aw aC aA aE al am an ao _ _ aj _ _ ak ap ag aq cC _ ?side1 ?side2 ?side3 ?side4 ?side5 ?side6 ?side7 ?side8 nA.out).mono ?_); (case side1 => repeat (first | exact (zw HO_575004.out).2.2 | (with_reducible refine Zk ?_ _) | (with_reducible refine Zj ?_ _) | (with_reducible refine Zl ?_))); (case side2 => exact (zw HO_575004.out).2.1); (case side3 => repeat (first | exact (zw HO_575005.out).2.2 | (with_reducible refine Zk ?_ _) | (with_reducible refine Zj ?_ _) | (with_reducible refine Zl ?_))); (case side4 => exact (zw HO_575005.out).2.1); (case side5 => repeat (first | exact (Zm cM.out HB.out) | (with_reducible refine Zk ?_ _) | (with_reducible refine Zj ?_ _) | (with_reducible refine Zl ?_))); (case side6 => exact cN.out); (case side7 => repeat (first | exact (Zm cO.out HB.out) | (with_reducible refine Zk ?_ _) | (with_reducible refine Zj ?_ _) | (with_reducible refine Zl ?_))); (case side8 => exact cP.out); rintro e oQ ⟨rfl,hb⟩; have be := zzk (zv (by (with_reducible repeat (first | apply zu | apply zt | apply zs)); exact HO_575004.out) hb); have bf := zzk (zv (by (with_reducible repeat (first | apply zu | apply zt | apply zs)); exact HO_575005.out) hb); have bi := zzk (zo (g := ae) (o := .cells #[.int .i64 al,.int .i64 am,.int .i64 an,.int .i64 ao,.slice aV aj.length aW,.slice aX ak.length aY,.int .i64 ap,.string ag,.bool aq] 34 (0,0)) (by (with_reducible repeat (first | refine zj ?_ _ | refine zl ?_ | refine zk ?_ _)); exact aa.out) hb); have bj := zzk (zo (g := af) (o := .cells #[.int .i64 ax,.int .i64 ay,.int .i64 az,.int .i64 aB,.slice aS av.length aR,.slice aU aw.length aT,.int .i64 aC,.string aA,.bool aE] 34 (0,0)) (by (with_reducible repeat (first | refine zj ?_ _ | refine zl ?_ | refine zk ?_ _)); exact ac.out) hb); have br := zzk (Zs (by repeat (first | (with_reducible first | exact HB.out | apply Zq | apply Zp | apply Zo | refine Zn ?_ aI.out | refine Zn ?_ aZ.out) | exact HB.out)) hb); clear HO_575004; clear HO_575005; clear aa; clear ac; clear HB; have HO_575004 := be; have HO_575005 := bf; have aa := bi; have ac := bj; have HB := br; clear be bf bi bj br; (try clear hb); (try clear hb2); (try clear hk); (try clear hi)))
         go_ret
         exact ⟨by first | rfl | (simp [zzl,zzm] <;> rfl) | (simp [*,zzl,zzm] <;> rfl),by repeat (first | (with_reducible first | exact HB.out | apply Zq | apply Zp | apply Zo | refine Zn ?_ aI.out | refine Zn ?_ aZ.out) | exact HB.out)⟩
        ·
         rw [if_neg dw] at H
         have fw : (bW == 0) = false := beq_eq_false_iff_ne.mpr dw
         have fx : (bW != 0) = true := bne_iff_ne.mpr dw
         obtain rfl := zzu H
         go_wp2_with (first | ((with_reducible refine zza (f := 26) rfl ?_); refine zzd (some 46) rfl rfl Try.func26 (by kernel_rfl) rfl #[] rfl (by (try simp only [zd,ze,zf]); first | done | rfl | (simp only [zg,zh]; rfl)) ?_; (with_reducible refine (L_takes.calls bI  true _ jh.out).mono ?_); rintro e oR ⟨rfl,hb⟩; refine ⟨_,rfl,?_⟩; have be := zzk (zv (by (with_reducible repeat (first | apply zu | apply zt | apply zs)); exact HO_575004.out) hb); have bf := zzk (zv (by (with_reducible repeat (first | apply zu | apply zt | apply zs)); exact HO_575005.out) hb); have bi := zzk (zo (g := ae) (o := .cells #[.int .i64 al,.int .i64 am,.int .i64 an,.int .i64 ao,.slice aV aj.length aW,.slice aX ak.length aY,.int .i64 ap,.string ag,.bool aq] 34 (0,0)) (by (with_reducible repeat (first | refine zj ?_ _ | refine zl ?_ | refine zk ?_ _)); exact aa.out) hb); have bj := zzk (zo (g := af) (o := .cells #[.int .i64 ax,.int .i64 ay,.int .i64 az,.int .i64 aB,.slice aS av.length aR,.slice aU aw.length aT,.int .i64 aC,.string aA,.bool aE] 34 (0,0)) (by (with_reducible repeat (first | refine zj ?_ _ | refine zl ?_ | refine zk ?_ _)); exact ac.out) hb); have br := zzk (Zs (by repeat (first | (with_reducible first | exact HB.out | apply Zq | apply Zp | apply Zo | refine Zn ?_ aI.out | refine Zn ?_ aZ.out) | exact HB.out)) hb); clear HO_575004; clear HO_575005; clear aa; clear ac; clear HB; have HO_575004 := be; have HO_575005 := bf; have aa := bi; have ac := bj; have HB := br; clear be bf bi bj br; (try clear hb); (try clear hb2); (try clear hk); (try clear hi)))
         go_ret
         exact ⟨by first | rfl | (simp [zzl,zzm] <;> rfl) | (simp [*,zzl,zzm] <;> rfl),by repeat (first | (with_reducible first | exact HB.out | apply Zq | apply Zp | apply Zo | refine Zn ?_ aI.out | refine Zn ?_ aZ.out) | exact HB.out)⟩
       ·
        replace fj := Bool.eq_false_iff.mpr fj
        subst fj
        have H1 : (none) = some r := by rw [if_neg (show ¬ (false = true) by decide)] at H; exact H
        clear H
        have H := H1
        clear H1
        exact absurd H (by simp)
      ·
       replace fi := Bool.eq_false_iff.mpr fi
       subst fi
       have H1 : ((chunk_Take.f bI ax ay az aB av aw aC aA aE (ag.size : Int) a1).bind fun bE => (if bE.2.2.2.2.2.2.2.2.2.2 = 0 then (if bE.2.2.2.2.2.2.2.2.2.1 = true then (if (a1.size : Int) > 0 then (L_ChunkTwice.j2 bI a1 a2 true al am an ao aj ak ap ag aq ax ay az aB av aw aC aA aE) else (L_ChunkTwice.j2 bI a1 a2 false al am an ao aj ak ap ag aq ax ay az aB av aw aC aA aE)) else ((r16_Same.f bI ax ay az aB av aw aC aA aE bE.1 bE.2.1 bE.2.2.1 bE.2.2.2.1 bE.2.2.2.2.1 bE.2.2.2.2.2.1 bE.2.2.2.2.2.2.1 bE.2.2.2.2.2.2.2.1 bE.2.2.2.2.2.2.2.2.1).bind fun cy => (L_ChunkTwice.j2 bI a1 a2 (!cy) al am an ao aj ak ap ag aq ax ay az aB av aw aC aA aE))) else (L_ChunkTwice.j2 bI a1 a2 true al am an ao aj ak ap ag aq ax ay az aB av aw aC aA aE))) = some r := by rw [if_neg (show ¬ (false = true) by decide)] at H; exact H
       clear H
       have H := H1
       clear H1
       replace H := Option.bind_eq_some_iff.mp H
       obtain ⟨⟨aD,aF,aH,aK,aG,aJ,ba,bh,bm,fq,cU⟩,iZ,H⟩ := H
       replace H : (if cU = 0 then (if fq = true then (if (a1.size : Int) > 0 then (L_ChunkTwice.j2 bI a1 a2 true al am an ao aj ak ap ag aq ax ay az aB av aw aC aA aE) else (L_ChunkTwice.j2 bI a1 a2 false al am an ao aj ak ap ag aq ax ay az aB av aw aC aA aE)) else ((r16_Same.f bI ax ay az aB av aw aC aA aE aD aF aH aK aG aJ ba bh bm).bind fun cy => (L_ChunkTwice.j2 bI a1 a2 (!cy) al am an ao aj ak ap ag aq ax ay az aB av aw aC aA aE))) else (L_ChunkTwice.j2 bI a1 a2 true al am an ao aj ak ap ag aq ax ay az aB av aw aC aA aE)) = some r := H
       have nB := zzk iZ
       clear iZ
       have fr := zzk H
       clear H
       have nN := cm.out
       have nO := aQ.out
       have gs : wc.cell? ⟨af,0,none⟩ = some (.int .i64 ax) := (zi ac.out 0).trans rfl
       have gu : wc.cell? ⟨af,1,none⟩ = some (.int .i64 ay) := (zi ac.out 1).trans rfl
       have gv : wc.cell? ⟨af,2,none⟩ = some (.int .i64 az) := (zi ac.out 2).trans rfl
       have gw : wc.cell? ⟨af,3,none⟩ = some (.int .i64 aB) := (zi ac.out 3).trans rfl
       have gx : wc.cell? ⟨af,4,none⟩ = some (.slice aS av.length aR) := (zi ac.out 4).trans rfl
       have gy : wc.cell? ⟨af,5,none⟩ = some (.slice aU aw.length aT) := (zi ac.out 5).trans rfl
       have gz : wc.cell? ⟨af,6,none⟩ = some (.int .i64 aC) := (zi ac.out 6).trans rfl
       have gA : wc.cell? ⟨af,7,none⟩ = some (.string aA) := (zi ac.out 7).trans rfl
       have gB : wc.cell? ⟨af,8,none⟩ = some (.bool aE) := (zi ac.out 8).trans rfl
       have gC := zm ac.out 0
       have gD := zm ac.out 1
       have gE := zm ac.out 2
       have gF := zm ac.out 3
       have gG := zm ac.out 4
       have gH := zm ac.out 5
       have gI := zm ac.out 6
       have gJ := zm ac.out 7
       have gK := zm ac.out 8
       have gL : wc.cell? ⟨ae,0,none⟩ = some (.int .i64 al) := (zi aa.out 0).trans rfl
       have gM : wc.cell? ⟨ae,1,none⟩ = some (.int .i64 am) := (zi aa.out 1).trans rfl
       have gN : wc.cell? ⟨ae,2,none⟩ = some (.int .i64 an) := (zi aa.out 2).trans rfl
       have gO : wc.cell? ⟨ae,3,none⟩ = some (.int .i64 ao) := (zi aa.out 3).trans rfl
       have gP : wc.cell? ⟨ae,4,none⟩ = some (.slice aV aj.length aW) := (zi aa.out 4).trans rfl
       have gQ : wc.cell? ⟨ae,5,none⟩ = some (.slice aX ak.length aY) := (zi aa.out 5).trans rfl
       have gR : wc.cell? ⟨ae,6,none⟩ = some (.int .i64 ap) := (zi aa.out 6).trans rfl
       have gS : wc.cell? ⟨ae,7,none⟩ = some (.string ag) := (zi aa.out 7).trans rfl
       have gT : wc.cell? ⟨ae,8,none⟩ = some (.bool aq) := (zi aa.out 8).trans rfl
       have gU := zm aa.out 0
       have gV := zm aa.out 1
       have gW := zm aa.out 2
       have gX := zm aa.out 3
       have gY := zm aa.out 4
       have gZ := zm aa.out 5
       have ha := zm aa.out 6
       have hc := zm aa.out 7
       have hf := zm aa.out 8
       go_upto_region 7 with (first | ((with_reducible refine zza (f := 22) rfl ?_); refine zzd (some 62) rfl rfl Try.func22 (by kernel_rfl) rfl #[.agg #[.int .i64 ax,.int .i64 ay,.int .i64 az,.int .i64 aB,.slice aS av.length aR,.slice aU aw.length aT,.int .i64 aC,.string aA,.bool aE],.int .i64 (ag.size : Int),.string a1] rfl (by (try simp only [zd,ze,zf]); first | done | rfl | (simp only [zg,zh]; rfl)) ?_; (with_reducible refine (chunk_Take.calls bI ax ay az aB _ _ av _ _ aw aC aA aE (ag.size : Int) a1 aD aF aH aK aG aJ ba bh bm fq cU _ ?side1 ?side2 ?side3 ?side4 nB.out).mono ?_); (case side1 => repeat (first | exact (zw HO_575004.out).2.2 | (with_reducible refine Zk ?_ _) | (with_reducible refine Zj ?_ _) | (with_reducible refine Zl ?_))); (case side2 => exact (zw HO_575004.out).2.1); (case side3 => repeat (first | exact (zw HO_575005.out).2.2 | (with_reducible refine Zk ?_ _) | (with_reducible refine Zj ?_ _) | (with_reducible refine Zl ?_))); (case side4 => exact (zw HO_575005.out).2.1); rintro e oS ⟨oL,oM,rfl,ho0,ho1,hb⟩; refine ⟨_,rfl,?_⟩; have be := zzk (zx (Zc (Zc (Kd.R_old (by (with_reducible repeat (first | apply zu | apply zt | apply zs)); exact HO_575004.out) hb) (Zd ho0)) (Zd ho1)) (fun _ h_ => h_.1)); have bf := zzk (zx (Zc (Zc (Kd.R_old (by (with_reducible repeat (first | apply zu | apply zt | apply zs)); exact HO_575005.out) hb) (Zd ho0)) (Zd ho1)) (fun _ h_ => h_.1)); have bi := zzk (Za (Zb (Zb ho0 (Kd.R_lt (by (with_reducible repeat (first | apply zu | apply zt | apply zs)); exact HO_575004.out))) (Kd.R_lt (by (with_reducible repeat (first | apply zu | apply zt | apply zs)); exact HO_575005.out))) (Zr (by repeat (first | (with_reducible first | exact HB.out | apply Zq | apply Zp | apply Zo | refine Zn ?_ aI.out | refine Zn ?_ aZ.out) | exact HB.out)))); have bj := zzk (Za (Zb (Zb ho1 (Kd.R_lt (by (with_reducible repeat (first | apply zu | apply zt | apply zs)); exact HO_575004.out))) (Kd.R_lt (by (with_reducible repeat (first | apply zu | apply zt | apply zs)); exact HO_575005.out))) (Zr (by repeat (first | (with_reducible first | exact HB.out | apply Zq | apply Zp | apply Zo | refine Zn ?_ aI.out | refine Zn ?_ aZ.out) | exact HB.out)))); have br := zzk (zo (g := ae) (o := .cells #[.int .i64 al,.int .i64 am,.int .i64 an,.int .i64 ao,.slice aV aj.length aW,.slice aX ak.length aY,.int .i64 ap,.string ag,.bool aq] 34 (0,0)) (by (with_reducible repeat (first | refine zj ?_ _ | refine zl ?_ | refine zk ?_ _)); exact aa.out) hb); have bv := zzk (zo (g := af) (o := .cells #[.int .i64 ax,.int .i64 ay,.int .i64 az,.int .i64 aB,.slice aS av.length aR,.slice aU aw.length aT,.int .i64 aC,.string aA,.bool aE] 34 (0,0)) (by (with_reducible repeat (first | refine zj ?_ _ | refine zl ?_ | refine zk ?_ _)); exact ac.out) hb); have bw := zzk (Zs (by repeat (first | (with_reducible first | exact HB.out | apply Zq | apply Zp | apply Zo | refine Zn ?_ aI.out | refine Zn ?_ aZ.out) | exact HB.out)) hb); clear HO_575004; clear HO_575005; clear aa; clear ac; clear HB; have HO_575004 := be; have HO_575005 := bf; have ci := bi; have cj := bj; have aa := br; have ac := bv; have HB := bw; clear be bf bi bj br bv bw; (try clear hb); (try clear hb2); (try clear hk); (try clear hi); (try clear ho0); (try clear ho1)) | ((with_reducible refine Zy (N := 10) rfl ?_); (try (refine Zz (by rfl) ?_; dsimp only)); refine zzc ?hg (N := 10) ?hd (cs := #[.int .i64 0,.int .i64 0,.int .i64 0,.int .i64 0,.slice none 0 0,.slice none 0 0,.int .i64 0,.string (⟨#[]⟩ : ByteArray),.bool false]) (t := 34) ?hr ?_; (case hd => rfl); (case hg => rfl); (case hr => first | (go_simp; done) | (go_simp; rfl)); intro ab hg bU hbox hb; have be := zzk (zv (by (with_reducible repeat (first | apply zu | apply zt | apply zs)); exact HO_575004.out) hb); have bf := zzk (zv (by (with_reducible repeat (first | apply zu | apply zt | apply zs)); exact HO_575005.out) hb); have bi := zzk (zv (by (with_reducible repeat (first | apply zu | apply zt | apply zs)); exact ci.out) hb); have bj := zzk (zv (by (with_reducible repeat (first | apply zu | apply zt | apply zs)); exact cj.out) hb); have br := zzk (zo (g := ae) (o := .cells #[.int .i64 al,.int .i64 am,.int .i64 an,.int .i64 ao,.slice aV aj.length aW,.slice aX ak.length aY,.int .i64 ap,.string ag,.bool aq] 34 (0,0)) (by (with_reducible repeat (first | refine zj ?_ _ | refine zl ?_ | refine zk ?_ _)); exact aa.out) hb); have bv := zzk (zo (g := af) (o := .cells #[.int .i64 ax,.int .i64 ay,.int .i64 az,.int .i64 aB,.slice aS av.length aR,.slice aU aw.length aT,.int .i64 aC,.string aA,.bool aE] 34 (0,0)) (by (with_reducible repeat (first | refine zj ?_ _ | refine zl ?_ | refine zk ?_ _)); exact ac.out) hb); have bw := zzk (Zs (by repeat (first | (with_reducible first | exact HB.out | apply Zq | apply Zp | apply Zo | refine Zn ?_ aI.out | refine Zn ?_ aZ.out) | exact HB.out)) hb); have bB := zzk (hbox); have bH := zzk ((by rw [hg]; exact (Zr (by repeat (first | (with_reducible first | exact HB.out | apply Zq | apply Zp | apply Zo | refine Zn ?_ aI.out | refine Zn ?_ aZ.out) | exact HB.out))) : w.heap.size ≤ ab)); have bJ := zzk ((by rw [hg]; exact (Zr (by repeat (first | (with_reducible first | exact HB.out | apply Zq | apply Zp | apply Zo | refine Zn ?_ aI.out | refine Zn ?_ aZ.out) | exact HB.out))) : w.heap.size ≤ ab)); have bF := zzk ((by rw [hg]; exact Nat.ne_of_lt (zq (g := ae) (o := .cells #[.int .i64 al,.int .i64 am,.int .i64 an,.int .i64 ao,.slice aV aj.length aW,.slice aX ak.length aY,.int .i64 ap,.string ag,.bool aq] 34 (0,0)) (by (with_reducible repeat (first | refine zj ?_ _ | refine zl ?_ | refine zk ?_ _)); exact aa.out)) : ae ≠ ab)); have cG := zzk ((by rw [hg]; exact Nat.ne_of_gt (zq (g := ae) (o := .cells #[.int .i64 al,.int .i64 am,.int .i64 an,.int .i64 ao,.slice aV aj.length aW,.slice aX ak.length aY,.int .i64 ap,.string ag,.bool aq] 34 (0,0)) (by (with_reducible repeat (first | refine zj ?_ _ | refine zl ?_ | refine zk ?_ _)); exact aa.out)) : ab ≠ ae)); have cH := zzk ((by rw [hg]; exact Nat.ne_of_lt (zq (g := af) (o := .cells #[.int .i64 ax,.int .i64 ay,.int .i64 az,.int .i64 aB,.slice aS av.length aR,.slice aU aw.length aT,.int .i64 aC,.string aA,.bool aE] 34 (0,0)) (by (with_reducible repeat (first | refine zj ?_ _ | refine zl ?_ | refine zk ?_ _)); exact ac.out)) : af ≠ ab)); have cI := zzk ((by rw [hg]; exact Nat.ne_of_gt (zq (g := af) (o := .cells #[.int .i64 ax,.int .i64 ay,.int .i64 az,.int .i64 aB,.slice aS av.length aR,.slice aU aw.length aT,.int .i64 aC,.string aA,.bool aE] 34 (0,0)) (by (with_reducible repeat (first | refine zj ?_ _ | refine zl ?_ | refine zk ?_ _)); exact ac.out)) : ab ≠ af)); clear HO_575004; clear HO_575005; clear ci; clear cj; clear aa; clear ac; clear HB; have HO_575004 := be; have HO_575005 := bf; have ci := bi; have cj := bj; have aa := br; have ac := bv; have HB := bw; have ah := bB; have nP := bH; have bx := bJ; have ar := bF; have cA := cG; have au := cH; have cB := cI; clear be bf bi bj br bv bw bB bH bJ bF cG cH cI; clear hb hbox hg; have nQ := cA.out; have nR := ar.out; have nS := cB.out; have nT := au.out; have hh : bU.cell? ⟨ab,0,none⟩ = some (.int .i64 0) := (zi ah.out 0).trans rfl; have hj : bU.cell? ⟨ab,1,none⟩ = some (.int .i64 0) := (zi ah.out 1).trans rfl; have hl : bU.cell? ⟨ab,2,none⟩ = some (.int .i64 0) := (zi ah.out 2).trans rfl; have hm : bU.cell? ⟨ab,3,none⟩ = some (.int .i64 0) := (zi ah.out 3).trans rfl; have hn : bU.cell? ⟨ab,4,none⟩ = some (.slice none 0 0) := (zi ah.out 4).trans rfl; have hq : bU.cell? ⟨ab,5,none⟩ = some (.slice none 0 0) := (zi ah.out 5).trans rfl; have ht : bU.cell? ⟨ab,6,none⟩ = some (.int .i64 0) := (zi ah.out 6).trans rfl; have hu : bU.cell? ⟨ab,7,none⟩ = some (.string (⟨#[]⟩ : ByteArray)) := (zi ah.out 7).trans rfl; have hv : bU.cell? ⟨ab,8,none⟩ = some (.bool false) := (zi ah.out 8).trans rfl; have hw := zm ah.out 0; have hx := zm ah.out 1; have hy := zm ah.out 2; have hz := zm ah.out 3; have ia := zm ah.out 4; have ib := zm ah.out 5; have ic := zm ah.out 6; have ie := zm ah.out 7; have ig := zm ah.out 8; obtain ⟨aM,aL,eo45⟩ := zz ci.out; subst eo45; obtain ⟨aP,aN,eo46⟩ := zz cj.out; subst eo46))
       (try simp only [Act.put,za,zb,zc])
       go_cut [85] (fun nC wc => ∃ (kq : Nat) (cY : Bool),nC = .bool cY ∧ Aside0 (L_ChunkTwice.j2 kq a1 a2 cY al am an ao aj ak ap ag aq ax ay az aB av aw aC aA aE = some r) ∧ Aside0 (kq ≤ bI) ∧ Aside0 (Kd.R (Kd.int .i64) 3 wc w.heap.size (fun k_ => some k_ ≠ ((.slice aU aw.length aT) : Value).ownBlock ∧ some k_ ≠ ((.slice aM aG.length aL) : Value).ownBlock ∧ some k_ ≠ ((.slice aP aJ.length aN) : Value).ownBlock) (.slice aS av.length aR) av) ∧ Aside0 (Kd.R (Kd.int .i64) 3 wc w.heap.size (fun k_ => some k_ ≠ ((.slice aS av.length aR) : Value).ownBlock ∧ some k_ ≠ ((.slice aM aG.length aL) : Value).ownBlock ∧ some k_ ≠ ((.slice aP aJ.length aN) : Value).ownBlock) (.slice aU aw.length aT) aw) ∧ Aside0 (Kd.R (Kd.int .i64) 3 wc w.heap.size (fun k_ => some k_ ≠ ((.slice aS av.length aR) : Value).ownBlock ∧ some k_ ≠ ((.slice aU aw.length aT) : Value).ownBlock ∧ some k_ ≠ ((.slice aP aJ.length aN) : Value).ownBlock) (.slice aM aG.length aL) aG) ∧ Aside0 (Kd.R (Kd.int .i64) 3 wc w.heap.size (fun k_ => some k_ ≠ ((.slice aS av.length aR) : Value).ownBlock ∧ some k_ ≠ ((.slice aU aw.length aT) : Value).ownBlock ∧ some k_ ≠ ((.slice aM aG.length aL) : Value).ownBlock) (.slice aP aJ.length aN) aJ) ∧ Aside0 (wc.heap[ae]? = some (.cells #[.int .i64 al,.int .i64 am,.int .i64 an,.int .i64 ao,(.slice aV aj.length aW),(.slice aX ak.length aY),.int .i64 ap,.string ag,.bool aq] 34 (0,0))) ∧ Aside0 (wc.heap[af]? = some (.cells #[.int .i64 ax,.int .i64 ay,.int .i64 az,.int .i64 aB,(.slice aS av.length aR),(.slice aU aw.length aT),.int .i64 aC,.string aA,.bool aE] 34 (0,0))) ∧ Aside0 (wc.heap[ab]? = some (.cells #[.int .i64 aD,.int .i64 aF,.int .i64 aH,.int .i64 aK,(.slice aM aG.length aL),(.slice aP aJ.length aN),.int .i64 ba,.string bh,.bool bm] 34 (0,0))) ∧ Aside0 (Below w.heap.size w wc))
       case first =>
        have H := fr.out
        clear fr
        by_cases dx : cU = 0
        ·
         rw [if_pos dx] at H
         have cS : (cU == 0) = true := beq_iff_eq.mpr dx
         have fy : (cU != 0) = false := bne_eq_false_iff_eq.mpr dx
         clear dx
         (first | rw [cS] | (simp only [Zv,Zw]; rw [cS]) | skip)
         by_cases fk : fq = true
         ·
          subst fk
          have H1 : (if (a1.size : Int) > 0 then (L_ChunkTwice.j2 bI a1 a2 true al am an ao aj ak ap ag aq ax ay az aB av aw aC aA aE) else (L_ChunkTwice.j2 bI a1 a2 false al am an ao aj ak ap ag aq ax ay az aB av aw aC aA aE)) = some r := by rw [if_pos rfl] at H; exact H
          clear H
          have H := H1
          clear H1
          by_cases ek : (a1.size : Int) > 0
          ·
           rw [if_pos ek] at H
           have fz : decide (0 < (a1.size : Int)) = true := zzn ek
           have fA : decide (0 < a1.size) = true := zzn (by omega)
           clear ek
           have H' := zzk H
           clear H
           go_wp2
           go_meet
           case rel => exact ⟨_,(true),(by first | rfl | (simp; done) | (simp [*]; done)),H',⟨by have := HJ3.out; have := HJ14.out; first | omega | exact Nat.le_refl _⟩,⟨by (with_reducible repeat (first | apply zu | apply zt | apply zs)); exact zx (zr (p := ⟨ab,8,none⟩) (zr (p := ⟨ab,7,none⟩) (zr (p := ⟨ab,6,none⟩) (zr (p := ⟨ab,5,none⟩) (zr (p := ⟨ab,4,none⟩) (zr (p := ⟨ab,3,none⟩) (zr (p := ⟨ab,2,none⟩) (zr (p := ⟨ab,1,none⟩) (zr (p := ⟨ab,0,none⟩) (zy HO_575004.out ah.out (by decide)) (fun _ hk => hk.2) (.int .i64 aD)) (fun _ hk => hk.2) (.int .i64 aF)) (fun _ hk => hk.2) (.int .i64 aH)) (fun _ hk => hk.2) (.int .i64 aK)) (fun _ hk => hk.2) (.slice aM aG.length aL)) (fun _ hk => hk.2) (.slice aP aJ.length aN)) (fun _ hk => hk.2) (.int .i64 ba)) (fun _ hk => hk.2) (.string bh)) (fun _ hk => hk.2) (.bool bm)) (fun _ hk => ⟨hk.1.1.1,⟨hk.1.1.2,hk.1.2⟩⟩)⟩,⟨by (with_reducible repeat (first | apply zu | apply zt | apply zs)); exact zx (zr (p := ⟨ab,8,none⟩) (zr (p := ⟨ab,7,none⟩) (zr (p := ⟨ab,6,none⟩) (zr (p := ⟨ab,5,none⟩) (zr (p := ⟨ab,4,none⟩) (zr (p := ⟨ab,3,none⟩) (zr (p := ⟨ab,2,none⟩) (zr (p := ⟨ab,1,none⟩) (zr (p := ⟨ab,0,none⟩) (zy HO_575005.out ah.out (by decide)) (fun _ hk => hk.2) (.int .i64 aD)) (fun _ hk => hk.2) (.int .i64 aF)) (fun _ hk => hk.2) (.int .i64 aH)) (fun _ hk => hk.2) (.int .i64 aK)) (fun _ hk => hk.2) (.slice aM aG.length aL)) (fun _ hk => hk.2) (.slice aP aJ.length aN)) (fun _ hk => hk.2) (.int .i64 ba)) (fun _ hk => hk.2) (.string bh)) (fun _ hk => hk.2) (.bool bm)) (fun _ hk => ⟨hk.1.1.1,⟨hk.1.1.2,hk.1.2⟩⟩)⟩,⟨by (with_reducible repeat (first | apply zu | apply zt | apply zs)); exact zx (zr (p := ⟨ab,8,none⟩) (zr (p := ⟨ab,7,none⟩) (zr (p := ⟨ab,6,none⟩) (zr (p := ⟨ab,5,none⟩) (zr (p := ⟨ab,4,none⟩) (zr (p := ⟨ab,3,none⟩) (zr (p := ⟨ab,2,none⟩) (zr (p := ⟨ab,1,none⟩) (zr (p := ⟨ab,0,none⟩) (zy ci.out ah.out (by decide)) (fun _ hk => hk.2) (.int .i64 aD)) (fun _ hk => hk.2) (.int .i64 aF)) (fun _ hk => hk.2) (.int .i64 aH)) (fun _ hk => hk.2) (.int .i64 aK)) (fun _ hk => hk.2) (.slice aM aG.length aL)) (fun _ hk => hk.2) (.slice aP aJ.length aN)) (fun _ hk => hk.2) (.int .i64 ba)) (fun _ hk => hk.2) (.string bh)) (fun _ hk => hk.2) (.bool bm)) (fun _ hk => ⟨hk.1.1.2,⟨hk.1.2,hk.1.1.1⟩⟩)⟩,⟨by (with_reducible repeat (first | apply zu | apply zt | apply zs)); exact zx (zr (p := ⟨ab,8,none⟩) (zr (p := ⟨ab,7,none⟩) (zr (p := ⟨ab,6,none⟩) (zr (p := ⟨ab,5,none⟩) (zr (p := ⟨ab,4,none⟩) (zr (p := ⟨ab,3,none⟩) (zr (p := ⟨ab,2,none⟩) (zr (p := ⟨ab,1,none⟩) (zr (p := ⟨ab,0,none⟩) (zy cj.out ah.out (by decide)) (fun _ hk => hk.2) (.int .i64 aD)) (fun _ hk => hk.2) (.int .i64 aF)) (fun _ hk => hk.2) (.int .i64 aH)) (fun _ hk => hk.2) (.int .i64 aK)) (fun _ hk => hk.2) (.slice aM aG.length aL)) (fun _ hk => hk.2) (.slice aP aJ.length aN)) (fun _ hk => hk.2) (.int .i64 ba)) (fun _ hk => hk.2) (.string bh)) (fun _ hk => hk.2) (.bool bm)) (fun _ hk => ⟨hk.1.1.2,⟨hk.1.2,hk.1.1.1⟩⟩)⟩,⟨by (with_reducible repeat (first | refine zj ?_ _ | refine zl ?_ | refine zk ?_ _)); refine zn ?_ ar.out _; (with_reducible repeat (first | refine zj ?_ _ | refine zl ?_ | refine zk ?_ _)); refine zn ?_ ar.out _; (with_reducible repeat (first | refine zj ?_ _ | refine zl ?_ | refine zk ?_ _)); refine zn ?_ ar.out _; (with_reducible repeat (first | refine zj ?_ _ | refine zl ?_ | refine zk ?_ _)); refine zn ?_ ar.out _; (with_reducible repeat (first | refine zj ?_ _ | refine zl ?_ | refine zk ?_ _)); refine zn ?_ ar.out _; (with_reducible repeat (first | refine zj ?_ _ | refine zl ?_ | refine zk ?_ _)); refine zn ?_ ar.out _; (with_reducible repeat (first | refine zj ?_ _ | refine zl ?_ | refine zk ?_ _)); refine zn ?_ ar.out _; (with_reducible repeat (first | refine zj ?_ _ | refine zl ?_ | refine zk ?_ _)); refine zn ?_ ar.out _; (with_reducible repeat (first | refine zj ?_ _ | refine zl ?_ | refine zk ?_ _)); refine zn ?_ ar.out _; (with_reducible repeat (first | refine zj ?_ _ | refine zl ?_ | refine zk ?_ _)); exact aa.out⟩,⟨by (with_reducible repeat (first | refine zj ?_ _ | refine zl ?_ | refine zk ?_ _)); refine zn ?_ au.out _; (with_reducible repeat (first | refine zj ?_ _ | refine zl ?_ | refine zk ?_ _)); refine zn ?_ au.out _; (with_reducible repeat (first | refine zj ?_ _ | refine zl ?_ | refine zk ?_ _)); refine zn ?_ au.out _; (with_reducible repeat (first | refine zj ?_ _ | refine zl ?_ | refine zk ?_ _)); refine zn ?_ au.out _; (with_reducible repeat (first | refine zj ?_ _ | refine zl ?_ | refine zk ?_ _)); refine zn ?_ au.out _; (with_reducible repeat (first | refine zj ?_ _ | refine zl ?_ | refine zk ?_ _)); refine zn ?_ au.out _; (with_reducible repeat (first | refine zj ?_ _ | refine zl ?_ | refine zk ?_ _)); refine zn ?_ au.out _; (with_reducible repeat (first | refine zj ?_ _ | refine zl ?_ | refine zk ?_ _)); refine zn ?_ au.out _; (with_reducible repeat (first | refine zj ?_ _ | refine zl ?_ | refine zk ?_ _)); refine zn ?_ au.out _; (with_reducible repeat (first | refine zj ?_ _ | refine zl ?_ | refine zk ?_ _)); exact ac.out⟩,⟨by (with_reducible repeat (first | refine zj ?_ _ | refine zl ?_ | refine zk ?_ _)); refine zp (cs := #[.int .i64 aD,.int .i64 aF,.int .i64 aH,.int .i64 aK,.slice aM aG.length aL,.slice aP aJ.length aN,.int .i64 ba,.string bh,.bool false]) ?_ 8 _ rfl; (with_reducible repeat (first | refine zj ?_ _ | refine zl ?_ | refine zk ?_ _)); refine zp (cs := #[.int .i64 aD,.int .i64 aF,.int .i64 aH,.int .i64 aK,.slice aM aG.length aL,.slice aP aJ.length aN,.int .i64 ba,.string (⟨#[]⟩ : ByteArray),.bool false]) ?_ 7 _ rfl; (with_reducible repeat (first | refine zj ?_ _ | refine zl ?_ | refine zk ?_ _)); refine zp (cs := #[.int .i64 aD,.int .i64 aF,.int .i64 aH,.int .i64 aK,.slice aM aG.length aL,.slice aP aJ.length aN,.int .i64 0,.string (⟨#[]⟩ : ByteArray),.bool false]) ?_ 6 _ rfl; (with_reducible repeat (first | refine zj ?_ _ | refine zl ?_ | refine zk ?_ _)); refine zp (cs := #[.int .i64 aD,.int .i64 aF,.int .i64 aH,.int .i64 aK,.slice aM aG.length aL,.slice none 0 0,.int .i64 0,.string (⟨#[]⟩ : ByteArray),.bool false]) ?_ 5 _ rfl; (with_reducible repeat (first | refine zj ?_ _ | refine zl ?_ | refine zk ?_ _)); refine zp (cs := #[.int .i64 aD,.int .i64 aF,.int .i64 aH,.int .i64 aK,.slice none 0 0,.slice none 0 0,.int .i64 0,.string (⟨#[]⟩ : ByteArray),.bool false]) ?_ 4 _ rfl; (with_reducible repeat (first | refine zj ?_ _ | refine zl ?_ | refine zk ?_ _)); refine zp (cs := #[.int .i64 aD,.int .i64 aF,.int .i64 aH,.int .i64 0,.slice none 0 0,.slice none 0 0,.int .i64 0,.string (⟨#[]⟩ : ByteArray),.bool false]) ?_ 3 _ rfl; (with_reducible repeat (first | refine zj ?_ _ | refine zl ?_ | refine zk ?_ _)); refine zp (cs := #[.int .i64 aD,.int .i64 aF,.int .i64 0,.int .i64 0,.slice none 0 0,.slice none 0 0,.int .i64 0,.string (⟨#[]⟩ : ByteArray),.bool false]) ?_ 2 _ rfl; (with_reducible repeat (first | refine zj ?_ _ | refine zl ?_ | refine zk ?_ _)); refine zp (cs := #[.int .i64 aD,.int .i64 0,.int .i64 0,.int .i64 0,.slice none 0 0,.slice none 0 0,.int .i64 0,.string (⟨#[]⟩ : ByteArray),.bool false]) ?_ 1 _ rfl; (with_reducible repeat (first | refine zj ?_ _ | refine zl ?_ | refine zk ?_ _)); refine zp (cs := #[.int .i64 0,.int .i64 0,.int .i64 0,.int .i64 0,.slice none 0 0,.slice none 0 0,.int .i64 0,.string (⟨#[]⟩ : ByteArray),.bool false]) ?_ 0 _ rfl; (with_reducible repeat (first | refine zj ?_ _ | refine zl ?_ | refine zk ?_ _)); exact ah.out⟩,⟨by repeat (first | (with_reducible first | exact HB.out | apply Zq | apply Zp | apply Zo | refine Zn ?_ aI.out | refine Zn ?_ aZ.out | refine Zn ?_ bx.out) | exact HB.out)⟩⟩
          ·
           rw [if_neg ek] at H
           have fz : decide (0 < (a1.size : Int)) = false := zzo ek
           have fA : decide (0 < a1.size) = false := zzo (by omega)
           clear ek
           have H' := zzk H
           clear H
           go_wp2
           go_meet
           case rel => exact ⟨_,(false),(by first | rfl | (simp; done) | (simp [*]; done)),H',⟨by have := HJ3.out; have := HJ14.out; first | omega | exact Nat.le_refl _⟩,⟨by (with_reducible repeat (first | apply zu | apply zt | apply zs)); exact zx (zr (p := ⟨ab,8,none⟩) (zr (p := ⟨ab,7,none⟩) (zr (p := ⟨ab,6,none⟩) (zr (p := ⟨ab,5,none⟩) (zr (p := ⟨ab,4,none⟩) (zr (p := ⟨ab,3,none⟩) (zr (p := ⟨ab,2,none⟩) (zr (p := ⟨ab,1,none⟩) (zr (p := ⟨ab,0,none⟩) (zy HO_575004.out ah.out (by decide)) (fun _ hk => hk.2) (.int .i64 aD)) (fun _ hk => hk.2) (.int .i64 aF)) (fun _ hk => hk.2) (.int .i64 aH)) (fun _ hk => hk.2) (.int .i64 aK)) (fun _ hk => hk.2) (.slice aM aG.length aL)) (fun _ hk => hk.2) (.slice aP aJ.length aN)) (fun _ hk => hk.2) (.int .i64 ba)) (fun _ hk => hk.2) (.string bh)) (fun _ hk => hk.2) (.bool bm)) (fun _ hk => ⟨hk.1.1.1,⟨hk.1.1.2,hk.1.2⟩⟩)⟩,⟨by (with_reducible repeat (first | apply zu | apply zt | apply zs)); exact zx (zr (p := ⟨ab,8,none⟩) (zr (p := ⟨ab,7,none⟩) (zr (p := ⟨ab,6,none⟩) (zr (p := ⟨ab,5,none⟩) (zr (p := ⟨ab,4,none⟩) (zr (p := ⟨ab,3,none⟩) (zr (p := ⟨ab,2,none⟩) (zr (p := ⟨ab,1,none⟩) (zr (p := ⟨ab,0,none⟩) (zy HO_575005.out ah.out (by decide)) (fun _ hk => hk.2) (.int .i64 aD)) (fun _ hk => hk.2) (.int .i64 aF)) (fun _ hk => hk.2) (.int .i64 aH)) (fun _ hk => hk.2) (.int .i64 aK)) (fun _ hk => hk.2) (.slice aM aG.length aL)) (fun _ hk => hk.2) (.slice aP aJ.length aN)) (fun _ hk => hk.2) (.int .i64 ba)) (fun _ hk => hk.2) (.string bh)) (fun _ hk => hk.2) (.bool bm)) (fun _ hk => ⟨hk.1.1.1,⟨hk.1.1.2,hk.1.2⟩⟩)⟩,⟨by (with_reducible repeat (first | apply zu | apply zt | apply zs)); exact zx (zr (p := ⟨ab,8,none⟩) (zr (p := ⟨ab,7,none⟩) (zr (p := ⟨ab,6,none⟩) (zr (p := ⟨ab,5,none⟩) (zr (p := ⟨ab,4,none⟩) (zr (p := ⟨ab,3,none⟩) (zr (p := ⟨ab,2,none⟩) (zr (p := ⟨ab,1,none⟩) (zr (p := ⟨ab,0,none⟩) (zy ci.out ah.out (by decide)) (fun _ hk => hk.2) (.int .i64 aD)) (fun _ hk => hk.2) (.int .i64 aF)) (fun _ hk => hk.2) (.int .i64 aH)) (fun _ hk => hk.2) (.int .i64 aK)) (fun _ hk => hk.2) (.slice aM aG.length aL)) (fun _ hk => hk.2) (.slice aP aJ.length aN)) (fun _ hk => hk.2) (.int .i64 ba)) (fun _ hk => hk.2) (.string bh)) (fun _ hk => hk.2) (.bool bm)) (fun _ hk => ⟨hk.1.1.2,⟨hk.1.2,hk.1.1.1⟩⟩)⟩,⟨by (with_reducible repeat (first | apply zu | apply zt | apply zs)); exact zx (zr (p := ⟨ab,8,none⟩) (zr (p := ⟨ab,7,none⟩) (zr (p := ⟨ab,6,none⟩) (zr (p := ⟨ab,5,none⟩) (zr (p := ⟨ab,4,none⟩) (zr (p := ⟨ab,3,none⟩) (zr (p := ⟨ab,2,none⟩) (zr (p := ⟨ab,1,none⟩) (zr (p := ⟨ab,0,none⟩) (zy cj.out ah.out (by decide)) (fun _ hk => hk.2) (.int .i64 aD)) (fun _ hk => hk.2) (.int .i64 aF)) (fun _ hk => hk.2) (.int .i64 aH)) (fun _ hk => hk.2) (.int .i64 aK)) (fun _ hk => hk.2) (.slice aM aG.length aL)) (fun _ hk => hk.2) (.slice aP aJ.length aN)) (fun _ hk => hk.2) (.int .i64 ba)) (fun _ hk => hk.2) (.string bh)) (fun _ hk => hk.2) (.bool bm)) (fun _ hk => ⟨hk.1.1.2,⟨hk.1.2,hk.1.1.1⟩⟩)⟩,⟨by (with_reducible repeat (first | refine zj ?_ _ | refine zl ?_ | refine zk ?_ _)); refine zn ?_ ar.out _; (with_reducible repeat (first | refine zj ?_ _ | refine zl ?_ | refine zk ?_ _)); refine zn ?_ ar.out _; (with_reducible repeat (first | refine zj ?_ _ | refine zl ?_ | refine zk ?_ _)); refine zn ?_ ar.out _; (with_reducible repeat (first | refine zj ?_ _ | refine zl ?_ | refine zk ?_ _)); refine zn ?_ ar.out _; (with_reducible repeat (first | refine zj ?_ _ | refine zl ?_ | refine zk ?_ _)); refine zn ?_ ar.out _; (with_reducible repeat (first | refine zj ?_ _ | refine zl ?_ | refine zk ?_ _)); refine zn ?_ ar.out _; (with_reducible repeat (first | refine zj ?_ _ | refine zl ?_ | refine zk ?_ _)); refine zn ?_ ar.out _; (with_reducible repeat (first | refine zj ?_ _ | refine zl ?_ | refine zk ?_ _)); refine zn ?_ ar.out _; (with_reducible repeat (first | refine zj ?_ _ | refine zl ?_ | refine zk ?_ _)); refine zn ?_ ar.out _; (with_reducible repeat (first | refine zj ?_ _ | refine zl ?_ | refine zk ?_ _)); exact aa.out⟩,⟨by (with_reducible repeat (first | refine zj ?_ _ | refine zl ?_ | refine zk ?_ _)); refine zn ?_ au.out _; (with_reducible repeat (first | refine zj ?_ _ | refine zl ?_ | refine zk ?_ _)); refine zn ?_ au.out _; (with_reducible repeat (first | refine zj ?_ _ | refine zl ?_ | refine zk ?_ _)); refine zn ?_ au.out _; (with_reducible repeat (first | refine zj ?_ _ | refine zl ?_ | refine zk ?_ _)); refine zn ?_ au.out _; (with_reducible repeat (first | refine zj ?_ _ | refine zl ?_ | refine zk ?_ _)); refine zn ?_ au.out _; (with_reducible repeat (first | refine zj ?_ _ | refine zl ?_ | refine zk ?_ _)); refine zn ?_ au.out _; (with_reducible repeat (first | refine zj ?_ _ | refine zl ?_ | refine zk ?_ _)); refine zn ?_ au.out _; (with_reducible repeat (first | refine zj ?_ _ | refine zl ?_ | refine zk ?_ _)); refine zn ?_ au.out _; (with_reducible repeat (first | refine zj ?_ _ | refine zl ?_ | refine zk ?_ _)); refine zn ?_ au.out _; (with_reducible repeat (first | refine zj ?_ _ | refine zl ?_ | refine zk ?_ _)); exact ac.out⟩,⟨by (with_reducible repeat (first | refine zj ?_ _ | refine zl ?_ | refine zk ?_ _)); refine zp (cs := #[.int .i64 aD,.int .i64 aF,.int .i64 aH,.int .i64 aK,.slice aM aG.length aL,.slice aP aJ.length aN,.int .i64 ba,.string bh,.bool false]) ?_ 8 _ rfl; (with_reducible repeat (first | refine zj ?_ _ | refine zl ?_ | refine zk ?_ _)); refine zp (cs := #[.int .i64 aD,.int .i64 aF,.int .i64 aH,.int .i64 aK,.slice aM aG.length aL,.slice aP aJ.length aN,.int .i64 ba,.string (⟨#[]⟩ : ByteArray),.bool false]) ?_ 7 _ rfl; (with_reducible repeat (first | refine zj ?_ _ | refine zl ?_ | refine zk ?_ _)); refine zp (cs := #[.int .i64 aD,.int .i64 aF,.int .i64 aH,.int .i64 aK,.slice aM aG.length aL,.slice aP aJ.length aN,.int .i64 0,.string (⟨#[]⟩ : ByteArray),.bool false]) ?_ 6 _ rfl; (with_reducible repeat (first | refine zj ?_ _ | refine zl ?_ | refine zk ?_ _)); refine zp (cs := #[.int .i64 aD,.int .i64 aF,.int .i64 aH,.int .i64 aK,.slice aM aG.length aL,.slice none 0 0,.int .i64 0,.string (⟨#[]⟩ : ByteArray),.bool false]) ?_ 5 _ rfl; (with_reducible repeat (first | refine zj ?_ _ | refine zl ?_ | refine zk ?_ _)); refine zp (cs := #[.int .i64 aD,.int .i64 aF,.int .i64 aH,.int .i64 aK,.slice none 0 0,.slice none 0 0,.int .i64 0,.string (⟨#[]⟩ : ByteArray),.bool false]) ?_ 4 _ rfl; (with_reducible repeat (first | refine zj ?_ _ | refine zl ?_ | refine zk ?_ _)); refine zp (cs := #[.int .i64 aD,.int .i64 aF,.int .i64 aH,.int .i64 0,.slice none 0 0,.slice none 0 0,.int .i64 0,.string (⟨#[]⟩ : ByteArray),.bool false]) ?_ 3 _ rfl; (with_reducible repeat (first | refine zj ?_ _ | refine zl ?_ | refine zk ?_ _)); refine zp (cs := #[.int .i64 aD,.int .i64 aF,.int .i64 0,.int .i64 0,.slice none 0 0,.slice none 0 0,.int .i64 0,.string (⟨#[]⟩ : ByteArray),.bool false]) ?_ 2 _ rfl; (with_reducible repeat (first | refine zj ?_ _ | refine zl ?_ | refine zk ?_ _)); refine zp (cs := #[.int .i64 aD,.int .i64 0,.int .i64 0,.int .i64 0,.slice none 0 0,.slice none 0 0,.int .i64 0,.string (⟨#[]⟩ : ByteArray),.bool false]) ?_ 1 _ rfl; (with_reducible repeat (first | refine zj ?_ _ | refine zl ?_ | refine zk ?_ _)); refine zp (cs := #[.int .i64 0,.int .i64 0,.int .i64 0,.int .i64 0,.slice none 0 0,.slice none 0 0,.int .i64 0,.string (⟨#[]⟩ : ByteArray),.bool false]) ?_ 0 _ rfl; (with_reducible repeat (first | refine zj ?_ _ | refine zl ?_ | refine zk ?_ _)); exact ah.out⟩,⟨by repeat (first | (with_reducible first | exact HB.out | apply Zq | apply Zp | apply Zo | refine Zn ?_ aI.out | refine Zn ?_ aZ.out | refine Zn ?_ bx.out) | exact HB.out)⟩⟩
         ·
          replace fk := Bool.eq_false_iff.mpr fk
          subst fk
          have H1 : ((r16_Same.f bI ax ay az aB av aw aC aA aE aD aF aH aK aG aJ ba bh bm).bind fun cy => (L_ChunkTwice.j2 bI a1 a2 (!cy) al am an ao aj ak ap ag aq ax ay az aB av aw aC aA aE)) = some r := by rw [if_neg (show ¬ (false = true) by decide)] at H; exact H
          clear H
          have H := H1
          clear H1
          replace H := Option.bind_eq_some_iff.mp H
          obtain ⟨cy,ja,H⟩ := H
          replace H : (L_ChunkTwice.j2 bI a1 a2 (!cy) al am an ao aj ak ap ag aq ax ay az aB av aw aC aA aE) = some r := H
          have nD := zzk ja
          clear ja
          have H' := zzk H
          clear H
          have nU := cm.out
          have nV := aQ.out
          have nW := au.out
          have nX := cB.out
          have ih : bU.cell? ⟨af,0,none⟩ = some (.int .i64 ax) := (zi ac.out 0).trans rfl
          have ii : bU.cell? ⟨af,1,none⟩ = some (.int .i64 ay) := (zi ac.out 1).trans rfl
          have ij : bU.cell? ⟨af,2,none⟩ = some (.int .i64 az) := (zi ac.out 2).trans rfl
          have ik : bU.cell? ⟨af,3,none⟩ = some (.int .i64 aB) := (zi ac.out 3).trans rfl
          have il : bU.cell? ⟨af,4,none⟩ = some (.slice aS av.length aR) := (zi ac.out 4).trans rfl
          have im : bU.cell? ⟨af,5,none⟩ = some (.slice aU aw.length aT) := (zi ac.out 5).trans rfl
          have ip : bU.cell? ⟨af,6,none⟩ = some (.int .i64 aC) := (zi ac.out 6).trans rfl
          have iq : bU.cell? ⟨af,7,none⟩ = some (.string aA) := (zi ac.out 7).trans rfl
          have ir : bU.cell? ⟨af,8,none⟩ = some (.bool aE) := (zi ac.out 8).trans rfl
          have it := zm ac.out 0
          have iu := zm ac.out 1
          have iv := zm ac.out 2
          have iw := zm ac.out 3
          have ix := zm ac.out 4
          have iy := zm ac.out 5
          have iz := zm ac.out 6
          have iA := zm ac.out 7
          have iB := zm ac.out 8
          have nY := cA.out
          have nZ := ar.out
          have iC : bU.cell? ⟨ab,0,none⟩ = some (.int .i64 0) := (zi ah.out 0).trans rfl
          have iD : bU.cell? ⟨ab,1,none⟩ = some (.int .i64 0) := (zi ah.out 1).trans rfl
          have iE : bU.cell? ⟨ab,2,none⟩ = some (.int .i64 0) := (zi ah.out 2).trans rfl
          have iF : bU.cell? ⟨ab,3,none⟩ = some (.int .i64 0) := (zi ah.out 3).trans rfl
          have iG : bU.cell? ⟨ab,4,none⟩ = some (.slice none 0 0) := (zi ah.out 4).trans rfl
          have iH : bU.cell? ⟨ab,5,none⟩ = some (.slice none 0 0) := (zi ah.out 5).trans rfl
          have iI : bU.cell? ⟨ab,6,none⟩ = some (.int .i64 0) := (zi ah.out 6).trans rfl
          have iJ : bU.cell? ⟨ab,7,none⟩ = some (.string (⟨#[]⟩ : ByteArray)) := (zi ah.out 7).trans rfl
          have iK : bU.cell? ⟨ab,8,none⟩ = some (.bool false) := (zi ah.out 8).trans rfl
          have iL := zm ah.out 0
          have iM := zm ah.out 1
          have iN := zm ah.out 2
          have iO := zm ah.out 3
          have iP := zm ah.out 4
          have iQ := zm ah.out 5
          have iR := zm ah.out 6
          have iS := zm ah.out 7
          have iT := zm ah.out 8
          go_wp2_with (first | (go_at_call 16; (with_reducible refine (r16_Same.calls bI ax ay az aB _ _ av _ _ aw aC aA aE aD aF aH aK _ _ aG _ _ aJ ba bh bm cy _ ?side1 ?side2 ?side3 ?side4 ?side5 ?side6 ?side7 ?side8 nD.out).mono ?_); (case side1 => refine (zw (e := 3) (base := w.heap.size) (ok := fun k_ => ((some k_ ≠ (.slice aU aw.length aT : Value).ownBlock ∧ some k_ ≠ (.slice aM aG.length aL : Value).ownBlock) ∧ some k_ ≠ (.slice aP aJ.length aN : Value).ownBlock)) (n := av.length) (c := aR) ?_).2.2; exact (by (with_reducible repeat (first | apply zu | apply zt | apply zs)); exact (zx (zr (p := ⟨ab,8,none⟩) (zr (p := ⟨ab,7,none⟩) (zr (p := ⟨ab,6,none⟩) (zr (p := ⟨ab,5,none⟩) (zr (p := ⟨ab,4,none⟩) (zr (p := ⟨ab,3,none⟩) (zr (p := ⟨ab,2,none⟩) (zr (p := ⟨ab,1,none⟩) (zr (p := ⟨ab,0,none⟩) (zy HO_575004.out ah.out (by decide)) (fun _ hk => hk.2) (.int .i64 aD)) (fun _ hk => hk.2) (.int .i64 aF)) (fun _ hk => hk.2) (.int .i64 aH)) (fun _ hk => hk.2) (.int .i64 aK)) (fun _ hk => hk.2) (.slice aM aG.length aL)) (fun _ hk => hk.2) (.slice aP aJ.length aN)) (fun _ hk => hk.2) (.int .i64 ba)) (fun _ hk => hk.2) (.string bh)) (fun _ hk => hk.2) (.bool bm)) (fun _ h_ => h_.1)))); (case side2 => exact (zw HO_575004.out).2.1); (case side3 => refine (zw (e := 3) (base := w.heap.size) (ok := fun k_ => ((some k_ ≠ (.slice aS av.length aR : Value).ownBlock ∧ some k_ ≠ (.slice aM aG.length aL : Value).ownBlock) ∧ some k_ ≠ (.slice aP aJ.length aN : Value).ownBlock)) (n := aw.length) (c := aT) ?_).2.2; exact (by (with_reducible repeat (first | apply zu | apply zt | apply zs)); exact (zx (zr (p := ⟨ab,8,none⟩) (zr (p := ⟨ab,7,none⟩) (zr (p := ⟨ab,6,none⟩) (zr (p := ⟨ab,5,none⟩) (zr (p := ⟨ab,4,none⟩) (zr (p := ⟨ab,3,none⟩) (zr (p := ⟨ab,2,none⟩) (zr (p := ⟨ab,1,none⟩) (zr (p := ⟨ab,0,none⟩) (zy HO_575005.out ah.out (by decide)) (fun _ hk => hk.2) (.int .i64 aD)) (fun _ hk => hk.2) (.int .i64 aF)) (fun _ hk => hk.2) (.int .i64 aH)) (fun _ hk => hk.2) (.int .i64 aK)) (fun _ hk => hk.2) (.slice aM aG.length aL)) (fun _ hk => hk.2) (.slice aP aJ.length aN)) (fun _ hk => hk.2) (.int .i64 ba)) (fun _ hk => hk.2) (.string bh)) (fun _ hk => hk.2) (.bool bm)) (fun _ h_ => h_.1)))); (case side4 => exact (zw HO_575005.out).2.1); (case side5 => refine (zw (e := 3) (base := w.heap.size) (ok := fun k_ => ((some k_ ≠ (.slice aP aJ.length aN : Value).ownBlock ∧ some k_ ≠ (.slice aS av.length aR : Value).ownBlock) ∧ some k_ ≠ (.slice aU aw.length aT : Value).ownBlock)) (n := aG.length) (c := aL) ?_).2.2; exact (by (with_reducible repeat (first | apply zu | apply zt | apply zs)); exact (zx (zr (p := ⟨ab,8,none⟩) (zr (p := ⟨ab,7,none⟩) (zr (p := ⟨ab,6,none⟩) (zr (p := ⟨ab,5,none⟩) (zr (p := ⟨ab,4,none⟩) (zr (p := ⟨ab,3,none⟩) (zr (p := ⟨ab,2,none⟩) (zr (p := ⟨ab,1,none⟩) (zr (p := ⟨ab,0,none⟩) (zy ci.out ah.out (by decide)) (fun _ hk => hk.2) (.int .i64 aD)) (fun _ hk => hk.2) (.int .i64 aF)) (fun _ hk => hk.2) (.int .i64 aH)) (fun _ hk => hk.2) (.int .i64 aK)) (fun _ hk => hk.2) (.slice aM aG.length aL)) (fun _ hk => hk.2) (.slice aP aJ.length aN)) (fun _ hk => hk.2) (.int .i64 ba)) (fun _ hk => hk.2) (.string bh)) (fun _ hk => hk.2) (.bool bm)) (fun _ h_ => h_.1)))); (case side6 => exact (zw ci.out).2.1); (case side7 => refine (zw (e := 3) (base := w.heap.size) (ok := fun k_ => ((some k_ ≠ (.slice aM aG.length aL : Value).ownBlock ∧ some k_ ≠ (.slice aS av.length aR : Value).ownBlock) ∧ some k_ ≠ (.slice aU aw.length aT : Value).ownBlock)) (n := aJ.length) (c := aN) ?_).2.2; exact (by (with_reducible repeat (first | apply zu | apply zt | apply zs)); exact (zx (zr (p := ⟨ab,8,none⟩) (zr (p := ⟨ab,7,none⟩) (zr (p := ⟨ab,6,none⟩) (zr (p := ⟨ab,5,none⟩) (zr (p := ⟨ab,4,none⟩) (zr (p := ⟨ab,3,none⟩) (zr (p := ⟨ab,2,none⟩) (zr (p := ⟨ab,1,none⟩) (zr (p := ⟨ab,0,none⟩) (zy cj.out ah.out (by decide)) (fun _ hk => hk.2) (.int .i64 aD)) (fun _ hk => hk.2) (.int .i64 aF)) (fun _ hk => hk.2) (.int .i64 aH)) (fun _ hk => hk.2) (.int .i64 aK)) (fun _ hk => hk.2) (.slice aM aG.length aL)) (fun _ hk => hk.2) (.slice aP aJ.length aN)) (fun _ hk => hk.2) (.int .i64 ba)) (fun _ hk => hk.2) (.string bh)) (fun _ hk => hk.2) (.bool bm)) (fun _ h_ => h_.1)))); (case side8 => exact (zw cj.out).2.1); rintro e oT ⟨rfl,hb⟩; have be := zzk (zv (by (with_reducible repeat (first | apply zu | apply zt | apply zs)); exact (zx (zr (p := ⟨ab,8,none⟩) (zr (p := ⟨ab,7,none⟩) (zr (p := ⟨ab,6,none⟩) (zr (p := ⟨ab,5,none⟩) (zr (p := ⟨ab,4,none⟩) (zr (p := ⟨ab,3,none⟩) (zr (p := ⟨ab,2,none⟩) (zr (p := ⟨ab,1,none⟩) (zr (p := ⟨ab,0,none⟩) (zy HO_575004.out ah.out (by decide)) (fun _ hk => hk.2) (.int .i64 aD)) (fun _ hk => hk.2) (.int .i64 aF)) (fun _ hk => hk.2) (.int .i64 aH)) (fun _ hk => hk.2) (.int .i64 aK)) (fun _ hk => hk.2) (.slice aM aG.length aL)) (fun _ hk => hk.2) (.slice aP aJ.length aN)) (fun _ hk => hk.2) (.int .i64 ba)) (fun _ hk => hk.2) (.string bh)) (fun _ hk => hk.2) (.bool bm)) (fun _ h_ => h_.1))) hb); have bf := zzk (zv (by (with_reducible repeat (first | apply zu | apply zt | apply zs)); exact (zx (zr (p := ⟨ab,8,none⟩) (zr (p := ⟨ab,7,none⟩) (zr (p := ⟨ab,6,none⟩) (zr (p := ⟨ab,5,none⟩) (zr (p := ⟨ab,4,none⟩) (zr (p := ⟨ab,3,none⟩) (zr (p := ⟨ab,2,none⟩) (zr (p := ⟨ab,1,none⟩) (zr (p := ⟨ab,0,none⟩) (zy HO_575005.out ah.out (by decide)) (fun _ hk => hk.2) (.int .i64 aD)) (fun _ hk => hk.2) (.int .i64 aF)) (fun _ hk => hk.2) (.int .i64 aH)) (fun _ hk => hk.2) (.int .i64 aK)) (fun _ hk => hk.2) (.slice aM aG.length aL)) (fun _ hk => hk.2) (.slice aP aJ.length aN)) (fun _ hk => hk.2) (.int .i64 ba)) (fun _ hk => hk.2) (.string bh)) (fun _ hk => hk.2) (.bool bm)) (fun _ h_ => h_.1))) hb); have bi := zzk (zv (by (with_reducible repeat (first | apply zu | apply zt | apply zs)); exact (zx (zr (p := ⟨ab,8,none⟩) (zr (p := ⟨ab,7,none⟩) (zr (p := ⟨ab,6,none⟩) (zr (p := ⟨ab,5,none⟩) (zr (p := ⟨ab,4,none⟩) (zr (p := ⟨ab,3,none⟩) (zr (p := ⟨ab,2,none⟩) (zr (p := ⟨ab,1,none⟩) (zr (p := ⟨ab,0,none⟩) (zy ci.out ah.out (by decide)) (fun _ hk => hk.2) (.int .i64 aD)) (fun _ hk => hk.2) (.int .i64 aF)) (fun _ hk => hk.2) (.int .i64 aH)) (fun _ hk => hk.2) (.int .i64 aK)) (fun _ hk => hk.2) (.slice aM aG.length aL)) (fun _ hk => hk.2) (.slice aP aJ.length aN)) (fun _ hk => hk.2) (.int .i64 ba)) (fun _ hk => hk.2) (.string bh)) (fun _ hk => hk.2) (.bool bm)) (fun _ h_ => h_.1))) hb); have bj := zzk (zv (by (with_reducible repeat (first | apply zu | apply zt | apply zs)); exact (zx (zr (p := ⟨ab,8,none⟩) (zr (p := ⟨ab,7,none⟩) (zr (p := ⟨ab,6,none⟩) (zr (p := ⟨ab,5,none⟩) (zr (p := ⟨ab,4,none⟩) (zr (p := ⟨ab,3,none⟩) (zr (p := ⟨ab,2,none⟩) (zr (p := ⟨ab,1,none⟩) (zr (p := ⟨ab,0,none⟩) (zy cj.out ah.out (by decide)) (fun _ hk => hk.2) (.int .i64 aD)) (fun _ hk => hk.2) (.int .i64 aF)) (fun _ hk => hk.2) (.int .i64 aH)) (fun _ hk => hk.2) (.int .i64 aK)) (fun _ hk => hk.2) (.slice aM aG.length aL)) (fun _ hk => hk.2) (.slice aP aJ.length aN)) (fun _ hk => hk.2) (.int .i64 ba)) (fun _ hk => hk.2) (.string bh)) (fun _ hk => hk.2) (.bool bm)) (fun _ h_ => h_.1))) hb); have br := zzk (zo (g := ae) (o := .cells #[.int .i64 al,.int .i64 am,.int .i64 an,.int .i64 ao,.slice aV aj.length aW,.slice aX ak.length aY,.int .i64 ap,.string ag,.bool aq] 34 (0,0)) (by (with_reducible repeat (first | refine zj ?_ _ | refine zl ?_ | refine zk ?_ _)); refine zn ?_ ar.out _; (with_reducible repeat (first | refine zj ?_ _ | refine zl ?_ | refine zk ?_ _)); refine zn ?_ ar.out _; (with_reducible repeat (first | refine zj ?_ _ | refine zl ?_ | refine zk ?_ _)); refine zn ?_ ar.out _; (with_reducible repeat (first | refine zj ?_ _ | refine zl ?_ | refine zk ?_ _)); refine zn ?_ ar.out _; (with_reducible repeat (first | refine zj ?_ _ | refine zl ?_ | refine zk ?_ _)); refine zn ?_ ar.out _; (with_reducible repeat (first | refine zj ?_ _ | refine zl ?_ | refine zk ?_ _)); refine zn ?_ ar.out _; (with_reducible repeat (first | refine zj ?_ _ | refine zl ?_ | refine zk ?_ _)); refine zn ?_ ar.out _; (with_reducible repeat (first | refine zj ?_ _ | refine zl ?_ | refine zk ?_ _)); refine zn ?_ ar.out _; (with_reducible repeat (first | refine zj ?_ _ | refine zl ?_ | refine zk ?_ _)); refine zn ?_ ar.out _; (with_reducible repeat (first | refine zj ?_ _ | refine zl ?_ | refine zk ?_ _)); exact aa.out) hb); have bv := zzk (zo (g := af) (o := .cells #[.int .i64 ax,.int .i64 ay,.int .i64 az,.int .i64 aB,.slice aS av.length aR,.slice aU aw.length aT,.int .i64 aC,.string aA,.bool aE] 34 (0,0)) (by (with_reducible repeat (first | refine zj ?_ _ | refine zl ?_ | refine zk ?_ _)); refine zn ?_ au.out _; (with_reducible repeat (first | refine zj ?_ _ | refine zl ?_ | refine zk ?_ _)); refine zn ?_ au.out _; (with_reducible repeat (first | refine zj ?_ _ | refine zl ?_ | refine zk ?_ _)); refine zn ?_ au.out _; (with_reducible repeat (first | refine zj ?_ _ | refine zl ?_ | refine zk ?_ _)); refine zn ?_ au.out _; (with_reducible repeat (first | refine zj ?_ _ | refine zl ?_ | refine zk ?_ _)); refine zn ?_ au.out _; (with_reducible repeat (first | refine zj ?_ _ | refine zl ?_ | refine zk ?_ _)); refine zn ?_ au.out _; (with_reducible repeat (first | refine zj ?_ _ | refine zl ?_ | refine zk ?_ _)); refine zn ?_ au.out _; (with_reducible repeat (first | refine zj ?_ _ | refine zl ?_ | refine zk ?_ _)); refine zn ?_ au.out _; (with_reducible repeat (first | refine zj ?_ _ | refine zl ?_ | refine zk ?_ _)); refine zn ?_ au.out _; (with_reducible repeat (first | refine zj ?_ _ | refine zl ?_ | refine zk ?_ _)); exact ac.out) hb); have bw := zzk (zo (g := ab) (o := .cells #[.int .i64 aD,.int .i64 aF,.int .i64 aH,.int .i64 aK,.slice aM aG.length aL,.slice aP aJ.length aN,.int .i64 ba,.string bh,.bool bm] 34 (0,0)) (by (with_reducible repeat (first | refine zj ?_ _ | refine zl ?_ | refine zk ?_ _)); refine zp (cs := #[.int .i64 aD,.int .i64 aF,.int .i64 aH,.int .i64 aK,.slice aM aG.length aL,.slice aP aJ.length aN,.int .i64 ba,.string bh,.bool false]) ?_ 8 _ rfl; (with_reducible repeat (first | refine zj ?_ _ | refine zl ?_ | refine zk ?_ _)); refine zp (cs := #[.int .i64 aD,.int .i64 aF,.int .i64 aH,.int .i64 aK,.slice aM aG.length aL,.slice aP aJ.length aN,.int .i64 ba,.string (⟨#[]⟩ : ByteArray),.bool false]) ?_ 7 _ rfl; (with_reducible repeat (first | refine zj ?_ _ | refine zl ?_ | refine zk ?_ _)); refine zp (cs := #[.int .i64 aD,.int .i64 aF,.int .i64 aH,.int .i64 aK,.slice aM aG.length aL,.slice aP aJ.length aN,.int .i64 0,.string (⟨#[]⟩ : ByteArray),.bool false]) ?_ 6 _ rfl; (with_reducible repeat (first | refine zj ?_ _ | refine zl ?_ | refine zk ?_ _)); refine zp (cs := #[.int .i64 aD,.int .i64 aF,.int .i64 aH,.int .i64 aK,.slice aM aG.length aL,.slice none 0 0,.int .i64 0,.string (⟨#[]⟩ : ByteArray),.bool false]) ?_ 5 _ rfl; (with_reducible repeat (first | refine zj ?_ _ | refine zl ?_ | refine zk ?_ _)); refine zp (cs := #[.int .i64 aD,.int .i64 aF,.int .i64 aH,.int .i64 aK,.slice none 0 0,.slice none 0 0,.int .i64 0,.string (⟨#[]⟩ : ByteArray),.bool false]) ?_ 4 _ rfl; (with_reducible repeat (first | refine zj ?_ _ | refine zl ?_ | refine zk ?_ _)); refine zp (cs := #[.int .i64 aD,.int .i64 aF,.int .i64 aH,.int .i64 0,.slice none 0 0,.slice none 0 0,.int .i64 0,.string (⟨#[]⟩ : ByteArray),.bool false]) ?_ 3 _ rfl; (with_reducible repeat (first | refine zj ?_ _ | refine zl ?_ | refine zk ?_ _)); refine zp (cs := #[.int .i64 aD,.int .i64 aF,.int .i64 0,.int .i64 0,.slice none 0 0,.slice none 0 0,.int .i64 0,.string (⟨#[]⟩ : ByteArray),.bool false]) ?_ 2 _ rfl; (with_reducible repeat (first | refine zj ?_ _ | refine zl ?_ | refine zk ?_ _)); refine zp (cs := #[.int .i64 aD,.int .i64 0,.int .i64 0,.int .i64 0,.slice none 0 0,.slice none 0 0,.int .i64 0,.string (⟨#[]⟩ : ByteArray),.bool false]) ?_ 1 _ rfl; (with_reducible repeat (first | refine zj ?_ _ | refine zl ?_ | refine zk ?_ _)); refine zp (cs := #[.int .i64 0,.int .i64 0,.int .i64 0,.int .i64 0,.slice none 0 0,.slice none 0 0,.int .i64 0,.string (⟨#[]⟩ : ByteArray),.bool false]) ?_ 0 _ rfl; (with_reducible repeat (first | refine zj ?_ _ | refine zl ?_ | refine zk ?_ _)); exact ah.out) hb); have bB := zzk (Zs (by repeat (first | (with_reducible first | exact HB.out | apply Zq | apply Zp | apply Zo | refine Zn ?_ aI.out | refine Zn ?_ aZ.out | refine Zn ?_ bx.out) | exact HB.out)) hb); clear HO_575004; clear HO_575005; clear ci; clear cj; clear aa; clear ac; clear ah; clear HB; have HO_575004 := be; have HO_575005 := bf; have ci := bi; have cj := bj; have aa := br; have ac := bv; have ah := bw; have HB := bB; clear be bf bi bj br bv bw bB; (try clear hb); (try clear hb2); (try clear hk); (try clear hi)))
          go_meet
          case rel => exact ⟨_,(!cy),(by first | rfl | (simp; done) | (simp [*]; done)),H',⟨by have := HJ3.out; have := HJ14.out; first | omega | exact Nat.le_refl _⟩,⟨by (with_reducible repeat (first | apply zu | apply zt | apply zs)); exact zx HO_575004.out (fun _ hk => ⟨hk.1.1,⟨hk.1.2,hk.2⟩⟩)⟩,⟨by (with_reducible repeat (first | apply zu | apply zt | apply zs)); exact zx HO_575005.out (fun _ hk => ⟨hk.1.1,⟨hk.1.2,hk.2⟩⟩)⟩,⟨by (with_reducible repeat (first | apply zu | apply zt | apply zs)); exact zx ci.out (fun _ hk => ⟨hk.1.2,⟨hk.2,hk.1.1⟩⟩)⟩,⟨by (with_reducible repeat (first | apply zu | apply zt | apply zs)); exact zx cj.out (fun _ hk => ⟨hk.1.2,⟨hk.2,hk.1.1⟩⟩)⟩,⟨by (with_reducible repeat (first | refine zj ?_ _ | refine zl ?_ | refine zk ?_ _)); exact aa.out⟩,⟨by (with_reducible repeat (first | refine zj ?_ _ | refine zl ?_ | refine zk ?_ _)); exact ac.out⟩,⟨by (with_reducible repeat (first | refine zj ?_ _ | refine zl ?_ | refine zk ?_ _)); exact ah.out⟩,⟨by repeat (first | (with_reducible first | exact HB.out | apply Zq | apply Zp | apply Zo | refine Zn ?_ aI.out | refine Zn ?_ aZ.out | refine Zn ?_ bx.out) | exact HB.out)⟩⟩
        ·
         rw [if_neg dx] at H
         have cS : (cU == 0) = false := beq_eq_false_iff_ne.mpr dx
         have fy : (cU != 0) = true := bne_iff_ne.mpr dx
         (first | rw [cS] | (simp only [Zv,Zw]; rw [cS]) | skip)
         have H' := zzk H
         clear H
         go_wp2
         go_meet
         case rel => exact ⟨_,(true),(by first | rfl | (simp; done) | (simp [*]; done)),H',⟨by have := HJ3.out; have := HJ14.out; first | omega | exact Nat.le_refl _⟩,⟨by (with_reducible repeat (first | apply zu | apply zt | apply zs)); exact zx (zr (p := ⟨ab,8,none⟩) (zr (p := ⟨ab,7,none⟩) (zr (p := ⟨ab,6,none⟩) (zr (p := ⟨ab,5,none⟩) (zr (p := ⟨ab,4,none⟩) (zr (p := ⟨ab,3,none⟩) (zr (p := ⟨ab,2,none⟩) (zr (p := ⟨ab,1,none⟩) (zr (p := ⟨ab,0,none⟩) (zy HO_575004.out ah.out (by decide)) (fun _ hk => hk.2) (.int .i64 aD)) (fun _ hk => hk.2) (.int .i64 aF)) (fun _ hk => hk.2) (.int .i64 aH)) (fun _ hk => hk.2) (.int .i64 aK)) (fun _ hk => hk.2) (.slice aM aG.length aL)) (fun _ hk => hk.2) (.slice aP aJ.length aN)) (fun _ hk => hk.2) (.int .i64 ba)) (fun _ hk => hk.2) (.string bh)) (fun _ hk => hk.2) (.bool bm)) (fun _ hk => ⟨hk.1.1.1,⟨hk.1.1.2,hk.1.2⟩⟩)⟩,⟨by (with_reducible repeat (first | apply zu | apply zt | apply zs)); exact zx (zr (p := ⟨ab,8,none⟩) (zr (p := ⟨ab,7,none⟩) (zr (p := ⟨ab,6,none⟩) (zr (p := ⟨ab,5,none⟩) (zr (p := ⟨ab,4,none⟩) (zr (p := ⟨ab,3,none⟩) (zr (p := ⟨ab,2,none⟩) (zr (p := ⟨ab,1,none⟩) (zr (p := ⟨ab,0,none⟩) (zy HO_575005.out ah.out (by decide)) (fun _ hk => hk.2) (.int .i64 aD)) (fun _ hk => hk.2) (.int .i64 aF)) (fun _ hk => hk.2) (.int .i64 aH)) (fun _ hk => hk.2) (.int .i64 aK)) (fun _ hk => hk.2) (.slice aM aG.length aL)) (fun _ hk => hk.2) (.slice aP aJ.length aN)) (fun _ hk => hk.2) (.int .i64 ba)) (fun _ hk => hk.2) (.string bh)) (fun _ hk => hk.2) (.bool bm)) (fun _ hk => ⟨hk.1.1.1,⟨hk.1.1.2,hk.1.2⟩⟩)⟩,⟨by (with_reducible repeat (first | apply zu | apply zt | apply zs)); exact zx (zr (p := ⟨ab,8,none⟩) (zr (p := ⟨ab,7,none⟩) (zr (p := ⟨ab,6,none⟩) (zr (p := ⟨ab,5,none⟩) (zr (p := ⟨ab,4,none⟩) (zr (p := ⟨ab,3,none⟩) (zr (p := ⟨ab,2,none⟩) (zr (p := ⟨ab,1,none⟩) (zr (p := ⟨ab,0,none⟩) (zy ci.out ah.out (by decide)) (fun _ hk => hk.2) (.int .i64 aD)) (fun _ hk => hk.2) (.int .i64 aF)) (fun _ hk => hk.2) (.int .i64 aH)) (fun _ hk => hk.2) (.int .i64 aK)) (fun _ hk => hk.2) (.slice aM aG.length aL)) (fun _ hk => hk.2) (.slice aP aJ.length aN)) (fun _ hk => hk.2) (.int .i64 ba)) (fun _ hk => hk.2) (.string bh)) (fun _ hk => hk.2) (.bool bm)) (fun _ hk => ⟨hk.1.1.2,⟨hk.1.2,hk.1.1.1⟩⟩)⟩,⟨by (with_reducible repeat (first | apply zu | apply zt | apply zs)); exact zx (zr (p := ⟨ab,8,none⟩) (zr (p := ⟨ab,7,none⟩) (zr (p := ⟨ab,6,none⟩) (zr (p := ⟨ab,5,none⟩) (zr (p := ⟨ab,4,none⟩) (zr (p := ⟨ab,3,none⟩) (zr (p := ⟨ab,2,none⟩) (zr (p := ⟨ab,1,none⟩) (zr (p := ⟨ab,0,none⟩) (zy cj.out ah.out (by decide)) (fun _ hk => hk.2) (.int .i64 aD)) (fun _ hk => hk.2) (.int .i64 aF)) (fun _ hk => hk.2) (.int .i64 aH)) (fun _ hk => hk.2) (.int .i64 aK)) (fun _ hk => hk.2) (.slice aM aG.length aL)) (fun _ hk => hk.2) (.slice aP aJ.length aN)) (fun _ hk => hk.2) (.int .i64 ba)) (fun _ hk => hk.2) (.string bh)) (fun _ hk => hk.2) (.bool bm)) (fun _ hk => ⟨hk.1.1.2,⟨hk.1.2,hk.1.1.1⟩⟩)⟩,⟨by (with_reducible repeat (first | refine zj ?_ _ | refine zl ?_ | refine zk ?_ _)); refine zn ?_ ar.out _; (with_reducible repeat (first | refine zj ?_ _ | refine zl ?_ | refine zk ?_ _)); refine zn ?_ ar.out _; (with_reducible repeat (first | refine zj ?_ _ | refine zl ?_ | refine zk ?_ _)); refine zn ?_ ar.out _; (with_reducible repeat (first | refine zj ?_ _ | refine zl ?_ | refine zk ?_ _)); refine zn ?_ ar.out _; (with_reducible repeat (first | refine zj ?_ _ | refine zl ?_ | refine zk ?_ _)); refine zn ?_ ar.out _; (with_reducible repeat (first | refine zj ?_ _ | refine zl ?_ | refine zk ?_ _)); refine zn ?_ ar.out _; (with_reducible repeat (first | refine zj ?_ _ | refine zl ?_ | refine zk ?_ _)); refine zn ?_ ar.out _; (with_reducible repeat (first | refine zj ?_ _ | refine zl ?_ | refine zk ?_ _)); refine zn ?_ ar.out _; (with_reducible repeat (first | refine zj ?_ _ | refine zl ?_ | refine zk ?_ _)); refine zn ?_ ar.out _; (with_reducible repeat (first | refine zj ?_ _ | refine zl ?_ | refine zk ?_ _)); exact aa.out⟩,⟨by (with_reducible repeat (first | refine zj ?_ _ | refine zl ?_ | refine zk ?_ _)); refine zn ?_ au.out _; (with_reducible repeat (first | refine zj ?_ _ | refine zl ?_ | refine zk ?_ _)); refine zn ?_ au.out _; (with_reducible repeat (first | refine zj ?_ _ | refine zl ?_ | refine zk ?_ _)); refine zn ?_ au.out _; (with_reducible repeat (first | refine zj ?_ _ | refine zl ?_ | refine zk ?_ _)); refine zn ?_ au.out _; (with_reducible repeat (first | refine zj ?_ _ | refine zl ?_ | refine zk ?_ _)); refine zn ?_ au.out _; (with_reducible repeat (first | refine zj ?_ _ | refine zl ?_ | refine zk ?_ _)); refine zn ?_ au.out _; (with_reducible repeat (first | refine zj ?_ _ | refine zl ?_ | refine zk ?_ _)); refine zn ?_ au.out _; (with_reducible repeat (first | refine zj ?_ _ | refine zl ?_ | refine zk ?_ _)); refine zn ?_ au.out _; (with_reducible repeat (first | refine zj ?_ _ | refine zl ?_ | refine zk ?_ _)); refine zn ?_ au.out _; (with_reducible repeat (first | refine zj ?_ _ | refine zl ?_ | refine zk ?_ _)); exact ac.out⟩,⟨by (with_reducible repeat (first | refine zj ?_ _ | refine zl ?_ | refine zk ?_ _)); refine zp (cs := #[.int .i64 aD,.int .i64 aF,.int .i64 aH,.int .i64 aK,.slice aM aG.length aL,.slice aP aJ.length aN,.int .i64 ba,.string bh,.bool false]) ?_ 8 _ rfl; (with_reducible repeat (first | refine zj ?_ _ | refine zl ?_ | refine zk ?_ _)); refine zp (cs := #[.int .i64 aD,.int .i64 aF,.int .i64 aH,.int .i64 aK,.slice aM aG.length aL,.slice aP aJ.length aN,.int .i64 ba,.string (⟨#[]⟩ : ByteArray),.bool false]) ?_ 7 _ rfl; (with_reducible repeat (first | refine zj ?_ _ | refine zl ?_ | refine zk ?_ _)); refine zp (cs := #[.int .i64 aD,.int .i64 aF,.int .i64 aH,.int .i64 aK,.slice aM aG.length aL,.slice aP aJ.length aN,.int .i64 0,.string (⟨#[]⟩ : ByteArray),.bool false]) ?_ 6 _ rfl; (with_reducible repeat (first | refine zj ?_ _ | refine zl ?_ | refine zk ?_ _)); refine zp (cs := #[.int .i64 aD,.int .i64 aF,.int .i64 aH,.int .i64 aK,.slice aM aG.length aL,.slice none 0 0,.int .i64 0,.string (⟨#[]⟩ : ByteArray),.bool false]) ?_ 5 _ rfl; (with_reducible repeat (first | refine zj ?_ _ | refine zl ?_ | refine zk ?_ _)); refine zp (cs := #[.int .i64 aD,.int .i64 aF,.int .i64 aH,.int .i64 aK,.slice none 0 0,.slice none 0 0,.int .i64 0,.string (⟨#[]⟩ : ByteArray),.bool false]) ?_ 4 _ rfl; (with_reducible repeat (first | refine zj ?_ _ | refine zl ?_ | refine zk ?_ _)); refine zp (cs := #[.int .i64 aD,.int .i64 aF,.int .i64 aH,.int .i64 0,.slice none 0 0,.slice none 0 0,.int .i64 0,.string (⟨#[]⟩ : ByteArray),.bool false]) ?_ 3 _ rfl; (with_reducible repeat (first | refine zj ?_ _ | refine zl ?_ | refine zk ?_ _)); refine zp (cs := #[.int .i64 aD,.int .i64 aF,.int .i64 0,.int .i64 0,.slice none 0 0,.slice none 0 0,.int .i64 0,.string (⟨#[]⟩ : ByteArray),.bool false]) ?_ 2 _ rfl; (with_reducible repeat (first | refine zj ?_ _ | refine zl ?_ | refine zk ?_ _)); refine zp (cs := #[.int .i64 aD,.int .i64 0,.int .i64 0,.int .i64 0,.slice none 0 0,.slice none 0 0,.int .i64 0,.string (⟨#[]⟩ : ByteArray),.bool false]) ?_ 1 _ rfl; (with_reducible repeat (first | refine zj ?_ _ | refine zl ?_ | refine zk ?_ _)); refine zp (cs := #[.int .i64 0,.int .i64 0,.int .i64 0,.int .i64 0,.slice none 0 0,.slice none 0 0,.int .i64 0,.string (⟨#[]⟩ : ByteArray),.bool false]) ?_ 0 _ rfl; (with_reducible repeat (first | refine zj ?_ _ | refine zl ?_ | refine zk ?_ _)); exact ah.out⟩,⟨by repeat (first | (with_reducible first | exact HB.out | apply Zq | apply Zp | apply Zo | refine Zn ?_ aI.out | refine Zn ?_ aZ.out | refine Zn ?_ bx.out) | exact HB.out)⟩⟩
       case rest =>
        clear fr
        try clear c1
        try clear c2
        try clear p2
        try clear c3
        try clear c4
        try clear c5
        try clear c6
        try clear cF
        try clear fd
        try clear c8
        try clear fe
        try clear fg
        try clear er
        try clear ny
        try clear nz
        try clear cX
        try clear cD
        try clear fh
        try clear fi
        try clear fj
        try clear dw
        try clear fw
        try clear fx
        try clear oU
        try clear oV
        try clear oW
        try clear oX
        try clear dx
        try clear cS
        try clear fy
        try clear fk
        try clear ek
        try clear fz
        try clear fA
        try clear oY
        try clear oZ
        try clear pa
        try clear dd
        try clear de
        try clear df
        try clear dg
        try clear dh
        try clear di
        try clear dj
        try clear dk
        try clear dl
        try clear es
        try clear et
        try clear eu
        try clear ev
        try clear ew
        try clear ex
        try clear ey
        try clear ez
        try clear eA
        try clear eK
        try clear eL
        try clear eM
        try clear eN
        try clear eO
        try clear eP
        try clear eQ
        try clear eR
        try clear eS
        try clear fF
        try clear fG
        try clear fH
        try clear fI
        try clear fJ
        try clear fK
        try clear fL
        try clear fM
        try clear fN
        try clear fX
        try clear fY
        try clear fZ
        try clear ga
        try clear gb
        try clear gc
        try clear gd
        try clear gf
        try clear gg
        try clear gs
        try clear gu
        try clear gv
        try clear gw
        try clear gx
        try clear gy
        try clear gz
        try clear gA
        try clear gB
        try clear gL
        try clear gM
        try clear gN
        try clear gO
        try clear gP
        try clear gQ
        try clear gR
        try clear gS
        try clear gT
        try clear hh
        try clear hj
        try clear hl
        try clear hm
        try clear hn
        try clear hq
        try clear ht
        try clear hu
        try clear hv
        try clear ih
        try clear ii
        try clear ij
        try clear ik
        try clear il
        try clear im
        try clear ip
        try clear iq
        try clear ir
        try clear iC
        try clear iD
        try clear iE
        try clear iF
        try clear iG
        try clear iH
        try clear iI
        try clear iJ
        try clear iK
        try clear dz
        try clear dA
        try clear dB
        try clear dC
        try clear dD
        try clear dE
        try clear dF
        try clear dG
        try clear dH
        try clear dR
        try clear dS
        try clear dT
        try clear dU
        try clear dV
        try clear dW
        try clear dX
        try clear dY
        try clear dZ
        try clear dm
        try clear dn
        try clear dp
        try clear dq
        try clear dr
        try clear ds
        try clear dt
        try clear du
        try clear dv
        try clear eB
        try clear eC
        try clear eD
        try clear eE
        try clear eF
        try clear eG
        try clear eH
        try clear eI
        try clear eJ
        try clear eT
        try clear eU
        try clear eV
        try clear eW
        try clear eX
        try clear eY
        try clear eZ
        try clear fa
        try clear fb
        try clear fO
        try clear fP
        try clear fQ
        try clear fR
        try clear fS
        try clear fT
        try clear fU
        try clear fV
        try clear fW
        try clear gh
        try clear gi
        try clear gj
        try clear gl
        try clear gm
        try clear gn
        try clear gp
        try clear gq
        try clear gr
        try clear gC
        try clear gD
        try clear gE
        try clear gF
        try clear gG
        try clear gH
        try clear gI
        try clear gJ
        try clear gK
        try clear gU
        try clear gV
        try clear gW
        try clear gX
        try clear gY
        try clear gZ
        try clear ha
        try clear hc
        try clear hf
        try clear hw
        try clear hx
        try clear hy
        try clear hz
        try clear ia
        try clear ib
        try clear ic
        try clear ie
        try clear ig
        try clear it
        try clear iu
        try clear iv
        try clear iw
        try clear ix
        try clear iy
        try clear iz
        try clear iA
        try clear iB
        try clear iL
        try clear iM
        try clear iN
        try clear iO
        try clear iP
        try clear iQ
        try clear iR
        try clear iS
        try clear iT
        try clear dI
        try clear dJ
        try clear dK
        try clear dL
        try clear dM
        try clear dN
        try clear dO
        try clear dP
        try clear dQ
        try clear ea
        try clear eb
        try clear ec
        try clear ed
        try clear ee
        try clear ef
        try clear eg
        try clear eh
        try clear ei
        try clear p2
        obtain ⟨kq,cY,rfl,HA,HJ35,HO_575004,HO_575005,HO_593004,HO_593005,aa,ac,ah,HB⟩ := hcut
        cases kq with
        | zero => exact absurd HA.out (by simp [L_ChunkTwice.j2])
        | succ bC =>
         have H := HA.out
         clear HA
         simp only [L_ChunkTwice.j2] at H
         by_cases fB : cY = true
         ·
          subst fB
          have H1 : (none) = some r := by rw [if_pos rfl] at H; exact H
          clear H
          have H := H1
          clear H1
          exact absurd H (by simp)
         ·
          replace fB := Bool.eq_false_iff.mpr fB
          subst fB
          have H1 : ((chunk_Take.f bC al am an ao aj ak ap ag aq a2 a1).bind fun bA => ((L_takes.f bC).bind fun cE => (if cE = true then ((L_begins.f bC).bind fun cv => (if cv = true then (if (wrap64 ((aA.size : Int) - (a1.size : Int))) = (ag.size : Int) then ((chunk_Check.f bC ax ay az aB av aw aC aA aE).bind fun bS => (if bS = 0 then (if bA.2.2.2.2.2.2.2.2.2.2 = 0 then (if (bA.2.2.2.2.2.2.2.2.2.1 == (a2 == (ag.size : Int))) = true then (if bA.2.2.2.2.2.2.2.2.2.1 = true then (some true) else ((r16_Same.f bC bA.1 bA.2.1 bA.2.2.1 bA.2.2.2.1 bA.2.2.2.2.1 bA.2.2.2.2.2.1 bA.2.2.2.2.2.2.1 bA.2.2.2.2.2.2.2.1 bA.2.2.2.2.2.2.2.2.1 al am an ao aj ak ap ag aq).bind fun bT => (some bT))) else (none)) else (none)) else (none))) else (none)) else (none))) else (none)))) = some r := by rw [if_neg (show ¬ (false = true) by decide)] at H; exact H
          clear H
          have H := H1
          clear H1
          replace H := Option.bind_eq_some_iff.mp H
          obtain ⟨⟨bg,bk,bl,bq,bs,bt,bu,bz,bD,bZ,cz⟩,jb,H⟩ := H
          replace H : ((L_takes.f bC).bind fun cE => (if cE = true then ((L_begins.f bC).bind fun cv => (if cv = true then (if (wrap64 ((aA.size : Int) - (a1.size : Int))) = (ag.size : Int) then ((chunk_Check.f bC ax ay az aB av aw aC aA aE).bind fun bS => (if bS = 0 then (if cz = 0 then (if (bZ == (a2 == (ag.size : Int))) = true then (if bZ = true then (some true) else ((r16_Same.f bC bg bk bl bq bs bt bu bz bD al am an ao aj ak ap ag aq).bind fun bT => (some bT))) else (none)) else (none)) else (none))) else (none)) else (none))) else (none))) = some r := H
          have ji := zzk jb
          clear jb
          replace H := Option.bind_eq_some_iff.mp H
          obtain ⟨cE,jc,H⟩ := H
          replace H : (if cE = true then ((L_begins.f bC).bind fun cv => (if cv = true then (if (wrap64 ((aA.size : Int) - (a1.size : Int))) = (ag.size : Int) then ((chunk_Check.f bC ax ay az aB av aw aC aA aE).bind fun bS => (if bS = 0 then (if cz = 0 then (if (bZ == (a2 == (ag.size : Int))) = true then (if bZ = true then (some true) else ((r16_Same.f bC bg bk bl bq bs bt bu bz bD al am an ao aj ak ap ag aq).bind fun bT => (some bT))) else (none)) else (none)) else (none))) else (none)) else (none))) else (none)) = some r := H
          have jj := zzk jc
          clear jc
          by_cases fC : cE = true
          ·
           subst fC
           have H1 : ((L_begins.f bC).bind fun cv => (if cv = true then (if (wrap64 ((aA.size : Int) - (a1.size : Int))) = (ag.size : Int) then ((chunk_Check.f bC ax ay az aB av aw aC aA aE).bind fun bS => (if bS = 0 then (if cz = 0 then (if (bZ == (a2 == (ag.size : Int))) = true then (if bZ = true then (some true) else ((r16_Same.f bC bg bk bl bq bs bt bu bz bD al am an ao aj ak ap ag aq).bind fun bT => (some bT))) else (none)) else (none)) else (none))) else (none)) else (none))) = some r := by rw [if_pos rfl] at H; exact H
           clear H
           have H := H1
           clear H1
           replace H := Option.bind_eq_some_iff.mp H
           obtain ⟨cv,jd,H⟩ := H
           replace H : (if cv = true then (if (wrap64 ((aA.size : Int) - (a1.size : Int))) = (ag.size : Int) then ((chunk_Check.f bC ax ay az aB av aw aC aA aE).bind fun bS => (if bS = 0 then (if cz = 0 then (if (bZ == (a2 == (ag.size : Int))) = true then (if bZ = true then (some true) else ((r16_Same.f bC bg bk bl bq bs bt bu bz bD al am an ao aj ak ap ag aq).bind fun bT => (some bT))) else (none)) else (none)) else (none))) else (none)) else (none)) = some r := H
           have jk := zzk jd
           clear jd
           by_cases fD : cv = true
           ·
            subst fD
            have H1 : (if (wrap64 ((aA.size : Int) - (a1.size : Int))) = (ag.size : Int) then ((chunk_Check.f bC ax ay az aB av aw aC aA aE).bind fun bS => (if bS = 0 then (if cz = 0 then (if (bZ == (a2 == (ag.size : Int))) = true then (if bZ = true then (some true) else ((r16_Same.f bC bg bk bl bq bs bt bu bz bD al am an ao aj ak ap ag aq).bind fun bT => (some bT))) else (none)) else (none)) else (none))) else (none)) = some r := by rw [if_pos rfl] at H; exact H
            clear H
            have H := H1
            clear H1
            by_cases fl : (wrap64 ((aA.size : Int) - (a1.size : Int))) = (ag.size : Int)
            ·
             rw [if_pos fl] at H
             have oa : ((wrap64 ((aA.size : Int) - (a1.size : Int))) == (ag.size : Int)) = true := beq_iff_eq.mpr fl
             have ob : ((wrap64 ((aA.size : Int) - (a1.size : Int))) != (ag.size : Int)) = false := bne_eq_false_iff_eq.mpr fl
             clear fl
             replace H := Option.bind_eq_some_iff.mp H
             obtain ⟨bS,je,H⟩ := H
             replace H : (if bS = 0 then (if cz = 0 then (if (bZ == (a2 == (ag.size : Int))) = true then (if bZ = true then (some true) else ((r16_Same.f bC bg bk bl bq bs bt bu bz bD al am an ao aj ak ap ag aq).bind fun bT => (some bT))) else (none)) else (none)) else (none)) = some r := H
             have jl := zzk je
             clear je
             by_cases fm : bS = 0
             ·
              rw [if_pos fm] at H
              have oc : (bS == 0) = true := beq_iff_eq.mpr fm
              have od : (bS != 0) = false := bne_eq_false_iff_eq.mpr fm
              clear fm
              by_cases fn : cz = 0
              ·
               rw [if_pos fn] at H
               have oe : (cz == 0) = true := beq_iff_eq.mpr fn
               have og : (cz != 0) = false := bne_eq_false_iff_eq.mpr fn
               clear fn
               by_cases fc : (bZ == (a2 == (ag.size : Int))) = true
               ·
                rw [if_pos fc] at H
                have oh : (bZ == (a2 == (ag.size : Int))) = true := fc
                (try (have oi : decide (bZ = (a2 == (ag.size : Int))) = true := by simpa using fc))
                (try (have oj : (bZ == (a2 == (ag.size : Int))) = true := by simpa using fc))
                clear fc
                by_cases fE : bZ = true
                ·
                 subst fE
                 have H1 : (some true) = some r := by rw [if_pos rfl] at H; exact H
                 clear H
                 have H := H1
                 clear H1
                 obtain rfl := zzu H
                 have ol := aQ.out
                 have om := cm.out
                 have oo := ar.out
                 have op := cA.out
                 have kN : wc.cell? ⟨ae,0,none⟩ = some (.int .i64 al) := (zi aa.out 0).trans rfl
                 have kO : wc.cell? ⟨ae,1,none⟩ = some (.int .i64 am) := (zi aa.out 1).trans rfl
                 have kP : wc.cell? ⟨ae,2,none⟩ = some (.int .i64 an) := (zi aa.out 2).trans rfl
                 have kQ : wc.cell? ⟨ae,3,none⟩ = some (.int .i64 ao) := (zi aa.out 3).trans rfl
                 have kR : wc.cell? ⟨ae,4,none⟩ = some (.slice aV aj.length aW) := (zi aa.out 4).trans rfl
                 have kS : wc.cell? ⟨ae,5,none⟩ = some (.slice aX ak.length aY) := (zi aa.out 5).trans rfl
                 have kT : wc.cell? ⟨ae,6,none⟩ = some (.int .i64 ap) := (zi aa.out 6).trans rfl
                 have kU : wc.cell? ⟨ae,7,none⟩ = some (.string ag) := (zi aa.out 7).trans rfl
                 have kV : wc.cell? ⟨ae,8,none⟩ = some (.bool aq) := (zi aa.out 8).trans rfl
                 have kW := zm aa.out 0
                 have kX := zm aa.out 1
                 have kY := zm aa.out 2
                 have kZ := zm aa.out 3
                 have la := zm aa.out 4
                 have lb := zm aa.out 5
                 have lc := zm aa.out 6
                 have ld := zm aa.out 7
                 have lf := zm aa.out 8
                 go_wp2_with (first | ((with_reducible refine zza (f := 22) rfl ?_); refine zzd (some 90) rfl rfl Try.func22 (by kernel_rfl) rfl #[.agg #[.int .i64 al,.int .i64 am,.int .i64 an,.int .i64 ao,.slice aV aj.length aW,.slice aX ak.length aY,.int .i64 ap,.string ag,.bool aq],.int .i64 a2,.string a1] rfl (by (try simp only [zd,ze,zf]); first | done | rfl | (simp only [zg,zh]; rfl)) ?_; (with_reducible refine (chunk_Take.calls bC al am an ao _ _ aj _ _ ak ap ag aq a2 a1 bg bk bl bq bs bt bu bz bD true cz _ ?side1 ?side2 ?side3 ?side4 ji.out).mono ?_); (case side1 => repeat (first | exact (Zm cM.out HB.out) | (with_reducible refine Zk ?_ _) | (with_reducible refine Zj ?_ _) | (with_reducible refine Zl ?_))); (case side2 => exact cN.out); (case side3 => repeat (first | exact (Zm cO.out HB.out) | (with_reducible refine Zk ?_ _) | (with_reducible refine Zj ?_ _) | (with_reducible refine Zl ?_))); (case side4 => exact cP.out); rintro e pb ⟨jm,jn,rfl,ho0,ho1,hb⟩; refine ⟨_,rfl,?_⟩; have be := zzk (zx (Zc (Zc (Kd.R_old (by (with_reducible repeat (first | apply zu | apply zt | apply zs)); exact HO_575004.out) hb) (Zd ho0)) (Zd ho1)) (fun _ h_ => h_.1)); have bf := zzk (zx (Zc (Zc (Kd.R_old (by (with_reducible repeat (first | apply zu | apply zt | apply zs)); exact HO_575005.out) hb) (Zd ho0)) (Zd ho1)) (fun _ h_ => h_.1)); have bi := zzk (zx (Zc (Zc (Kd.R_old (by (with_reducible repeat (first | apply zu | apply zt | apply zs)); exact HO_593004.out) hb) (Zd ho0)) (Zd ho1)) (fun _ h_ => h_.1)); have bj := zzk (zx (Zc (Zc (Kd.R_old (by (with_reducible repeat (first | apply zu | apply zt | apply zs)); exact HO_593005.out) hb) (Zd ho0)) (Zd ho1)) (fun _ h_ => h_.1)); have br := zzk (Za (Zb (Zb (Zb (Zb ho0 (Kd.R_lt (by (with_reducible repeat (first | apply zu | apply zt | apply zs)); exact HO_575004.out))) (Kd.R_lt (by (with_reducible repeat (first | apply zu | apply zt | apply zs)); exact HO_575005.out))) (Kd.R_lt (by (with_reducible repeat (first | apply zu | apply zt | apply zs)); exact HO_593004.out))) (Kd.R_lt (by (with_reducible repeat (first | apply zu | apply zt | apply zs)); exact HO_593005.out))) (Zr (by repeat (first | (with_reducible first | exact HB.out | apply Zq | apply Zp | apply Zo | refine Zn ?_ aI.out | refine Zn ?_ aZ.out | refine Zn ?_ bx.out) | exact HB.out)))); have bv := zzk (Za (Zb (Zb (Zb (Zb ho1 (Kd.R_lt (by (with_reducible repeat (first | apply zu | apply zt | apply zs)); exact HO_575004.out))) (Kd.R_lt (by (with_reducible repeat (first | apply zu | apply zt | apply zs)); exact HO_575005.out))) (Kd.R_lt (by (with_reducible repeat (first | apply zu | apply zt | apply zs)); exact HO_593004.out))) (Kd.R_lt (by (with_reducible repeat (first | apply zu | apply zt | apply zs)); exact HO_593005.out))) (Zr (by repeat (first | (with_reducible first | exact HB.out | apply Zq | apply Zp | apply Zo | refine Zn ?_ aI.out | refine Zn ?_ aZ.out | refine Zn ?_ bx.out) | exact HB.out)))); have bw := zzk (zo (g := ae) (o := .cells #[.int .i64 al,.int .i64 am,.int .i64 an,.int .i64 ao,.slice aV aj.length aW,.slice aX ak.length aY,.int .i64 ap,.string ag,.bool aq] 34 (0,0)) (by (with_reducible repeat (first | refine zj ?_ _ | refine zl ?_ | refine zk ?_ _)); exact aa.out) hb); have bB := zzk (zo (g := af) (o := .cells #[.int .i64 ax,.int .i64 ay,.int .i64 az,.int .i64 aB,.slice aS av.length aR,.slice aU aw.length aT,.int .i64 aC,.string aA,.bool aE] 34 (0,0)) (by (with_reducible repeat (first | refine zj ?_ _ | refine zl ?_ | refine zk ?_ _)); exact ac.out) hb); have bH := zzk (zo (g := ab) (o := .cells #[.int .i64 aD,.int .i64 aF,.int .i64 aH,.int .i64 aK,.slice aM aG.length aL,.slice aP aJ.length aN,.int .i64 ba,.string bh,.bool bm] 34 (0,0)) (by (with_reducible repeat (first | refine zj ?_ _ | refine zl ?_ | refine zk ?_ _)); exact ah.out) hb); have bJ := zzk (Zs (by repeat (first | (with_reducible first | exact HB.out | apply Zq | apply Zp | apply Zo | refine Zn ?_ aI.out | refine Zn ?_ aZ.out | refine Zn ?_ bx.out) | exact HB.out)) hb); clear HO_575004; clear HO_575005; clear HO_593004; clear HO_593005; clear aa; clear ac; clear ah; clear HB; have HO_575004 := be; have HO_575005 := bf; have HO_593004 := bi; have HO_593005 := bj; have bn := br; have bo := bv; have aa := bw; have ac := bB; have ah := bH; have HB := bJ; clear be bf bi bj br bv bw bB bH bJ; (try clear hb); (try clear hb2); (try clear hk); (try clear hi); (try clear ho0); (try clear ho1)) | ((with_reducible refine Zy (N := 13) rfl ?_); (try (refine Zz (by rfl) ?_; dsimp only)); refine zzc ?hg (N := 13) ?hd (cs := #[.int .i64 0,.int .i64 0,.int .i64 0,.int .i64 0,.slice none 0 0,.slice none 0 0,.int .i64 0,.string (⟨#[]⟩ : ByteArray),.bool false]) (t := 34) ?hr ?_; (case hd => rfl); (case hg => rfl); (case hr => first | (go_simp; done) | (go_simp; rfl)); intro ad hg cZ hbox hb; have be := zzk (zv (by (with_reducible repeat (first | apply zu | apply zt | apply zs)); exact HO_575004.out) hb); have bf := zzk (zv (by (with_reducible repeat (first | apply zu | apply zt | apply zs)); exact HO_575005.out) hb); have bi := zzk (zv (by (with_reducible repeat (first | apply zu | apply zt | apply zs)); exact HO_593004.out) hb); have bj := zzk (zv (by (with_reducible repeat (first | apply zu | apply zt | apply zs)); exact HO_593005.out) hb); have br := zzk (zv (by (with_reducible repeat (first | apply zu | apply zt | apply zs)); exact bn.out) hb); have bv := zzk (zv (by (with_reducible repeat (first | apply zu | apply zt | apply zs)); exact bo.out) hb); have bw := zzk (zo (g := ae) (o := .cells #[.int .i64 al,.int .i64 am,.int .i64 an,.int .i64 ao,.slice aV aj.length aW,.slice aX ak.length aY,.int .i64 ap,.string ag,.bool aq] 34 (0,0)) (by (with_reducible repeat (first | refine zj ?_ _ | refine zl ?_ | refine zk ?_ _)); exact aa.out) hb); have bB := zzk (zo (g := af) (o := .cells #[.int .i64 ax,.int .i64 ay,.int .i64 az,.int .i64 aB,.slice aS av.length aR,.slice aU aw.length aT,.int .i64 aC,.string aA,.bool aE] 34 (0,0)) (by (with_reducible repeat (first | refine zj ?_ _ | refine zl ?_ | refine zk ?_ _)); exact ac.out) hb); have bH := zzk (zo (g := ab) (o := .cells #[.int .i64 aD,.int .i64 aF,.int .i64 aH,.int .i64 aK,.slice aM aG.length aL,.slice aP aJ.length aN,.int .i64 ba,.string bh,.bool bm] 34 (0,0)) (by (with_reducible repeat (first | refine zj ?_ _ | refine zl ?_ | refine zk ?_ _)); exact ah.out) hb); have bJ := zzk (Zs (by repeat (first | (with_reducible first | exact HB.out | apply Zq | apply Zp | apply Zo | refine Zn ?_ aI.out | refine Zn ?_ aZ.out | refine Zn ?_ bx.out) | exact HB.out)) hb); have bF := zzk (hbox); have cG := zzk ((by rw [hg]; exact (Zr (by repeat (first | (with_reducible first | exact HB.out | apply Zq | apply Zp | apply Zo | refine Zn ?_ aI.out | refine Zn ?_ aZ.out | refine Zn ?_ bx.out) | exact HB.out))) : w.heap.size ≤ ad)); have cH := zzk ((by rw [hg]; exact (Zr (by repeat (first | (with_reducible first | exact HB.out | apply Zq | apply Zp | apply Zo | refine Zn ?_ aI.out | refine Zn ?_ aZ.out | refine Zn ?_ bx.out) | exact HB.out))) : w.heap.size ≤ ad)); have cI := zzk ((by rw [hg]; exact Nat.ne_of_lt (zq (g := ae) (o := .cells #[.int .i64 al,.int .i64 am,.int .i64 an,.int .i64 ao,.slice aV aj.length aW,.slice aX ak.length aY,.int .i64 ap,.string ag,.bool aq] 34 (0,0)) (by (with_reducible repeat (first | refine zj ?_ _ | refine zl ?_ | refine zk ?_ _)); exact aa.out)) : ae ≠ ad)); have el := zzk ((by rw [hg]; exact Nat.ne_of_gt (zq (g := ae) (o := .cells #[.int .i64 al,.int .i64 am,.int .i64 an,.int .i64 ao,.slice aV aj.length aW,.slice aX ak.length aY,.int .i64 ap,.string ag,.bool aq] 34 (0,0)) (by (with_reducible repeat (first | refine zj ?_ _ | refine zl ?_ | refine zk ?_ _)); exact aa.out)) : ad ≠ ae)); have em := zzk ((by rw [hg]; exact Nat.ne_of_lt (zq (g := af) (o := .cells #[.int .i64 ax,.int .i64 ay,.int .i64 az,.int .i64 aB,.slice aS av.length aR,.slice aU aw.length aT,.int .i64 aC,.string aA,.bool aE] 34 (0,0)) (by (with_reducible repeat (first | refine zj ?_ _ | refine zl ?_ | refine zk ?_ _)); exact ac.out)) : af ≠ ad)); have en := zzk ((by rw [hg]; exact Nat.ne_of_gt (zq (g := af) (o := .cells #[.int .i64 ax,.int .i64 ay,.int .i64 az,.int .i64 aB,.slice aS av.length aR,.slice aU aw.length aT,.int .i64 aC,.string aA,.bool aE] 34 (0,0)) (by (with_reducible repeat (first | refine zj ?_ _ | refine zl ?_ | refine zk ?_ _)); exact ac.out)) : ad ≠ af)); have eo := zzk ((by rw [hg]; exact Nat.ne_of_lt (zq (g := ab) (o := .cells #[.int .i64 aD,.int .i64 aF,.int .i64 aH,.int .i64 aK,.slice aM aG.length aL,.slice aP aJ.length aN,.int .i64 ba,.string bh,.bool bm] 34 (0,0)) (by (with_reducible repeat (first | refine zj ?_ _ | refine zl ?_ | refine zk ?_ _)); exact ah.out)) : ab ≠ ad)); have ep := zzk ((by rw [hg]; exact Nat.ne_of_gt (zq (g := ab) (o := .cells #[.int .i64 aD,.int .i64 aF,.int .i64 aH,.int .i64 aK,.slice aM aG.length aL,.slice aP aJ.length aN,.int .i64 ba,.string bh,.bool bm] 34 (0,0)) (by (with_reducible repeat (first | refine zj ?_ _ | refine zl ?_ | refine zk ?_ _)); exact ah.out)) : ad ≠ ab)); clear HO_575004; clear HO_575005; clear HO_593004; clear HO_593005; clear bn; clear bo; clear aa; clear ac; clear ah; clear HB; have HO_575004 := be; have HO_575005 := bf; have HO_593004 := bi; have HO_593005 := bj; have bn := br; have bo := bv; have aa := bw; have ac := bB; have ah := bH; have HB := bJ; have ai := bF; have jg := cG; have cu := cH; have bb := cI; have cJ := el; have bc := em; have cK := en; have bd := eo; have cL := ep; clear be bf bi bj br bv bw bB bH bJ bF cG cH cI el em en eo ep; clear hb hbox hg; have oq := cJ.out; have os := bb.out; have ot := cK.out; have ou := bc.out; have ov := cL.out; have ow := bd.out; have lg : cZ.cell? ⟨ad,0,none⟩ = some (.int .i64 0) := (zi ai.out 0).trans rfl; have lh : cZ.cell? ⟨ad,1,none⟩ = some (.int .i64 0) := (zi ai.out 1).trans rfl; have li : cZ.cell? ⟨ad,2,none⟩ = some (.int .i64 0) := (zi ai.out 2).trans rfl; have lj : cZ.cell? ⟨ad,3,none⟩ = some (.int .i64 0) := (zi ai.out 3).trans rfl; have lk : cZ.cell? ⟨ad,4,none⟩ = some (.slice none 0 0) := (zi ai.out 4).trans rfl; have ll : cZ.cell? ⟨ad,5,none⟩ = some (.slice none 0 0) := (zi ai.out 5).trans rfl; have lm : cZ.cell? ⟨ad,6,none⟩ = some (.int .i64 0) := (zi ai.out 6).trans rfl; have ln : cZ.cell? ⟨ad,7,none⟩ = some (.string (⟨#[]⟩ : ByteArray)) := (zi ai.out 7).trans rfl; have lo : cZ.cell? ⟨ad,8,none⟩ = some (.bool false) := (zi ai.out 8).trans rfl; have lp := zm ai.out 0; have lq := zm ai.out 1; have lr := zm ai.out 2; have ls := zm ai.out 3; have lu := zm ai.out 4; have lv := zm ai.out 5; have lw := zm ai.out 6; have lx := zm ai.out 7; have ly := zm ai.out 8; obtain ⟨cr,ct,eo78⟩ := zz bn.out; subst eo78; obtain ⟨cw,cx,eo79⟩ := zz bo.out; subst eo79) | ((with_reducible refine zza (f := 26) rfl ?_); refine zzd (some 94) rfl rfl Try.func26 (by kernel_rfl) rfl #[] rfl (by (try simp only [zd,ze,zf]); first | done | rfl | (simp only [zg,zh]; rfl)) ?_; (with_reducible refine (L_takes.calls bC  true _ jj.out).mono ?_); rintro e pc ⟨rfl,hb⟩; refine ⟨_,rfl,?_⟩; have be := zzk (zv (by (with_reducible repeat (first | apply zu | apply zt | apply zs)); exact (zx (zr (p := ⟨ad,8,none⟩) (zr (p := ⟨ad,7,none⟩) (zr (p := ⟨ad,6,none⟩) (zr (p := ⟨ad,5,none⟩) (zr (p := ⟨ad,4,none⟩) (zr (p := ⟨ad,3,none⟩) (zr (p := ⟨ad,2,none⟩) (zr (p := ⟨ad,1,none⟩) (zr (p := ⟨ad,0,none⟩) (zy HO_575004.out ai.out (by decide)) (fun _ hk => hk.2) (.int .i64 bg)) (fun _ hk => hk.2) (.int .i64 bk)) (fun _ hk => hk.2) (.int .i64 bl)) (fun _ hk => hk.2) (.int .i64 bq)) (fun _ hk => hk.2) (.slice cr bs.length ct)) (fun _ hk => hk.2) (.slice cw bt.length cx)) (fun _ hk => hk.2) (.int .i64 bu)) (fun _ hk => hk.2) (.string bz)) (fun _ hk => hk.2) (.bool bD)) (fun _ h_ => h_.1))) hb); have bf := zzk (zv (by (with_reducible repeat (first | apply zu | apply zt | apply zs)); exact (zx (zr (p := ⟨ad,8,none⟩) (zr (p := ⟨ad,7,none⟩) (zr (p := ⟨ad,6,none⟩) (zr (p := ⟨ad,5,none⟩) (zr (p := ⟨ad,4,none⟩) (zr (p := ⟨ad,3,none⟩) (zr (p := ⟨ad,2,none⟩) (zr (p := ⟨ad,1,none⟩) (zr (p := ⟨ad,0,none⟩) (zy HO_575005.out ai.out (by decide)) (fun _ hk => hk.2) (.int .i64 bg)) (fun _ hk => hk.2) (.int .i64 bk)) (fun _ hk => hk.2) (.int .i64 bl)) (fun _ hk => hk.2) (.int .i64 bq)) (fun _ hk => hk.2) (.slice cr bs.length ct)) (fun _ hk => hk.2) (.slice cw bt.length cx)) (fun _ hk => hk.2) (.int .i64 bu)) (fun _ hk => hk.2) (.string bz)) (fun _ hk => hk.2) (.bool bD)) (fun _ h_ => h_.1))) hb); have bi := zzk (zv (by (with_reducible repeat (first | apply zu | apply zt | apply zs)); exact (zx (zr (p := ⟨ad,8,none⟩) (zr (p := ⟨ad,7,none⟩) (zr (p := ⟨ad,6,none⟩) (zr (p := ⟨ad,5,none⟩) (zr (p := ⟨ad,4,none⟩) (zr (p := ⟨ad,3,none⟩) (zr (p := ⟨ad,2,none⟩) (zr (p := ⟨ad,1,none⟩) (zr (p := ⟨ad,0,none⟩) (zy HO_593004.out ai.out (by decide)) (fun _ hk => hk.2) (.int .i64 bg)) (fun _ hk => hk.2) (.int .i64 bk)) (fun _ hk => hk.2) (.int .i64 bl)) (fun _ hk => hk.2) (.int .i64 bq)) (fun _ hk => hk.2) (.slice cr bs.length ct)) (fun _ hk => hk.2) (.slice cw bt.length cx)) (fun _ hk => hk.2) (.int .i64 bu)) (fun _ hk => hk.2) (.string bz)) (fun _ hk => hk.2) (.bool bD)) (fun _ h_ => h_.1))) hb); have bj := zzk (zv (by (with_reducible repeat (first | apply zu | apply zt | apply zs)); exact (zx (zr (p := ⟨ad,8,none⟩) (zr (p := ⟨ad,7,none⟩) (zr (p := ⟨ad,6,none⟩) (zr (p := ⟨ad,5,none⟩) (zr (p := ⟨ad,4,none⟩) (zr (p := ⟨ad,3,none⟩) (zr (p := ⟨ad,2,none⟩) (zr (p := ⟨ad,1,none⟩) (zr (p := ⟨ad,0,none⟩) (zy HO_593005.out ai.out (by decide)) (fun _ hk => hk.2) (.int .i64 bg)) (fun _ hk => hk.2) (.int .i64 bk)) (fun _ hk => hk.2) (.int .i64 bl)) (fun _ hk => hk.2) (.int .i64 bq)) (fun _ hk => hk.2) (.slice cr bs.length ct)) (fun _ hk => hk.2) (.slice cw bt.length cx)) (fun _ hk => hk.2) (.int .i64 bu)) (fun _ hk => hk.2) (.string bz)) (fun _ hk => hk.2) (.bool bD)) (fun _ h_ => h_.1))) hb); have br := zzk (zv (by (with_reducible repeat (first | apply zu | apply zt | apply zs)); exact (zx (zr (p := ⟨ad,8,none⟩) (zr (p := ⟨ad,7,none⟩) (zr (p := ⟨ad,6,none⟩) (zr (p := ⟨ad,5,none⟩) (zr (p := ⟨ad,4,none⟩) (zr (p := ⟨ad,3,none⟩) (zr (p := ⟨ad,2,none⟩) (zr (p := ⟨ad,1,none⟩) (zr (p := ⟨ad,0,none⟩) (zy bn.out ai.out (by decide)) (fun _ hk => hk.2) (.int .i64 bg)) (fun _ hk => hk.2) (.int .i64 bk)) (fun _ hk => hk.2) (.int .i64 bl)) (fun _ hk => hk.2) (.int .i64 bq)) (fun _ hk => hk.2) (.slice cr bs.length ct)) (fun _ hk => hk.2) (.slice cw bt.length cx)) (fun _ hk => hk.2) (.int .i64 bu)) (fun _ hk => hk.2) (.string bz)) (fun _ hk => hk.2) (.bool bD)) (fun _ h_ => h_.1))) hb); have bv := zzk (zv (by (with_reducible repeat (first | apply zu | apply zt | apply zs)); exact (zx (zr (p := ⟨ad,8,none⟩) (zr (p := ⟨ad,7,none⟩) (zr (p := ⟨ad,6,none⟩) (zr (p := ⟨ad,5,none⟩) (zr (p := ⟨ad,4,none⟩) (zr (p := ⟨ad,3,none⟩) (zr (p := ⟨ad,2,none⟩) (zr (p := ⟨ad,1,none⟩) (zr (p := ⟨ad,0,none⟩) (zy bo.out ai.out (by decide)) (fun _ hk => hk.2) (.int .i64 bg)) (fun _ hk => hk.2) (.int .i64 bk)) (fun _ hk => hk.2) (.int .i64 bl)) (fun _ hk => hk.2) (.int .i64 bq)) (fun _ hk => hk.2) (.slice cr bs.length ct)) (fun _ hk => hk.2) (.slice cw bt.length cx)) (fun _ hk => hk.2) (.int .i64 bu)) (fun _ hk => hk.2) (.string bz)) (fun _ hk => hk.2) (.bool bD)) (fun _ h_ => h_.1))) hb); have bw := zzk (zo (g := ae) (o := .cells #[.int .i64 al,.int .i64 am,.int .i64 an,.int .i64 ao,.slice aV aj.length aW,.slice aX ak.length aY,.int .i64 ap,.string ag,.bool aq] 34 (0,0)) (by (with_reducible repeat (first | refine zj ?_ _ | refine zl ?_ | refine zk ?_ _)); refine zn ?_ bb.out _; (with_reducible repeat (first | refine zj ?_ _ | refine zl ?_ | refine zk ?_ _)); refine zn ?_ bb.out _; (with_reducible repeat (first | refine zj ?_ _ | refine zl ?_ | refine zk ?_ _)); refine zn ?_ bb.out _; (with_reducible repeat (first | refine zj ?_ _ | refine zl ?_ | refine zk ?_ _)); refine zn ?_ bb.out _; (with_reducible repeat (first | refine zj ?_ _ | refine zl ?_ | refine zk ?_ _)); refine zn ?_ bb.out _; (with_reducible repeat (first | refine zj ?_ _ | refine zl ?_ | refine zk ?_ _)); refine zn ?_ bb.out _; (with_reducible repeat (first | refine zj ?_ _ | refine zl ?_ | refine zk ?_ _)); refine zn ?_ bb.out _; (with_reducible repeat (first | refine zj ?_ _ | refine zl ?_ | refine zk ?_ _)); refine zn ?_ bb.out _; (with_reducible repeat (first | refine zj ?_ _ | refine zl ?_ | refine zk ?_ _)); refine zn ?_ bb.out _; (with_reducible repeat (first | refine zj ?_ _ | refine zl ?_ | refine zk ?_ _)); exact aa.out) hb); have bB := zzk (zo (g := af) (o := .cells #[.int .i64 ax,.int .i64 ay,.int .i64 az,.int .i64 aB,.slice aS av.length aR,.slice aU aw.length aT,.int .i64 aC,.string aA,.bool aE] 34 (0,0)) (by (with_reducible repeat (first | refine zj ?_ _ | refine zl ?_ | refine zk ?_ _)); refine zn ?_ bc.out _; (with_reducible repeat (first | refine zj ?_ _ | refine zl ?_ | refine zk ?_ _)); refine zn ?_ bc.out _; (with_reducible repeat (first | refine zj ?_ _ | refine zl ?_ | refine zk ?_ _)); refine zn ?_ bc.out _; (with_reducible repeat (first | refine zj ?_ _ | refine zl ?_ | refine zk ?_ _)); refine zn ?_ bc.out _; (with_reducible repeat (first | refine zj ?_ _ | refine zl ?_ | refine zk ?_ _)); refine zn ?_ bc.out _; (with_reducible repeat (first | refine zj ?_ _ | refine zl ?_ | refine zk ?_ _)); refine zn ?_ bc.out _; (with_reducible repeat (first | refine zj ?_ _ | refine zl ?_ | refine zk ?_ _)); refine zn ?_ bc.out _; (with_reducible repeat (first | refine zj ?_ _ | refine zl ?_ | refine zk ?_ _)); refine zn ?_ bc.out _; (with_reducible repeat (first | refine zj ?_ _ | refine zl ?_ | refine zk ?_ _)); refine zn ?_ bc.out _; (with_reducible repeat (first | refine zj ?_ _ | refine zl ?_ | refine zk ?_ _)); exact ac.out) hb); have bH := zzk (zo (g := ab) (o := .cells #[.int .i64 aD,.int .i64 aF,.int .i64 aH,.int .i64 aK,.slice aM aG.length aL,.slice aP aJ.length aN,.int .i64 ba,.string bh,.bool bm] 34 (0,0)) (by (with_reducible repeat (first | refine zj ?_ _ | refine zl ?_ | refine zk ?_ _)); refine zn ?_ bd.out _; (with_reducible repeat (first | refine zj ?_ _ | refine zl ?_ | refine zk ?_ _)); refine zn ?_ bd.out _; (with_reducible repeat (first | refine zj ?_ _ | refine zl ?_ | refine zk ?_ _)); refine zn ?_ bd.out _; (with_reducible repeat (first | refine zj ?_ _ | refine zl ?_ | refine zk ?_ _)); refine zn ?_ bd.out _; (with_reducible repeat (first | refine zj ?_ _ | refine zl ?_ | refine zk ?_ _)); refine zn ?_ bd.out _; (with_reducible repeat (first | refine zj ?_ _ | refine zl ?_ | refine zk ?_ _)); refine zn ?_ bd.out _; (with_reducible repeat (first | refine zj ?_ _ | refine zl ?_ | refine zk ?_ _)); refine zn ?_ bd.out _; (with_reducible repeat (first | refine zj ?_ _ | refine zl ?_ | refine zk ?_ _)); refine zn ?_ bd.out _; (with_reducible repeat (first | refine zj ?_ _ | refine zl ?_ | refine zk ?_ _)); refine zn ?_ bd.out _; (with_reducible repeat (first | refine zj ?_ _ | refine zl ?_ | refine zk ?_ _)); exact ah.out) hb); have bJ := zzk (zo (g := ad) (o := .cells #[.int .i64 bg,.int .i64 bk,.int .i64 bl,.int .i64 bq,.slice cr bs.length ct,.slice cw bt.length cx,.int .i64 bu,.string bz,.bool bD] 34 (0,0)) (by (with_reducible repeat (first | refine zj ?_ _ | refine zl ?_ | refine zk ?_ _)); refine zp (cs := #[.int .i64 bg,.int .i64 bk,.int .i64 bl,.int .i64 bq,.slice cr bs.length ct,.slice cw bt.length cx,.int .i64 bu,.string bz,.bool false]) ?_ 8 _ rfl; (with_reducible repeat (first | refine zj ?_ _ | refine zl ?_ | refine zk ?_ _)); refine zp (cs := #[.int .i64 bg,.int .i64 bk,.int .i64 bl,.int .i64 bq,.slice cr bs.length ct,.slice cw bt.length cx,.int .i64 bu,.string (⟨#[]⟩ : ByteArray),.bool false]) ?_ 7 _ rfl; (with_reducible repeat (first | refine zj ?_ _ | refine zl ?_ | refine zk ?_ _)); refine zp (cs := #[.int .i64 bg,.int .i64 bk,.int .i64 bl,.int .i64 bq,.slice cr bs.length ct,.slice cw bt.length cx,.int .i64 0,.string (⟨#[]⟩ : ByteArray),.bool false]) ?_ 6 _ rfl; (with_reducible repeat (first | refine zj ?_ _ | refine zl ?_ | refine zk ?_ _)); refine zp (cs := #[.int .i64 bg,.int .i64 bk,.int .i64 bl,.int .i64 bq,.slice cr bs.length ct,.slice none 0 0,.int .i64 0,.string (⟨#[]⟩ : ByteArray),.bool false]) ?_ 5 _ rfl; (with_reducible repeat (first | refine zj ?_ _ | refine zl ?_ | refine zk ?_ _)); refine zp (cs := #[.int .i64 bg,.int .i64 bk,.int .i64 bl,.int .i64 bq,.slice none 0 0,.slice none 0 0,.int .i64 0,.string (⟨#[]⟩ : ByteArray),.bool false]) ?_ 4 _ rfl; (with_reducible repeat (first | refine zj ?_ _ | refine zl ?_ | refine zk ?_ _)); refine zp (cs := #[.int .i64 bg,.int .i64 bk,.int .i64 bl,.int .i64 0,.slice none 0 0,.slice none 0 0,.int .i64 0,.string (⟨#[]⟩ : ByteArray),.bool false]) ?_ 3 _ rfl; (with_reducible repeat (first | refine zj ?_ _ | refine zl ?_ | refine zk ?_ _)); refine zp (cs := #[.int .i64 bg,.int .i64 bk,.int .i64 0,.int .i64 0,.slice none 0 0,.slice none 0 0,.int .i64 0,.string (⟨#[]⟩ : ByteArray),.bool false]) ?_ 2 _ rfl; (with_reducible repeat (first | refine zj ?_ _ | refine zl ?_ | refine zk ?_ _)); refine zp (cs := #[.int .i64 bg,.int .i64 0,.int .i64 0,.int .i64 0,.slice none 0 0,.slice none 0 0,.int .i64 0,.string (⟨#[]⟩ : ByteArray),.bool false]) ?_ 1 _ rfl; (with_reducible repeat (first | refine zj ?_ _ | refine zl ?_ | refine zk ?_ _)); refine zp (cs := #[.int .i64 0,.int .i64 0,.int .i64 0,.int .i64 0,.slice none 0 0,.slice none 0 0,.int .i64 0,.string (⟨#[]⟩ : ByteArray),.bool false]) ?_ 0 _ rfl; (with_reducible repeat (first | refine zj ?_ _ | refine zl ?_ | refine zk ?_ _)); exact ai.out) hb); have bF := zzk (Zs (by repeat (first | (with_reducible first | exact HB.out | apply Zq | apply Zp | apply Zo | refine Zn ?_ aI.out | refine Zn ?_ aZ.out | refine Zn ?_ bx.out | refine Zn ?_ cu.out) | exact HB.out)) hb); clear HO_575004; clear HO_575005; clear HO_593004; clear HO_593005; clear bn; clear bo; clear aa; clear ac; clear ah; clear ai; clear HB; have HO_575004 := be; have HO_575005 := bf; have HO_593004 := bi; have HO_593005 := bj; have bn := br; have bo := bv; have aa := bw; have ac := bB; have ah := bH; have ai := bJ; have HB := bF; clear be bf bi bj br bv bw bB bH bJ bF; (try clear hb); (try clear hb2); (try clear hk); (try clear hi)) | (go_at_call 18; (with_reducible refine (L_begins.calls bC  true _ jk.out).mono ?_); rintro e cq ⟨rfl,hb⟩; have be := zzk (zv (by (with_reducible repeat (first | apply zu | apply zt | apply zs)); exact HO_575004.out) hb); have bf := zzk (zv (by (with_reducible repeat (first | apply zu | apply zt | apply zs)); exact HO_575005.out) hb); have bi := zzk (zv (by (with_reducible repeat (first | apply zu | apply zt | apply zs)); exact HO_593004.out) hb); have bj := zzk (zv (by (with_reducible repeat (first | apply zu | apply zt | apply zs)); exact HO_593005.out) hb); have br := zzk (zv (by (with_reducible repeat (first | apply zu | apply zt | apply zs)); exact bn.out) hb); have bv := zzk (zv (by (with_reducible repeat (first | apply zu | apply zt | apply zs)); exact bo.out) hb); have bw := zzk (zo (g := ae) (o := .cells #[.int .i64 al,.int .i64 am,.int .i64 an,.int .i64 ao,.slice aV aj.length aW,.slice aX ak.length aY,.int .i64 ap,.string ag,.bool aq] 34 (0,0)) (by (with_reducible repeat (first | refine zj ?_ _ | refine zl ?_ | refine zk ?_ _)); exact aa.out) hb); have bB := zzk (zo (g := af) (o := .cells #[.int .i64 ax,.int .i64 ay,.int .i64 az,.int .i64 aB,.slice aS av.length aR,.slice aU aw.length aT,.int .i64 aC,.string aA,.bool aE] 34 (0,0)) (by (with_reducible repeat (first | refine zj ?_ _ | refine zl ?_ | refine zk ?_ _)); exact ac.out) hb); have bH := zzk (zo (g := ab) (o := .cells #[.int .i64 aD,.int .i64 aF,.int .i64 aH,.int .i64 aK,.slice aM aG.length aL,.slice aP aJ.length aN,.int .i64 ba,.string bh,.bool bm] 34 (0,0)) (by (with_reducible repeat (first | refine zj ?_ _ | refine zl ?_ | refine zk ?_ _)); exact ah.out) hb); have bJ := zzk (zo (g := ad) (o := .cells #[.int .i64 bg,.int .i64 bk,.int .i64 bl,.int .i64 bq,.slice cr bs.length ct,.slice cw bt.length cx,.int .i64 bu,.string bz,.bool bD] 34 (0,0)) (by (with_reducible repeat (first | refine zj ?_ _ | refine zl ?_ | refine zk ?_ _)); exact ai.out) hb); have bF := zzk (Zs (by repeat (first | (with_reducible first | exact HB.out | apply Zq | apply Zp | apply Zo | refine Zn ?_ aI.out | refine Zn ?_ aZ.out | refine Zn ?_ bx.out | refine Zn ?_ cu.out) | exact HB.out)) hb); clear HO_575004; clear HO_575005; clear HO_593004; clear HO_593005; clear bn; clear bo; clear aa; clear ac; clear ah; clear ai; clear HB; have HO_575004 := be; have HO_575005 := bf; have HO_593004 := bi; have HO_593005 := bj; have bn := br; have bo := bv; have aa := bw; have ac := bB; have ah := bH; have ai := bJ; have HB := bF; clear be bf bi bj br bv bw bB bH bJ bF; (try clear hb); (try clear hb2); (try clear hk); (try clear hi); have ox := au.out; have oy := cB.out; have lz : cq.cell? ⟨af,0,none⟩ = some (.int .i64 ax) := (zi ac.out 0).trans rfl; have lA : cq.cell? ⟨af,1,none⟩ = some (.int .i64 ay) := (zi ac.out 1).trans rfl; have lB : cq.cell? ⟨af,2,none⟩ = some (.int .i64 az) := (zi ac.out 2).trans rfl; have lC : cq.cell? ⟨af,3,none⟩ = some (.int .i64 aB) := (zi ac.out 3).trans rfl; have lD : cq.cell? ⟨af,4,none⟩ = some (.slice aS av.length aR) := (zi ac.out 4).trans rfl; have lE : cq.cell? ⟨af,5,none⟩ = some (.slice aU aw.length aT) := (zi ac.out 5).trans rfl; have lF : cq.cell? ⟨af,6,none⟩ = some (.int .i64 aC) := (zi ac.out 6).trans rfl; have lG : cq.cell? ⟨af,7,none⟩ = some (.string aA) := (zi ac.out 7).trans rfl; have lH : cq.cell? ⟨af,8,none⟩ = some (.bool aE) := (zi ac.out 8).trans rfl; have lI := zm ac.out 0; have lJ := zm ac.out 1; have lK := zm ac.out 2; have lL := zm ac.out 3; have lM := zm ac.out 4; have lN := zm ac.out 5; have lO := zm ac.out 6; have lP := zm ac.out 7; have lQ := zm ac.out 8; have lR : cq.cell? ⟨ae,0,none⟩ = some (.int .i64 al) := (zi aa.out 0).trans rfl; have lS : cq.cell? ⟨ae,1,none⟩ = some (.int .i64 am) := (zi aa.out 1).trans rfl; have lT : cq.cell? ⟨ae,2,none⟩ = some (.int .i64 an) := (zi aa.out 2).trans rfl; have lU : cq.cell? ⟨ae,3,none⟩ = some (.int .i64 ao) := (zi aa.out 3).trans rfl; have lV : cq.cell? ⟨ae,4,none⟩ = some (.slice aV aj.length aW) := (zi aa.out 4).trans rfl; have lW : cq.cell? ⟨ae,5,none⟩ = some (.slice aX ak.length aY) := (zi aa.out 5).trans rfl; have lX : cq.cell? ⟨ae,6,none⟩ = some (.int .i64 ap) := (zi aa.out 6).trans rfl; have lY : cq.cell? ⟨ae,7,none⟩ = some (.string ag) := (zi aa.out 7).trans rfl; have lZ : cq.cell? ⟨ae,8,none⟩ = some (.bool aq) := (zi aa.out 8).trans rfl; have ma := zm aa.out 0; have mb := zm aa.out 1; have mc := zm aa.out 2; have md := zm aa.out 3; have me := zm aa.out 4; have mf := zm aa.out 5; have mg := zm aa.out 6; have mh := zm aa.out 7; have mi := zm aa.out 8) | (go_at_call 17; (with_reducible refine (chunk_Check.calls bC ax ay az aB _ _ av _ _ aw aC aA aE bS _ ?side1 ?side2 ?side3 ?side4 jl.out).mono ?_); (case side1 => repeat (first | exact (zw HO_575004.out).2.2 | (with_reducible refine Zk ?_ _) | (with_reducible refine Zj ?_ _) | (with_reducible refine Zl ?_))); (case side2 => exact (zw HO_575004.out).2.1); (case side3 => repeat (first | exact (zw HO_575005.out).2.2 | (with_reducible refine Zk ?_ _) | (with_reducible refine Zj ?_ _) | (with_reducible refine Zl ?_))); (case side4 => exact (zw HO_575005.out).2.1); rintro e da ⟨rfl,hb⟩; have be := zzk (zv (by (with_reducible repeat (first | apply zu | apply zt | apply zs)); exact HO_575004.out) hb); have bf := zzk (zv (by (with_reducible repeat (first | apply zu | apply zt | apply zs)); exact HO_575005.out) hb); have bi := zzk (zv (by (with_reducible repeat (first | apply zu | apply zt | apply zs)); exact HO_593004.out) hb); have bj := zzk (zv (by (with_reducible repeat (first | apply zu | apply zt | apply zs)); exact HO_593005.out) hb); have br := zzk (zv (by (with_reducible repeat (first | apply zu | apply zt | apply zs)); exact bn.out) hb); have bv := zzk (zv (by (with_reducible repeat (first | apply zu | apply zt | apply zs)); exact bo.out) hb); have bw := zzk (zo (g := ae) (o := .cells #[.int .i64 al,.int .i64 am,.int .i64 an,.int .i64 ao,.slice aV aj.length aW,.slice aX ak.length aY,.int .i64 ap,.string ag,.bool aq] 34 (0,0)) (by (with_reducible repeat (first | refine zj ?_ _ | refine zl ?_ | refine zk ?_ _)); exact aa.out) hb); have bB := zzk (zo (g := af) (o := .cells #[.int .i64 ax,.int .i64 ay,.int .i64 az,.int .i64 aB,.slice aS av.length aR,.slice aU aw.length aT,.int .i64 aC,.string aA,.bool aE] 34 (0,0)) (by (with_reducible repeat (first | refine zj ?_ _ | refine zl ?_ | refine zk ?_ _)); exact ac.out) hb); have bH := zzk (zo (g := ab) (o := .cells #[.int .i64 aD,.int .i64 aF,.int .i64 aH,.int .i64 aK,.slice aM aG.length aL,.slice aP aJ.length aN,.int .i64 ba,.string bh,.bool bm] 34 (0,0)) (by (with_reducible repeat (first | refine zj ?_ _ | refine zl ?_ | refine zk ?_ _)); exact ah.out) hb); have bJ := zzk (zo (g := ad) (o := .cells #[.int .i64 bg,.int .i64 bk,.int .i64 bl,.int .i64 bq,.slice cr bs.length ct,.slice cw bt.length cx,.int .i64 bu,.string bz,.bool bD] 34 (0,0)) (by (with_reducible repeat (first | refine zj ?_ _ | refine zl ?_ | refine zk ?_ _)); exact ai.out) hb); have bF := zzk (Zs (by repeat (first | (with_reducible first | exact HB.out | apply Zq | apply Zp | apply Zo | refine Zn ?_ aI.out | refine Zn ?_ aZ.out | refine Zn ?_ bx.out | refine Zn ?_ cu.out) | exact HB.out)) hb); clear HO_575004; clear HO_575005; clear HO_593004; clear HO_593005; clear bn; clear bo; clear aa; clear ac; clear ah; clear ai; clear HB; have HO_575004 := be; have HO_575005 := bf; have HO_593004 := bi; have HO_593005 := bj; have bn := br; have bo := bv; have aa := bw; have ac := bB; have ah := bH; have ai := bJ; have HB := bF; clear be bf bi bj br bv bw bB bH bJ bF; (try clear hb); (try clear hb2); (try clear hk); (try clear hi); have mj : da.cell? ⟨ae,0,none⟩ = some (.int .i64 al) := (zi aa.out 0).trans rfl; have ml : da.cell? ⟨ae,1,none⟩ = some (.int .i64 am) := (zi aa.out 1).trans rfl; have mm : da.cell? ⟨ae,2,none⟩ = some (.int .i64 an) := (zi aa.out 2).trans rfl; have mo : da.cell? ⟨ae,3,none⟩ = some (.int .i64 ao) := (zi aa.out 3).trans rfl; have mq : da.cell? ⟨ae,4,none⟩ = some (.slice aV aj.length aW) := (zi aa.out 4).trans rfl; have mr : da.cell? ⟨ae,5,none⟩ = some (.slice aX ak.length aY) := (zi aa.out 5).trans rfl; have ms : da.cell? ⟨ae,6,none⟩ = some (.int .i64 ap) := (zi aa.out 6).trans rfl; have mt : da.cell? ⟨ae,7,none⟩ = some (.string ag) := (zi aa.out 7).trans rfl; have mu : da.cell? ⟨ae,8,none⟩ = some (.bool aq) := (zi aa.out 8).trans rfl; have mv := zm aa.out 0; have mw := zm aa.out 1; have my := zm aa.out 2; have mz := zm aa.out 3; have mA := zm aa.out 4; have mB := zm aa.out 5; have mC := zm aa.out 6; have mD := zm aa.out 7; have mE := zm aa.out 8))
                 go_ret
                 exact ⟨by first | rfl | (simp [zzl,zzm] <;> rfl) | (simp [*,zzl,zzm] <;> rfl),by repeat (first | (with_reducible first | exact HB.out | apply Zq | apply Zp | apply Zo | refine Zn ?_ aI.out | refine Zn ?_ aZ.out | refine Zn ?_ bx.out | refine Zn ?_ cu.out) | exact HB.out)⟩
                ·
                 replace fE := Bool.eq_false_iff.mpr fE
                 subst fE
                 have H1 : ((r16_Same.f bC bg bk bl bq bs bt bu bz bD al am an ao aj ak ap ag aq).bind fun bT => (some bT)) = some r := by rw [if_neg (show ¬ (false = true) by decide)] at H; exact H
                 clear H
                 have H := H1
                 clear H1
                 replace H := Option.bind_eq_some_iff.mp H
                 obtain ⟨bT,jf,H⟩ := H
                 replace H : (some bT) = some r := H
                 have nE := zzk jf
                 clear jf
                 obtain rfl := zzu H
                 have oz := aQ.out
                 have oA := cm.out
                 have oB := ar.out
                 have oC := cA.out
                 have mF : wc.cell? ⟨ae,0,none⟩ = some (.int .i64 al) := (zi aa.out 0).trans rfl
                 have mG : wc.cell? ⟨ae,1,none⟩ = some (.int .i64 am) := (zi aa.out 1).trans rfl
                 have mH : wc.cell? ⟨ae,2,none⟩ = some (.int .i64 an) := (zi aa.out 2).trans rfl
                 have mI : wc.cell? ⟨ae,3,none⟩ = some (.int .i64 ao) := (zi aa.out 3).trans rfl
                 have mJ : wc.cell? ⟨ae,4,none⟩ = some (.slice aV aj.length aW) := (zi aa.out 4).trans rfl
                 have mK : wc.cell? ⟨ae,5,none⟩ = some (.slice aX ak.length aY) := (zi aa.out 5).trans rfl
                 have mL : wc.cell? ⟨ae,6,none⟩ = some (.int .i64 ap) := (zi aa.out 6).trans rfl
                 have mM : wc.cell? ⟨ae,7,none⟩ = some (.string ag) := (zi aa.out 7).trans rfl
                 have mN : wc.cell? ⟨ae,8,none⟩ = some (.bool aq) := (zi aa.out 8).trans rfl
                 have mO := zm aa.out 0
                 have mP := zm aa.out 1
                 have mQ := zm aa.out 2
                 have mR := zm aa.out 3
                 have mS := zm aa.out 4
                 have mT := zm aa.out 5
                 have mU := zm aa.out 6
                 have mV := zm aa.out 7
                 have mW := zm aa.out 8
                 go_wp2_with (first | ((with_reducible refine zza (f := 22) rfl ?_); refine zzd (some 90) rfl rfl Try.func22 (by kernel_rfl) rfl #[.agg #[.int .i64 al,.int .i64 am,.int .i64 an,.int .i64 ao,.slice aV aj.length aW,.slice aX ak.length aY,.int .i64 ap,.string ag,.bool aq],.int .i64 a2,.string a1] rfl (by (try simp only [zd,ze,zf]); first | done | rfl | (simp only [zg,zh]; rfl)) ?_; (with_reducible refine (chunk_Take.calls bC al am an ao _ _ aj _ _ ak ap ag aq a2 a1 bg bk bl bq bs bt bu bz bD false cz _ ?side1 ?side2 ?side3 ?side4 ji.out).mono ?_); (case side1 => repeat (first | exact (Zm cM.out HB.out) | (with_reducible refine Zk ?_ _) | (with_reducible refine Zj ?_ _) | (with_reducible refine Zl ?_))); (case side2 => exact cN.out); (case side3 => repeat (first | exact (Zm cO.out HB.out) | (with_reducible refine Zk ?_ _) | (with_reducible refine Zj ?_ _) | (with_reducible refine Zl ?_))); (case side4 => exact cP.out); rintro e pd ⟨jm,jn,rfl,ho0,ho1,hb⟩; refine ⟨_,rfl,?_⟩; have be := zzk (zx (Zc (Zc (Kd.R_old (by (with_reducible repeat (first | apply zu | apply zt | apply zs)); exact HO_575004.out) hb) (Zd ho0)) (Zd ho1)) (fun _ h_ => h_.1)); have bf := zzk (zx (Zc (Zc (Kd.R_old (by (with_reducible repeat (first | apply zu | apply zt | apply zs)); exact HO_575005.out) hb) (Zd ho0)) (Zd ho1)) (fun _ h_ => h_.1)); have bi := zzk (zx (Zc (Zc (Kd.R_old (by (with_reducible repeat (first | apply zu | apply zt | apply zs)); exact HO_593004.out) hb) (Zd ho0)) (Zd ho1)) (fun _ h_ => h_.1)); have bj := zzk (zx (Zc (Zc (Kd.R_old (by (with_reducible repeat (first | apply zu | apply zt | apply zs)); exact HO_593005.out) hb) (Zd ho0)) (Zd ho1)) (fun _ h_ => h_.1)); have br := zzk (Za (Zb (Zb (Zb (Zb ho0 (Kd.R_lt (by (with_reducible repeat (first | apply zu | apply zt | apply zs)); exact HO_575004.out))) (Kd.R_lt (by (with_reducible repeat (first | apply zu | apply zt | apply zs)); exact HO_575005.out))) (Kd.R_lt (by (with_reducible repeat (first | apply zu | apply zt | apply zs)); exact HO_593004.out))) (Kd.R_lt (by (with_reducible repeat (first | apply zu | apply zt | apply zs)); exact HO_593005.out))) (Zr (by repeat (first | (with_reducible first | exact HB.out | apply Zq | apply Zp | apply Zo | refine Zn ?_ aI.out | refine Zn ?_ aZ.out | refine Zn ?_ bx.out) | exact HB.out)))); have bv := zzk (Za (Zb (Zb (Zb (Zb ho1 (Kd.R_lt (by (with_reducible repeat (first | apply zu | apply zt | apply zs)); exact HO_575004.out))) (Kd.R_lt (by (with_reducible repeat (first | apply zu | apply zt | apply zs)); exact HO_575005.out))) (Kd.R_lt (by (with_reducible repeat (first | apply zu | apply zt | apply zs)); exact HO_593004.out))) (Kd.R_lt (by (with_reducible repeat (first | apply zu | apply zt | apply zs)); exact HO_593005.out))) (Zr (by repeat (first | (with_reducible first | exact HB.out | apply Zq | apply Zp | apply Zo | refine Zn ?_ aI.out | refine Zn ?_ aZ.out | refine Zn ?_ bx.out) | exact HB.out)))); have bw := zzk (zo (g := ae) (o := .cells #[.int .i64 al,.int .i64 am,.int .i64 an,.int .i64 ao,.slice aV aj.length aW,.slice aX ak.length aY,.int .i64 ap,.string ag,.bool aq] 34 (0,0)) (by (with_reducible repeat (first | refine zj ?_ _ | refine zl ?_ | refine zk ?_ _)); exact aa.out) hb); have bB := zzk (zo (g := af) (o := .cells #[.int .i64 ax,.int .i64 ay,.int .i64 az,.int .i64 aB,.slice aS av.length aR,.slice aU aw.length aT,.int .i64 aC,.string aA,.bool aE] 34 (0,0)) (by (with_reducible repeat (first | refine zj ?_ _ | refine zl ?_ | refine zk ?_ _)); exact ac.out) hb); have bH := zzk (zo (g := ab) (o := .cells #[.int .i64 aD,.int .i64 aF,.int .i64 aH,.int .i64 aK,.slice aM aG.length aL,.slice aP aJ.length aN,.int .i64 ba,.string bh,.bool bm] 34 (0,0)) (by (with_reducible repeat (first | refine zj ?_ _ | refine zl ?_ | refine zk ?_ _)); exact ah.out) hb); have bJ := zzk (Zs (by repeat (first | (with_reducible first | exact HB.out | apply Zq | apply Zp | apply Zo | refine Zn ?_ aI.out | refine Zn ?_ aZ.out | refine Zn ?_ bx.out) | exact HB.out)) hb); clear HO_575004; clear HO_575005; clear HO_593004; clear HO_593005; clear aa; clear ac; clear ah; clear HB; have HO_575004 := be; have HO_575005 := bf; have HO_593004 := bi; have HO_593005 := bj; have bn := br; have bo := bv; have aa := bw; have ac := bB; have ah := bH; have HB := bJ; clear be bf bi bj br bv bw bB bH bJ; (try clear hb); (try clear hb2); (try clear hk); (try clear hi); (try clear ho0); (try clear ho1)) | ((with_reducible refine Zy (N := 13) rfl ?_); (try (refine Zz (by rfl) ?_; dsimp only)); refine zzc ?hg (N := 13) ?hd (cs := #[.int .i64 0,.int .i64 0,.int .i64 0,.int .i64 0,.slice none 0 0,.slice none 0 0,.int .i64 0,.string (⟨#[]⟩ : ByteArray),.bool false]) (t := 34) ?hr ?_; (case hd => rfl); (case hg => rfl); (case hr => first | (go_simp; done) | (go_simp; rfl)); intro ad hg db hbox hb; have be := zzk (zv (by (with_reducible repeat (first | apply zu | apply zt | apply zs)); exact HO_575004.out) hb); have bf := zzk (zv (by (with_reducible repeat (first | apply zu | apply zt | apply zs)); exact HO_575005.out) hb); have bi := zzk (zv (by (with_reducible repeat (first | apply zu | apply zt | apply zs)); exact HO_593004.out) hb); have bj := zzk (zv (by (with_reducible repeat (first | apply zu | apply zt | apply zs)); exact HO_593005.out) hb); have br := zzk (zv (by (with_reducible repeat (first | apply zu | apply zt | apply zs)); exact bn.out) hb); have bv := zzk (zv (by (with_reducible repeat (first | apply zu | apply zt | apply zs)); exact bo.out) hb); have bw := zzk (zo (g := ae) (o := .cells #[.int .i64 al,.int .i64 am,.int .i64 an,.int .i64 ao,.slice aV aj.length aW,.slice aX ak.length aY,.int .i64 ap,.string ag,.bool aq] 34 (0,0)) (by (with_reducible repeat (first | refine zj ?_ _ | refine zl ?_ | refine zk ?_ _)); exact aa.out) hb); have bB := zzk (zo (g := af) (o := .cells #[.int .i64 ax,.int .i64 ay,.int .i64 az,.int .i64 aB,.slice aS av.length aR,.slice aU aw.length aT,.int .i64 aC,.string aA,.bool aE] 34 (0,0)) (by (with_reducible repeat (first | refine zj ?_ _ | refine zl ?_ | refine zk ?_ _)); exact ac.out) hb); have bH := zzk (zo (g := ab) (o := .cells #[.int .i64 aD,.int .i64 aF,.int .i64 aH,.int .i64 aK,.slice aM aG.length aL,.slice aP aJ.length aN,.int .i64 ba,.string bh,.bool bm] 34 (0,0)) (by (with_reducible repeat (first | refine zj ?_ _ | refine zl ?_ | refine zk ?_ _)); exact ah.out) hb); have bJ := zzk (Zs (by repeat (first | (with_reducible first | exact HB.out | apply Zq | apply Zp | apply Zo | refine Zn ?_ aI.out | refine Zn ?_ aZ.out | refine Zn ?_ bx.out) | exact HB.out)) hb); have bF := zzk (hbox); have cG := zzk ((by rw [hg]; exact (Zr (by repeat (first | (with_reducible first | exact HB.out | apply Zq | apply Zp | apply Zo | refine Zn ?_ aI.out | refine Zn ?_ aZ.out | refine Zn ?_ bx.out) | exact HB.out))) : w.heap.size ≤ ad)); have cH := zzk ((by rw [hg]; exact (Zr (by repeat (first | (with_reducible first | exact HB.out | apply Zq | apply Zp | apply Zo | refine Zn ?_ aI.out | refine Zn ?_ aZ.out | refine Zn ?_ bx.out) | exact HB.out))) : w.heap.size ≤ ad)); have cI := zzk ((by rw [hg]; exact Nat.ne_of_lt (zq (g := ae) (o := .cells #[.int .i64 al,.int .i64 am,.int .i64 an,.int .i64 ao,.slice aV aj.length aW,.slice aX ak.length aY,.int .i64 ap,.string ag,.bool aq] 34 (0,0)) (by (with_reducible repeat (first | refine zj ?_ _ | refine zl ?_ | refine zk ?_ _)); exact aa.out)) : ae ≠ ad)); have el := zzk ((by rw [hg]; exact Nat.ne_of_gt (zq (g := ae) (o := .cells #[.int .i64 al,.int .i64 am,.int .i64 an,.int .i64 ao,.slice aV aj.length aW,.slice aX ak.length aY,.int .i64 ap,.string ag,.bool aq] 34 (0,0)) (by (with_reducible repeat (first | refine zj ?_ _ | refine zl ?_ | refine zk ?_ _)); exact aa.out)) : ad ≠ ae)); have em := zzk ((by rw [hg]; exact Nat.ne_of_lt (zq (g := af) (o := .cells #[.int .i64 ax,.int .i64 ay,.int .i64 az,.int .i64 aB,.slice aS av.length aR,.slice aU aw.length aT,.int .i64 aC,.string aA,.bool aE] 34 (0,0)) (by (with_reducible repeat (first | refine zj ?_ _ | refine zl ?_ | refine zk ?_ _)); exact ac.out)) : af ≠ ad)); have en := zzk ((by rw [hg]; exact Nat.ne_of_gt (zq (g := af) (o := .cells #[.int .i64 ax,.int .i64 ay,.int .i64 az,.int .i64 aB,.slice aS av.length aR,.slice aU aw.length aT,.int .i64 aC,.string aA,.bool aE] 34 (0,0)) (by (with_reducible repeat (first | refine zj ?_ _ | refine zl ?_ | refine zk ?_ _)); exact ac.out)) : ad ≠ af)); have eo := zzk ((by rw [hg]; exact Nat.ne_of_lt (zq (g := ab) (o := .cells #[.int .i64 aD,.int .i64 aF,.int .i64 aH,.int .i64 aK,.slice aM aG.length aL,.slice aP aJ.length aN,.int .i64 ba,.string bh,.bool bm] 34 (0,0)) (by (with_reducible repeat (first | refine zj ?_ _ | refine zl ?_ | refine zk ?_ _)); exact ah.out)) : ab ≠ ad)); have ep := zzk ((by rw [hg]; exact Nat.ne_of_gt (zq (g := ab) (o := .cells #[.int .i64 aD,.int .i64 aF,.int .i64 aH,.int .i64 aK,.slice aM aG.length aL,.slice aP aJ.length aN,.int .i64 ba,.string bh,.bool bm] 34 (0,0)) (by (with_reducible repeat (first | refine zj ?_ _ | refine zl ?_ | refine zk ?_ _)); exact ah.out)) : ad ≠ ab)); clear HO_575004; clear HO_575005; clear HO_593004; clear HO_593005; clear bn; clear bo; clear aa; clear ac; clear ah; clear HB; have HO_575004 := be; have HO_575005 := bf; have HO_593004 := bi; have HO_593005 := bj; have bn := br; have bo := bv; have aa := bw; have ac := bB; have ah := bH; have HB := bJ; have ai := bF; have jg := cG; have cu := cH; have bb := cI; have cJ := el; have bc := em; have cK := en; have bd := eo; have cL := ep; clear be bf bi bj br bv bw bB bH bJ bF cG cH cI el em en eo ep; clear hb hbox hg; have oD := cJ.out; have oE := bb.out; have oF := cK.out; have oG := bc.out; have oH := cL.out; have oI := bd.out; have mX : db.cell? ⟨ad,0,none⟩ = some (.int .i64 0) := (zi ai.out 0).trans rfl; have mY : db.cell? ⟨ad,1,none⟩ = some (.int .i64 0) := (zi ai.out 1).trans rfl; have mZ : db.cell? ⟨ad,2,none⟩ = some (.int .i64 0) := (zi ai.out 2).trans rfl; have na : db.cell? ⟨ad,3,none⟩ = some (.int .i64 0) := (zi ai.out 3).trans rfl; have nb : db.cell? ⟨ad,4,none⟩ = some (.slice none 0 0) := (zi ai.out 4).trans rfl; have nc : db.cell? ⟨ad,5,none⟩ = some (.slice none 0 0) := (zi ai.out 5).trans rfl; have nd : db.cell? ⟨ad,6,none⟩ = some (.int .i64 0) := (zi ai.out 6).trans rfl; have nf : db.cell? ⟨ad,7,none⟩ = some (.string (⟨#[]⟩ : ByteArray)) := (zi ai.out 7).trans rfl; have ng : db.cell? ⟨ad,8,none⟩ = some (.bool false) := (zi ai.out 8).trans rfl; have nh := zm ai.out 0; have ni := zm ai.out 1; have nj := zm ai.out 2; have nk := zm ai.out 3; have nl := zm ai.out 4; have nm := zm ai.out 5; have nn := zm ai.out 6; have np := zm ai.out 7; have nq := zm ai.out 8; obtain ⟨ck,cl,eo97⟩ := zz bn.out; subst eo97; obtain ⟨cn,co,eo98⟩ := zz bo.out; subst eo98) | ((with_reducible refine zza (f := 26) rfl ?_); refine zzd (some 94) rfl rfl Try.func26 (by kernel_rfl) rfl #[] rfl (by (try simp only [zd,ze,zf]); first | done | rfl | (simp only [zg,zh]; rfl)) ?_; (with_reducible refine (L_takes.calls bC  true _ jj.out).mono ?_); rintro e pe ⟨rfl,hb⟩; refine ⟨_,rfl,?_⟩; have be := zzk (zv (by (with_reducible repeat (first | apply zu | apply zt | apply zs)); exact (zx (zr (p := ⟨ad,8,none⟩) (zr (p := ⟨ad,7,none⟩) (zr (p := ⟨ad,6,none⟩) (zr (p := ⟨ad,5,none⟩) (zr (p := ⟨ad,4,none⟩) (zr (p := ⟨ad,3,none⟩) (zr (p := ⟨ad,2,none⟩) (zr (p := ⟨ad,1,none⟩) (zr (p := ⟨ad,0,none⟩) (zy HO_575004.out ai.out (by decide)) (fun _ hk => hk.2) (.int .i64 bg)) (fun _ hk => hk.2) (.int .i64 bk)) (fun _ hk => hk.2) (.int .i64 bl)) (fun _ hk => hk.2) (.int .i64 bq)) (fun _ hk => hk.2) (.slice ck bs.length cl)) (fun _ hk => hk.2) (.slice cn bt.length co)) (fun _ hk => hk.2) (.int .i64 bu)) (fun _ hk => hk.2) (.string bz)) (fun _ hk => hk.2) (.bool bD)) (fun _ h_ => h_.1))) hb); have bf := zzk (zv (by (with_reducible repeat (first | apply zu | apply zt | apply zs)); exact (zx (zr (p := ⟨ad,8,none⟩) (zr (p := ⟨ad,7,none⟩) (zr (p := ⟨ad,6,none⟩) (zr (p := ⟨ad,5,none⟩) (zr (p := ⟨ad,4,none⟩) (zr (p := ⟨ad,3,none⟩) (zr (p := ⟨ad,2,none⟩) (zr (p := ⟨ad,1,none⟩) (zr (p := ⟨ad,0,none⟩) (zy HO_575005.out ai.out (by decide)) (fun _ hk => hk.2) (.int .i64 bg)) (fun _ hk => hk.2) (.int .i64 bk)) (fun _ hk => hk.2) (.int .i64 bl)) (fun _ hk => hk.2) (.int .i64 bq)) (fun _ hk => hk.2) (.slice ck bs.length cl)) (fun _ hk => hk.2) (.slice cn bt.length co)) (fun _ hk => hk.2) (.int .i64 bu)) (fun _ hk => hk.2) (.string bz)) (fun _ hk => hk.2) (.bool bD)) (fun _ h_ => h_.1))) hb); have bi := zzk (zv (by (with_reducible repeat (first | apply zu | apply zt | apply zs)); exact (zx (zr (p := ⟨ad,8,none⟩) (zr (p := ⟨ad,7,none⟩) (zr (p := ⟨ad,6,none⟩) (zr (p := ⟨ad,5,none⟩) (zr (p := ⟨ad,4,none⟩) (zr (p := ⟨ad,3,none⟩) (zr (p := ⟨ad,2,none⟩) (zr (p := ⟨ad,1,none⟩) (zr (p := ⟨ad,0,none⟩) (zy HO_593004.out ai.out (by decide)) (fun _ hk => hk.2) (.int .i64 bg)) (fun _ hk => hk.2) (.int .i64 bk)) (fun _ hk => hk.2) (.int .i64 bl)) (fun _ hk => hk.2) (.int .i64 bq)) (fun _ hk => hk.2) (.slice ck bs.length cl)) (fun _ hk => hk.2) (.slice cn bt.length co)) (fun _ hk => hk.2) (.int .i64 bu)) (fun _ hk => hk.2) (.string bz)) (fun _ hk => hk.2) (.bool bD)) (fun _ h_ => h_.1))) hb); have bj := zzk (zv (by (with_reducible repeat (first | apply zu | apply zt | apply zs)); exact (zx (zr (p := ⟨ad,8,none⟩) (zr (p := ⟨ad,7,none⟩) (zr (p := ⟨ad,6,none⟩) (zr (p := ⟨ad,5,none⟩) (zr (p := ⟨ad,4,none⟩) (zr (p := ⟨ad,3,none⟩) (zr (p := ⟨ad,2,none⟩) (zr (p := ⟨ad,1,none⟩) (zr (p := ⟨ad,0,none⟩) (zy HO_593005.out ai.out (by decide)) (fun _ hk => hk.2) (.int .i64 bg)) (fun _ hk => hk.2) (.int .i64 bk)) (fun _ hk => hk.2) (.int .i64 bl)) (fun _ hk => hk.2) (.int .i64 bq)) (fun _ hk => hk.2) (.slice ck bs.length cl)) (fun _ hk => hk.2) (.slice cn bt.length co)) (fun _ hk => hk.2) (.int .i64 bu)) (fun _ hk => hk.2) (.string bz)) (fun _ hk => hk.2) (.bool bD)) (fun _ h_ => h_.1))) hb); have br := zzk (zv (by (with_reducible repeat (first | apply zu | apply zt | apply zs)); exact (zx (zr (p := ⟨ad,8,none⟩) (zr (p := ⟨ad,7,none⟩) (zr (p := ⟨ad,6,none⟩) (zr (p := ⟨ad,5,none⟩) (zr (p := ⟨ad,4,none⟩) (zr (p := ⟨ad,3,none⟩) (zr (p := ⟨ad,2,none⟩) (zr (p := ⟨ad,1,none⟩) (zr (p := ⟨ad,0,none⟩) (zy bn.out ai.out (by decide)) (fun _ hk => hk.2) (.int .i64 bg)) (fun _ hk => hk.2) (.int .i64 bk)) (fun _ hk => hk.2) (.int .i64 bl)) (fun _ hk => hk.2) (.int .i64 bq)) (fun _ hk => hk.2) (.slice ck bs.length cl)) (fun _ hk => hk.2) (.slice cn bt.length co)) (fun _ hk => hk.2) (.int .i64 bu)) (fun _ hk => hk.2) (.string bz)) (fun _ hk => hk.2) (.bool bD)) (fun _ h_ => h_.1))) hb); have bv := zzk (zv (by (with_reducible repeat (first | apply zu | apply zt | apply zs)); exact (zx (zr (p := ⟨ad,8,none⟩) (zr (p := ⟨ad,7,none⟩) (zr (p := ⟨ad,6,none⟩) (zr (p := ⟨ad,5,none⟩) (zr (p := ⟨ad,4,none⟩) (zr (p := ⟨ad,3,none⟩) (zr (p := ⟨ad,2,none⟩) (zr (p := ⟨ad,1,none⟩) (zr (p := ⟨ad,0,none⟩) (zy bo.out ai.out (by decide)) (fun _ hk => hk.2) (.int .i64 bg)) (fun _ hk => hk.2) (.int .i64 bk)) (fun _ hk => hk.2) (.int .i64 bl)) (fun _ hk => hk.2) (.int .i64 bq)) (fun _ hk => hk.2) (.slice ck bs.length cl)) (fun _ hk => hk.2) (.slice cn bt.length co)) (fun _ hk => hk.2) (.int .i64 bu)) (fun _ hk => hk.2) (.string bz)) (fun _ hk => hk.2) (.bool bD)) (fun _ h_ => h_.1))) hb); have bw := zzk (zo (g := ae) (o := .cells #[.int .i64 al,.int .i64 am,.int .i64 an,.int .i64 ao,.slice aV aj.length aW,.slice aX ak.length aY,.int .i64 ap,.string ag,.bool aq] 34 (0,0)) (by (with_reducible repeat (first | refine zj ?_ _ | refine zl ?_ | refine zk ?_ _)); refine zn ?_ bb.out _; (with_reducible repeat (first | refine zj ?_ _ | refine zl ?_ | refine zk ?_ _)); refine zn ?_ bb.out _; (with_reducible repeat (first | refine zj ?_ _ | refine zl ?_ | refine zk ?_ _)); refine zn ?_ bb.out _; (with_reducible repeat (first | refine zj ?_ _ | refine zl ?_ | refine zk ?_ _)); refine zn ?_ bb.out _; (with_reducible repeat (first | refine zj ?_ _ | refine zl ?_ | refine zk ?_ _)); refine zn ?_ bb.out _; (with_reducible repeat (first | refine zj ?_ _ | refine zl ?_ | refine zk ?_ _)); refine zn ?_ bb.out _; (with_reducible repeat (first | refine zj ?_ _ | refine zl ?_ | refine zk ?_ _)); refine zn ?_ bb.out _; (with_reducible repeat (first | refine zj ?_ _ | refine zl ?_ | refine zk ?_ _)); refine zn ?_ bb.out _; (with_reducible repeat (first | refine zj ?_ _ | refine zl ?_ | refine zk ?_ _)); refine zn ?_ bb.out _; (with_reducible repeat (first | refine zj ?_ _ | refine zl ?_ | refine zk ?_ _)); exact aa.out) hb); have bB := zzk (zo (g := af) (o := .cells #[.int .i64 ax,.int .i64 ay,.int .i64 az,.int .i64 aB,.slice aS av.length aR,.slice aU aw.length aT,.int .i64 aC,.string aA,.bool aE] 34 (0,0)) (by (with_reducible repeat (first | refine zj ?_ _ | refine zl ?_ | refine zk ?_ _)); refine zn ?_ bc.out _; (with_reducible repeat (first | refine zj ?_ _ | refine zl ?_ | refine zk ?_ _)); refine zn ?_ bc.out _; (with_reducible repeat (first | refine zj ?_ _ | refine zl ?_ | refine zk ?_ _)); refine zn ?_ bc.out _; (with_reducible repeat (first | refine zj ?_ _ | refine zl ?_ | refine zk ?_ _)); refine zn ?_ bc.out _; (with_reducible repeat (first | refine zj ?_ _ | refine zl ?_ | refine zk ?_ _)); refine zn ?_ bc.out _; (with_reducible repeat (first | refine zj ?_ _ | refine zl ?_ | refine zk ?_ _)); refine zn ?_ bc.out _; (with_reducible repeat (first | refine zj ?_ _ | refine zl ?_ | refine zk ?_ _)); refine zn ?_ bc.out _; (with_reducible repeat (first | refine zj ?_ _ | refine zl ?_ | refine zk ?_ _)); refine zn ?_ bc.out _; (with_reducible repeat (first | refine zj ?_ _ | refine zl ?_ | refine zk ?_ _)); refine zn ?_ bc.out _; (with_reducible repeat (first | refine zj ?_ _ | refine zl ?_ | refine zk ?_ _)); exact ac.out) hb); have bH := zzk (zo (g := ab) (o := .cells #[.int .i64 aD,.int .i64 aF,.int .i64 aH,.int .i64 aK,.slice aM aG.length aL,.slice aP aJ.length aN,.int .i64 ba,.string bh,.bool bm] 34 (0,0)) (by (with_reducible repeat (first | refine zj ?_ _ | refine zl ?_ | refine zk ?_ _)); refine zn ?_ bd.out _; (with_reducible repeat (first | refine zj ?_ _ | refine zl ?_ | refine zk ?_ _)); refine zn ?_ bd.out _; (with_reducible repeat (first | refine zj ?_ _ | refine zl ?_ | refine zk ?_ _)); refine zn ?_ bd.out _; (with_reducible repeat (first | refine zj ?_ _ | refine zl ?_ | refine zk ?_ _)); refine zn ?_ bd.out _; (with_reducible repeat (first | refine zj ?_ _ | refine zl ?_ | refine zk ?_ _)); refine zn ?_ bd.out _; (with_reducible repeat (first | refine zj ?_ _ | refine zl ?_ | refine zk ?_ _)); refine zn ?_ bd.out _; (with_reducible repeat (first | refine zj ?_ _ | refine zl ?_ | refine zk ?_ _)); refine zn ?_ bd.out _; (with_reducible repeat (first | refine zj ?_ _ | refine zl ?_ | refine zk ?_ _)); refine zn ?_ bd.out _; (with_reducible repeat (first | refine zj ?_ _ | refine zl ?_ | refine zk ?_ _)); refine zn ?_ bd.out _; (with_reducible repeat (first | refine zj ?_ _ | refine zl ?_ | refine zk ?_ _)); exact ah.out) hb); have bJ := zzk (zo (g := ad) (o := .cells #[.int .i64 bg,.int .i64 bk,.int .i64 bl,.int .i64 bq,.slice ck bs.length cl,.slice cn bt.length co,.int .i64 bu,.string bz,.bool bD] 34 (0,0)) (by (with_reducible repeat (first | refine zj ?_ _ | refine zl ?_ | refine zk ?_ _)); refine zp (cs := #[.int .i64 bg,.int .i64 bk,.int .i64 bl,.int .i64 bq,.slice ck bs.length cl,.slice cn bt.length co,.int .i64 bu,.string bz,.bool false]) ?_ 8 _ rfl; (with_reducible repeat (first | refine zj ?_ _ | refine zl ?_ | refine zk ?_ _)); refine zp (cs := #[.int .i64 bg,.int .i64 bk,.int .i64 bl,.int .i64 bq,.slice ck bs.length cl,.slice cn bt.length co,.int .i64 bu,.string (⟨#[]⟩ : ByteArray),.bool false]) ?_ 7 _ rfl; (with_reducible repeat (first | refine zj ?_ _ | refine zl ?_ | refine zk ?_ _)); refine zp (cs := #[.int .i64 bg,.int .i64 bk,.int .i64 bl,.int .i64 bq,.slice ck bs.length cl,.slice cn bt.length co,.int .i64 0,.string (⟨#[]⟩ : ByteArray),.bool false]) ?_ 6 _ rfl; (with_reducible repeat (first | refine zj ?_ _ | refine zl ?_ | refine zk ?_ _)); refine zp (cs := #[.int .i64 bg,.int .i64 bk,.int .i64 bl,.int .i64 bq,.slice ck bs.length cl,.slice none 0 0,.int .i64 0,.string (⟨#[]⟩ : ByteArray),.bool false]) ?_ 5 _ rfl; (with_reducible repeat (first | refine zj ?_ _ | refine zl ?_ | refine zk ?_ _)); refine zp (cs := #[.int .i64 bg,.int .i64 bk,.int .i64 bl,.int .i64 bq,.slice none 0 0,.slice none 0 0,.int .i64 0,.string (⟨#[]⟩ : ByteArray),.bool false]) ?_ 4 _ rfl; (with_reducible repeat (first | refine zj ?_ _ | refine zl ?_ | refine zk ?_ _)); refine zp (cs := #[.int .i64 bg,.int .i64 bk,.int .i64 bl,.int .i64 0,.slice none 0 0,.slice none 0 0,.int .i64 0,.string (⟨#[]⟩ : ByteArray),.bool false]) ?_ 3 _ rfl; (with_reducible repeat (first | refine zj ?_ _ | refine zl ?_ | refine zk ?_ _)); refine zp (cs := #[.int .i64 bg,.int .i64 bk,.int .i64 0,.int .i64 0,.slice none 0 0,.slice none 0 0,.int .i64 0,.string (⟨#[]⟩ : ByteArray),.bool false]) ?_ 2 _ rfl; (with_reducible repeat (first | refine zj ?_ _ | refine zl ?_ | refine zk ?_ _)); refine zp (cs := #[.int .i64 bg,.int .i64 0,.int .i64 0,.int .i64 0,.slice none 0 0,.slice none 0 0,.int .i64 0,.string (⟨#[]⟩ : ByteArray),.bool false]) ?_ 1 _ rfl; (with_reducible repeat (first | refine zj ?_ _ | refine zl ?_ | refine zk ?_ _)); refine zp (cs := #[.int .i64 0,.int .i64 0,.int .i64 0,.int .i64 0,.slice none 0 0,.slice none 0 0,.int .i64 0,.string (⟨#[]⟩ : ByteArray),.bool false]) ?_ 0 _ rfl; (with_reducible repeat (first | refine zj ?_ _ | refine zl ?_ | refine zk ?_ _)); exact ai.out) hb); have bF := zzk (Zs (by repeat (first | (with_reducible first | exact HB.out | apply Zq | apply Zp | apply Zo | refine Zn ?_ aI.out | refine Zn ?_ aZ.out | refine Zn ?_ bx.out | refine Zn ?_ cu.out) | exact HB.out)) hb); clear HO_575004; clear HO_575005; clear HO_593004; clear HO_593005; clear bn; clear bo; clear aa; clear ac; clear ah; clear ai; clear HB; have HO_575004 := be; have HO_575005 := bf; have HO_593004 := bi; have HO_593005 := bj; have bn := br; have bo := bv; have aa := bw; have ac := bB; have ah := bH; have ai := bJ; have HB := bF; clear be bf bi bj br bv bw bB bH bJ bF; (try clear hb); (try clear hb2); (try clear hk); (try clear hi)) | (go_at_call 18; (with_reducible refine (L_begins.calls bC  true _ jk.out).mono ?_); rintro e bX ⟨rfl,hb⟩; have be := zzk (zv (by (with_reducible repeat (first | apply zu | apply zt | apply zs)); exact HO_575004.out) hb); have bf := zzk (zv (by (with_reducible repeat (first | apply zu | apply zt | apply zs)); exact HO_575005.out) hb); have bi := zzk (zv (by (with_reducible repeat (first | apply zu | apply zt | apply zs)); exact HO_593004.out) hb); have bj := zzk (zv (by (with_reducible repeat (first | apply zu | apply zt | apply zs)); exact HO_593005.out) hb); have br := zzk (zv (by (with_reducible repeat (first | apply zu | apply zt | apply zs)); exact bn.out) hb); have bv := zzk (zv (by (with_reducible repeat (first | apply zu | apply zt | apply zs)); exact bo.out) hb); have bw := zzk (zo (g := ae) (o := .cells #[.int .i64 al,.int .i64 am,.int .i64 an,.int .i64 ao,.slice aV aj.length aW,.slice aX ak.length aY,.int .i64 ap,.string ag,.bool aq] 34 (0,0)) (by (with_reducible repeat (first | refine zj ?_ _ | refine zl ?_ | refine zk ?_ _)); exact aa.out) hb); have bB := zzk (zo (g := af) (o := .cells #[.int .i64 ax,.int .i64 ay,.int .i64 az,.int .i64 aB,.slice aS av.length aR,.slice aU aw.length aT,.int .i64 aC,.string aA,.bool aE] 34 (0,0)) (by (with_reducible repeat (first | refine zj ?_ _ | refine zl ?_ | refine zk ?_ _)); exact ac.out) hb); have bH := zzk (zo (g := ab) (o := .cells #[.int .i64 aD,.int .i64 aF,.int .i64 aH,.int .i64 aK,.slice aM aG.length aL,.slice aP aJ.length aN,.int .i64 ba,.string bh,.bool bm] 34 (0,0)) (by (with_reducible repeat (first | refine zj ?_ _ | refine zl ?_ | refine zk ?_ _)); exact ah.out) hb); have bJ := zzk (zo (g := ad) (o := .cells #[.int .i64 bg,.int .i64 bk,.int .i64 bl,.int .i64 bq,.slice ck bs.length cl,.slice cn bt.length co,.int .i64 bu,.string bz,.bool bD] 34 (0,0)) (by (with_reducible repeat (first | refine zj ?_ _ | refine zl ?_ | refine zk ?_ _)); exact ai.out) hb); have bF := zzk (Zs (by repeat (first | (with_reducible first | exact HB.out | apply Zq | apply Zp | apply Zo | refine Zn ?_ aI.out | refine Zn ?_ aZ.out | refine Zn ?_ bx.out | refine Zn ?_ cu.out) | exact HB.out)) hb); clear HO_575004; clear HO_575005; clear HO_593004; clear HO_593005; clear bn; clear bo; clear aa; clear ac; clear ah; clear ai; clear HB; have HO_575004 := be; have HO_575005 := bf; have HO_593004 := bi; have HO_593005 := bj; have bn := br; have bo := bv; have aa := bw; have ac := bB; have ah := bH; have ai := bJ; have HB := bF; clear be bf bi bj br bv bw bB bH bJ bF; (try clear hb); (try clear hb2); (try clear hk); (try clear hi); have nF := au.out; have nG := cB.out; have jo : bX.cell? ⟨af,0,none⟩ = some (.int .i64 ax) := (zi ac.out 0).trans rfl; have jp : bX.cell? ⟨af,1,none⟩ = some (.int .i64 ay) := (zi ac.out 1).trans rfl; have jq : bX.cell? ⟨af,2,none⟩ = some (.int .i64 az) := (zi ac.out 2).trans rfl; have jr : bX.cell? ⟨af,3,none⟩ = some (.int .i64 aB) := (zi ac.out 3).trans rfl; have js : bX.cell? ⟨af,4,none⟩ = some (.slice aS av.length aR) := (zi ac.out 4).trans rfl; have jt : bX.cell? ⟨af,5,none⟩ = some (.slice aU aw.length aT) := (zi ac.out 5).trans rfl; have ju : bX.cell? ⟨af,6,none⟩ = some (.int .i64 aC) := (zi ac.out 6).trans rfl; have jv : bX.cell? ⟨af,7,none⟩ = some (.string aA) := (zi ac.out 7).trans rfl; have jw : bX.cell? ⟨af,8,none⟩ = some (.bool aE) := (zi ac.out 8).trans rfl; have jx := zm ac.out 0; have jy := zm ac.out 1; have jz := zm ac.out 2; have jA := zm ac.out 3; have jB := zm ac.out 4; have jC := zm ac.out 5; have jD := zm ac.out 6; have jE := zm ac.out 7; have jF := zm ac.out 8; have jG : bX.cell? ⟨ae,0,none⟩ = some (.int .i64 al) := (zi aa.out 0).trans rfl; have jH : bX.cell? ⟨ae,1,none⟩ = some (.int .i64 am) := (zi aa.out 1).trans rfl; have jI : bX.cell? ⟨ae,2,none⟩ = some (.int .i64 an) := (zi aa.out 2).trans rfl; have jJ : bX.cell? ⟨ae,3,none⟩ = some (.int .i64 ao) := (zi aa.out 3).trans rfl; have jK : bX.cell? ⟨ae,4,none⟩ = some (.slice aV aj.length aW) := (zi aa.out 4).trans rfl; have jL : bX.cell? ⟨ae,5,none⟩ = some (.slice aX ak.length aY) := (zi aa.out 5).trans rfl; have jM : bX.cell? ⟨ae,6,none⟩ = some (.int .i64 ap) := (zi aa.out 6).trans rfl; have jN : bX.cell? ⟨ae,7,none⟩ = some (.string ag) := (zi aa.out 7).trans rfl; have jO : bX.cell? ⟨ae,8,none⟩ = some (.bool aq) := (zi aa.out 8).trans rfl; have jP := zm aa.out 0; have jQ := zm aa.out 1; have jR := zm aa.out 2; have jS := zm aa.out 3; have jT := zm aa.out 4; have jU := zm aa.out 5; have jV := zm aa.out 6; have jW := zm aa.out 7; have jX := zm aa.out 8) | (go_at_call 17; (with_reducible refine (chunk_Check.calls bC ax ay az aB _ _ av _ _ aw aC aA aE bS _ ?side1 ?side2 ?side3 ?side4 jl.out).mono ?_); (case side1 => repeat (first | exact (zw HO_575004.out).2.2 | (with_reducible refine Zk ?_ _) | (with_reducible refine Zj ?_ _) | (with_reducible refine Zl ?_))); (case side2 => exact (zw HO_575004.out).2.1); (case side3 => repeat (first | exact (zw HO_575005.out).2.2 | (with_reducible refine Zk ?_ _) | (with_reducible refine Zj ?_ _) | (with_reducible refine Zl ?_))); (case side4 => exact (zw HO_575005.out).2.1); rintro e bY ⟨rfl,hb⟩; have be := zzk (zv (by (with_reducible repeat (first | apply zu | apply zt | apply zs)); exact HO_575004.out) hb); have bf := zzk (zv (by (with_reducible repeat (first | apply zu | apply zt | apply zs)); exact HO_575005.out) hb); have bi := zzk (zv (by (with_reducible repeat (first | apply zu | apply zt | apply zs)); exact HO_593004.out) hb); have bj := zzk (zv (by (with_reducible repeat (first | apply zu | apply zt | apply zs)); exact HO_593005.out) hb); have br := zzk (zv (by (with_reducible repeat (first | apply zu | apply zt | apply zs)); exact bn.out) hb); have bv := zzk (zv (by (with_reducible repeat (first | apply zu | apply zt | apply zs)); exact bo.out) hb); have bw := zzk (zo (g := ae) (o := .cells #[.int .i64 al,.int .i64 am,.int .i64 an,.int .i64 ao,.slice aV aj.length aW,.slice aX ak.length aY,.int .i64 ap,.string ag,.bool aq] 34 (0,0)) (by (with_reducible repeat (first | refine zj ?_ _ | refine zl ?_ | refine zk ?_ _)); exact aa.out) hb); have bB := zzk (zo (g := af) (o := .cells #[.int .i64 ax,.int .i64 ay,.int .i64 az,.int .i64 aB,.slice aS av.length aR,.slice aU aw.length aT,.int .i64 aC,.string aA,.bool aE] 34 (0,0)) (by (with_reducible repeat (first | refine zj ?_ _ | refine zl ?_ | refine zk ?_ _)); exact ac.out) hb); have bH := zzk (zo (g := ab) (o := .cells #[.int .i64 aD,.int .i64 aF,.int .i64 aH,.int .i64 aK,.slice aM aG.length aL,.slice aP aJ.length aN,.int .i64 ba,.string bh,.bool bm] 34 (0,0)) (by (with_reducible repeat (first | refine zj ?_ _ | refine zl ?_ | refine zk ?_ _)); exact ah.out) hb); have bJ := zzk (zo (g := ad) (o := .cells #[.int .i64 bg,.int .i64 bk,.int .i64 bl,.int .i64 bq,.slice ck bs.length cl,.slice cn bt.length co,.int .i64 bu,.string bz,.bool bD] 34 (0,0)) (by (with_reducible repeat (first | refine zj ?_ _ | refine zl ?_ | refine zk ?_ _)); exact ai.out) hb); have bF := zzk (Zs (by repeat (first | (with_reducible first | exact HB.out | apply Zq | apply Zp | apply Zo | refine Zn ?_ aI.out | refine Zn ?_ aZ.out | refine Zn ?_ bx.out | refine Zn ?_ cu.out) | exact HB.out)) hb); clear HO_575004; clear HO_575005; clear HO_593004; clear HO_593005; clear bn; clear bo; clear aa; clear ac; clear ah; clear ai; clear HB; have HO_575004 := be; have HO_575005 := bf; have HO_593004 := bi; have HO_593005 := bj; have bn := br; have bo := bv; have aa := bw; have ac := bB; have ah := bH; have ai := bJ; have HB := bF; clear be bf bi bj br bv bw bB bH bJ bF; (try clear hb); (try clear hb2); (try clear hk); (try clear hi); have jY : bY.cell? ⟨ae,0,none⟩ = some (.int .i64 al) := (zi aa.out 0).trans rfl; have jZ : bY.cell? ⟨ae,1,none⟩ = some (.int .i64 am) := (zi aa.out 1).trans rfl; have ka : bY.cell? ⟨ae,2,none⟩ = some (.int .i64 an) := (zi aa.out 2).trans rfl; have kb : bY.cell? ⟨ae,3,none⟩ = some (.int .i64 ao) := (zi aa.out 3).trans rfl; have kc : bY.cell? ⟨ae,4,none⟩ = some (.slice aV aj.length aW) := (zi aa.out 4).trans rfl; have ke : bY.cell? ⟨ae,5,none⟩ = some (.slice aX ak.length aY) := (zi aa.out 5).trans rfl; have kf : bY.cell? ⟨ae,6,none⟩ = some (.int .i64 ap) := (zi aa.out 6).trans rfl; have kg : bY.cell? ⟨ae,7,none⟩ = some (.string ag) := (zi aa.out 7).trans rfl; have kh : bY.cell? ⟨ae,8,none⟩ = some (.bool aq) := (zi aa.out 8).trans rfl; have ki := zm aa.out 0; have kj := zm aa.out 1; have kk := zm aa.out 2; have kl := zm aa.out 3; have km := zm aa.out 4; have ko := zm aa.out 5; have kp := zm aa.out 6; have kr := zm aa.out 7; have kt := zm aa.out 8; have ku : bY.cell? ⟨ad,0,none⟩ = some (.int .i64 bg) := (zi ai.out 0).trans rfl; have kv : bY.cell? ⟨ad,1,none⟩ = some (.int .i64 bk) := (zi ai.out 1).trans rfl; have kw : bY.cell? ⟨ad,2,none⟩ = some (.int .i64 bl) := (zi ai.out 2).trans rfl; have ky : bY.cell? ⟨ad,3,none⟩ = some (.int .i64 bq) := (zi ai.out 3).trans rfl; have kz : bY.cell? ⟨ad,4,none⟩ = some (.slice ck bs.length cl) := (zi ai.out 4).trans rfl; have kA : bY.cell? ⟨ad,5,none⟩ = some (.slice cn bt.length co) := (zi ai.out 5).trans rfl; have kB : bY.cell? ⟨ad,6,none⟩ = some (.int .i64 bu) := (zi ai.out 6).trans rfl; have kC : bY.cell? ⟨ad,7,none⟩ = some (.string bz) := (zi ai.out 7).trans rfl; have kD : bY.cell? ⟨ad,8,none⟩ = some (.bool bD) := (zi ai.out 8).trans rfl; have kE := zm ai.out 0; have kF := zm ai.out 1; have kG := zm ai.out 2; have kH := zm ai.out 3; have kI := zm ai.out 4; have kJ := zm ai.out 5; have kK := zm ai.out 6; have kL := zm ai.out 7; have kM := zm ai.out 8) | (go_at_call 16; (with_reducible refine (r16_Same.calls bC bg bk bl bq _ _ bs _ _ bt bu bz bD al am an ao _ _ aj _ _ ak ap ag aq bT _ ?side1 ?side2 ?side3 ?side4 ?side5 ?side6 ?side7 ?side8 nE.out).mono ?_); (case side1 => repeat (first | exact (zw bn.out).2.2 | (with_reducible refine Zk ?_ _) | (with_reducible refine Zj ?_ _) | (with_reducible refine Zl ?_))); (case side2 => exact (zw bn.out).2.1); (case side3 => repeat (first | exact (zw bo.out).2.2 | (with_reducible refine Zk ?_ _) | (with_reducible refine Zj ?_ _) | (with_reducible refine Zl ?_))); (case side4 => exact (zw bo.out).2.1); (case side5 => repeat (first | exact (Zm cM.out HB.out) | (with_reducible refine Zk ?_ _) | (with_reducible refine Zj ?_ _) | (with_reducible refine Zl ?_))); (case side6 => exact cN.out); (case side7 => repeat (first | exact (Zm cO.out HB.out) | (with_reducible refine Zk ?_ _) | (with_reducible refine Zj ?_ _) | (with_reducible refine Zl ?_))); (case side8 => exact cP.out); rintro e oN ⟨rfl,hb⟩; have be := zzk (zv (by (with_reducible repeat (first | apply zu | apply zt | apply zs)); exact HO_575004.out) hb); have bf := zzk (zv (by (with_reducible repeat (first | apply zu | apply zt | apply zs)); exact HO_575005.out) hb); have bi := zzk (zv (by (with_reducible repeat (first | apply zu | apply zt | apply zs)); exact HO_593004.out) hb); have bj := zzk (zv (by (with_reducible repeat (first | apply zu | apply zt | apply zs)); exact HO_593005.out) hb); have br := zzk (zv (by (with_reducible repeat (first | apply zu | apply zt | apply zs)); exact bn.out) hb); have bv := zzk (zv (by (with_reducible repeat (first | apply zu | apply zt | apply zs)); exact bo.out) hb); have bw := zzk (zo (g := ae) (o := .cells #[.int .i64 al,.int .i64 am,.int .i64 an,.int .i64 ao,.slice aV aj.length aW,.slice aX ak.length aY,.int .i64 ap,.string ag,.bool aq] 34 (0,0)) (by (with_reducible repeat (first | refine zj ?_ _ | refine zl ?_ | refine zk ?_ _)); exact aa.out) hb); have bB := zzk (zo (g := af) (o := .cells #[.int .i64 ax,.int .i64 ay,.int .i64 az,.int .i64 aB,.slice aS av.length aR,.slice aU aw.length aT,.int .i64 aC,.string aA,.bool aE] 34 (0,0)) (by (with_reducible repeat (first | refine zj ?_ _ | refine zl ?_ | refine zk ?_ _)); exact ac.out) hb); have bH := zzk (zo (g := ab) (o := .cells #[.int .i64 aD,.int .i64 aF,.int .i64 aH,.int .i64 aK,.slice aM aG.length aL,.slice aP aJ.length aN,.int .i64 ba,.string bh,.bool bm] 34 (0,0)) (by (with_reducible repeat (first | refine zj ?_ _ | refine zl ?_ | refine zk ?_ _)); exact ah.out) hb); have bJ := zzk (zo (g := ad) (o := .cells #[.int .i64 bg,.int .i64 bk,.int .i64 bl,.int .i64 bq,.slice ck bs.length cl,.slice cn bt.length co,.int .i64 bu,.string bz,.bool bD] 34 (0,0)) (by (with_reducible repeat (first | refine zj ?_ _ | refine zl ?_ | refine zk ?_ _)); exact ai.out) hb); have bF := zzk (Zs (by repeat (first | (with_reducible first | exact HB.out | apply Zq | apply Zp | apply Zo | refine Zn ?_ aI.out | refine Zn ?_ aZ.out | refine Zn ?_ bx.out | refine Zn ?_ cu.out) | exact HB.out)) hb); clear HO_575004; clear HO_575005; clear HO_593004; clear HO_593005; clear bn; clear bo; clear aa; clear ac; clear ah; clear ai; clear HB; have HO_575004 := be; have HO_575005 := bf; have HO_593004 := bi; have HO_593005 := bj; have bn := br; have bo := bv; have aa := bw; have ac := bB; have ah := bH; have ai := bJ; have HB := bF; clear be bf bi bj br bv bw bB bH bJ bF; (try clear hb); (try clear hb2); (try clear hk); (try clear hi)))
                 go_ret
                 exact ⟨by first | rfl | (simp [zzl,zzm] <;> rfl) | (simp [*,zzl,zzm] <;> rfl),by repeat (first | (with_reducible first | exact HB.out | apply Zq | apply Zp | apply Zo | refine Zn ?_ aI.out | refine Zn ?_ aZ.out | refine Zn ?_ bx.out | refine Zn ?_ cu.out) | exact HB.out)⟩
               ·
                rw [if_neg fc] at H
                exact absurd H (by simp)
              ·
               rw [if_neg fn] at H
               exact absurd H (by simp)
             ·
              rw [if_neg fm] at H
              exact absurd H (by simp)
            ·
             rw [if_neg fl] at H
             exact absurd H (by simp)
           ·
            replace fD := Bool.eq_false_iff.mpr fD
            subst fD
            have H1 : (none) = some r := by rw [if_neg (show ¬ (false = true) by decide)] at H; exact H
            clear H
            have H := H1
            clear H1
            exact absurd H (by simp)
          ·
           replace fC := Bool.eq_false_iff.mpr fC
           subst fC
           have H1 : (none) = some r := by rw [if_neg (show ¬ (false = true) by decide)] at H; exact H
           clear H
           have H := H1
           clear H1
           exact absurd H (by simp)
end Go.Proofs.Ytpagkmdlmhdenaa.PAll
