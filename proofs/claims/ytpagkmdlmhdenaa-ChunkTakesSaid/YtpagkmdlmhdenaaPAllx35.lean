-- Written by a program of the session.
import Derived.Test.YtpagkmdlmhdenaaAlAll
import Derived.Test.YtpagkmdlmhdenaaPAllx0
import Derived.Test.YtpagkmdlmhdenaaPAllx2
import Derived.Test.YtpagkmdlmhdenaaPAllx23
import Derived.Test.YtpagkmdlmhdenaaPAllx25
import Derived.Test.YtpagkmdlmhdenaaPAllx29
import Derived.Test.YtpagkmdlmhdenaaPAllx30
import Derived.Test.YtpagkmdlmhdenaaPAllx31
import Derived.Test.YtpagkmdlmhdenaaPAllx32
import Derived.Test.YtpagkmdlmhdenaaPAllx33
import Derived.Test.YtpagkmdlmhdenaaPAllx34
namespace Go.Proofs.Ytpagkmdlmhdenaa.PAll
open Go.RowKit Go.Proofs.YtpagkmdlmhdenaaW.PrintWords Go.Proofs.YtpagkmdlmhdenaaW.PrintLast Go.Proofs.YtpagkmdlmhdenaaW.PrintMore
attribute [local go_sem] max2_int min2_int max_two min_two max_three min_three max_four min_four   -- for this text's walks alone
set_option linter.unusedVariables false
set_option linter.unusedSimpArgs false
/-! ### L_ChunkTakes: function 5 -/
mutual
def L_ChunkTakes.j0 : Nat → Int → ByteArray → Bool → Int → Int → Int → Int → List Int → List Int → Int → ByteArray → Bool → Option (Bool)
 | 0,_,_,_,_,_,_,_,_,_,_,_,_ => none
 | k + 1,x1,x2,oA,cY,cZ,da,db,dc,dd,de,df,dg => if oA = true then (some true) else ((r16_Own.f cY cZ da db dc dd de df dg).bind fun aK => ((chunk_Take.f k cY cZ da db dc dd de df dg x1 x2).bind fun aE => ((r16_Take.f k aK.1 aK.2.1 aK.2.2.1 aK.2.2.2.1 aK.2.2.2.2.1 aK.2.2.2.2.2.1 aK.2.2.2.2.2.2.1 aK.2.2.2.2.2.2.2.1 aK.2.2.2.2.2.2.2.2 x1 x2).bind fun aW => ((chunk_Whole.f k cY cZ da db dc dd de df dg).bind fun aG => ((r16_Whole.f k aK.1 aK.2.1 aK.2.2.1 aK.2.2.2.1 aK.2.2.2.2.1 aK.2.2.2.2.2.1 aK.2.2.2.2.2.2.1 aK.2.2.2.2.2.2.2.1 aK.2.2.2.2.2.2.2.2).bind fun bn => (if aE.2.2.2.2.2.2.2.2.2.2 = aW.2.2.2.2.2.2.2.2.2.2 then (if (aE.2.2.2.2.2.2.2.2.2.1 == aW.2.2.2.2.2.2.2.2.2.1) = true then ((r16_Same.f k aE.1 aE.2.1 aE.2.2.1 aE.2.2.2.1 aE.2.2.2.2.1 aE.2.2.2.2.2.1 aE.2.2.2.2.2.2.1 aE.2.2.2.2.2.2.2.1 aE.2.2.2.2.2.2.2.2.1 aW.1 aW.2.1 aW.2.2.1 aW.2.2.2.1 aW.2.2.2.2.1 aW.2.2.2.2.2.1 aW.2.2.2.2.2.2.1 aW.2.2.2.2.2.2.2.1 aW.2.2.2.2.2.2.2.2.1).bind fun dn => (if dn = true then (if aG.2.2.2.2.2 = bn.2.2.2.2.2 then ((r08_SameSnap.f k aG.1 aG.2.1 aG.2.2.1 aG.2.2.2.1 aG.2.2.2.2.1 bn.1 bn.2.1 bn.2.2.1 bn.2.2.2.1 bn.2.2.2.2.1).bind fun cA => (L_ChunkTakes.l0 k cA 0 cY cZ da db dc dd de df dg aK.1 aK.2.1 aK.2.2.1 aK.2.2.2.1 aK.2.2.2.2.1 aK.2.2.2.2.2.1 aK.2.2.2.2.2.2.1 aK.2.2.2.2.2.2.2.1 aK.2.2.2.2.2.2.2.2 aE.1 aE.2.1 aE.2.2.1 aE.2.2.2.1 aE.2.2.2.2.1 aE.2.2.2.2.2.1 aE.2.2.2.2.2.2.1 aE.2.2.2.2.2.2.2.1 aE.2.2.2.2.2.2.2.2.1 aG.1 aG.2.1 aG.2.2.1 aG.2.2.2.1 aG.2.2.2.2.1)) else (none)) else (none))) else (none)) else (none)))))))
def L_ChunkTakes.l0 : Nat → Bool → Int → Int → Int → Int → Int → List Int → List Int → Int → ByteArray → Bool → Int → Int → Int → Int → List Int → List Int → Int → ByteArray → Bool → Int → Int → Int → Int → List Int → List Int → Int → ByteArray → Bool → Int → Int → List Int → List Int → ByteArray → Option (Bool)
 | 0,_,_,_,_,_,_,_,_,_,_,_,_,_,_,_,_,_,_,_,_,_,_,_,_,_,_,_,_,_,_,_,_,_,_ => none
 | k + 1,lp,lx,cY,cZ,da,db,dc,dd,de,df,dg,dJ,dK,dL,dM,dN,dO,dP,dQ,dR,lQ,lR,lS,lT,fS,lU,lV,lW,lX,em,en,dS,eo,ep => if lx < (fS.length : Int) then (if 0 ≤ lx then (L_ChunkTakes.l0 k lp (wrap64 (lx + 1)) cY cZ da db dc dd de df dg dJ dK dL dM dN dO dP dQ dR lQ lR lS lT (fS.set (lx : Int).toNat 77) lU lV lW lX em en dS eo ep) else (none)) else (L_ChunkTakes.l1 k lp 0 cY cZ da db dc dd de df dg dJ dK dL dM dN dO dP dQ dR em en dS eo ep)
def L_ChunkTakes.l1 : Nat → Bool → Int → Int → Int → Int → Int → List Int → List Int → Int → ByteArray → Bool → Int → Int → Int → Int → List Int → List Int → Int → ByteArray → Bool → Int → Int → List Int → List Int → ByteArray → Option (Bool)
 | 0,_,_,_,_,_,_,_,_,_,_,_,_,_,_,_,_,_,_,_,_,_,_,_,_,_ => none
 | k + 1,lp,ly,cY,cZ,da,db,dc,dd,de,df,dg,dJ,dK,dL,dM,dN,dO,dP,dQ,dR,em,en,dS,eo,ep => if ly < (dS.length : Int) then (if 0 ≤ ly then (L_ChunkTakes.l1 k lp (wrap64 (ly + 1)) cY cZ da db dc dd de df dg dJ dK dL dM dN dO dP dQ dR em en (dS.set (ly : Int).toNat 77) eo ep) else (none)) else ((L_takes.f k).bind fun lj => (if lj = true then (if lp = true then ((r16_Same.f k cY cZ da db dc dd de df dg dJ dK dL dM dN dO dP dQ dR).bind fun dI => (some dI)) else (none)) else (none)))
end
def L_ChunkTakes.f (k : Nat) (ay : Int) (az : Int) (aA : Int) (aB : Int) (aw : List Int) (ax : List Int) (aC : Int) (av : ByteArray) (aD : Bool) (a1 : Int) (a2 : ByteArray) : Option (Bool) := if (av.size : Int) > 262144 then (L_ChunkTakes.j0 k a1 a2 true ay az aA aB aw ax aC av aD) else (if (a2.size : Int) > 262144 then (L_ChunkTakes.j0 k a1 a2 true ay az aA aB aw ax aC av aD) else ((r08_BigCouncil.f aw ax).bind fun es => (L_ChunkTakes.j0 k a1 a2 es ay az aA aB aw ax aC av aD)))
set_option maxHeartbeats 8000000 in
set_option maxRecDepth 100000 in
theorem L_ChunkTakes.calls (k : Nat) (ay : Int) (az : Int) (aA : Int) (aB : Int) (bz : Option Addr) (bA : Nat) (aw : List Int) (bB : Option Addr) (bC : Nat) (ax : List Int) (aC : Int) (av : ByteArray) (aD : Bool) (a1 : Int) (a2 : ByteArray) (r : Bool) (w : World) (lz : Kd.C (Kd.int .i64) w bz aw.length aw) (lA : aw.length ≤ bA) (lB : Kd.C (Kd.int .i64) w bB ax.length ax) (lC : ax.length ≤ bC) (h : L_ChunkTakes.f k ay az aA aB aw ax aC av aD a1 a2 = some r) :
 Calls Try.prog 5 #[.agg #[.int .i64 ay,.int .i64 az,.int .i64 aA,.int .i64 aB,.slice bz aw.length bA,.slice bB ax.length bC,.int .i64 aC,.string av,.bool aD],.int .i64 a1,.string a2] w fun e w' => e = .returned (.bool r) ∧ Below w.heap.size w w' := by
 have hu34 := Try.underlying34
 have hu24 := Try.underlying24
 have hu26 := Try.underlying26
 have ev := zzk lz
 have ew := zzk lA
 clear lz lA
 have ex := zzk lB
 have ey := zzk lC
 clear lB lC
 have HB := zzk (Below.refl w.heap.size w)
 have H : (if (av.size : Int) > 262144 then (L_ChunkTakes.j0 k a1 a2 true ay az aA aB aw ax aC av aD) else (if (a2.size : Int) > 262144 then (L_ChunkTakes.j0 k a1 a2 true ay az aA aB aw ax aC av aD) else ((r08_BigCouncil.f aw ax).bind fun es => (L_ChunkTakes.j0 k a1 a2 es ay az aA aB aw ax aC av aD)))) = some r := h
 clear h
 have mM := zzk H
 clear H
 go_enter Try.func5,Try.ntmps5
 go_upto_region 1 with (first | ((with_reducible refine Zy (N := 3) rfl ?_); (try (refine Zz (by rfl) ?_; dsimp only)); refine zzc ?hg (N := 3) ?hd (cs := #[.int .i64 ay,.int .i64 az,.int .i64 aA,.int .i64 aB,.slice bz aw.length bA,.slice bB ax.length bC,.int .i64 aC,.string av,.bool aD]) (t := 34) ?hr ?_; (case hd => rfl); (case hg => rfl); (case hr => first | (go_simp; done) | (go_simp; rfl)); intro ah hg w5 hbox hb; have bR := zzk (Zs (by repeat (first | (with_reducible first | exact HB.out | apply Zq | apply Zp | apply Zo) | exact HB.out)) hb); have bS := zzk (hbox); have bY := zzk ((by rw [hg]; exact (Zr (by repeat (first | (with_reducible first | exact HB.out | apply Zq | apply Zp | apply Zo) | exact HB.out))) : w.heap.size ≤ ah)); have bZ := zzk ((by rw [hg]; exact (Zr (by repeat (first | (with_reducible first | exact HB.out | apply Zq | apply Zp | apply Zo) | exact HB.out))) : w.heap.size ≤ ah)); clear HB; have HB := bR; have ab := bS; have pI := bY; have aS := bZ; clear bR bS bY bZ; clear hb hbox hg))
 (try simp only [Act.put,za,zb,zc])
 go_cut [34] (fun oB wc => ∃ (kq : Nat) (eX : Bool),oB = .bool eX ∧ Aside0 (L_ChunkTakes.j0 kq a1 a2 eX ay az aA aB aw ax aC av aD = some r) ∧ Aside0 (kq ≤ k) ∧ Aside0 (wc.heap[ah]? = some (.cells #[.int .i64 ay,.int .i64 az,.int .i64 aA,.int .i64 aB,(.slice bz aw.length bA),(.slice bB ax.length bC),.int .i64 aC,.string av,.bool aD] 34 (0,0))) ∧ Aside0 (Below w.heap.size w wc))
 case first =>
  have H := mM.out
  clear mM
  by_cases c6 : (av.size : Int) > 262144
  ·
   rw [if_pos c6] at H
   have dU : decide (262144 < (av.size : Int)) = true := zzn c6
   have lk : decide (262144 < av.size) = true := zzn (by omega)
   clear c6
   (first | rw [dU] | (simp only [Zv,Zw]; rw [dU]) | skip)
   have H' := zzk H
   clear H
   have eY : w5.cell? ⟨ah,0,none⟩ = some (.int .i64 ay) := (zi ab.out 0).trans rfl
   have eZ : w5.cell? ⟨ah,1,none⟩ = some (.int .i64 az) := (zi ab.out 1).trans rfl
   have fa : w5.cell? ⟨ah,2,none⟩ = some (.int .i64 aA) := (zi ab.out 2).trans rfl
   have fb : w5.cell? ⟨ah,3,none⟩ = some (.int .i64 aB) := (zi ab.out 3).trans rfl
   have fc : w5.cell? ⟨ah,4,none⟩ = some (.slice bz aw.length bA) := (zi ab.out 4).trans rfl
   have fd : w5.cell? ⟨ah,5,none⟩ = some (.slice bB ax.length bC) := (zi ab.out 5).trans rfl
   have fe : w5.cell? ⟨ah,6,none⟩ = some (.int .i64 aC) := (zi ab.out 6).trans rfl
   have fg : w5.cell? ⟨ah,7,none⟩ = some (.string av) := (zi ab.out 7).trans rfl
   have fh : w5.cell? ⟨ah,8,none⟩ = some (.bool aD) := (zi ab.out 8).trans rfl
   have fi := zm ab.out 0
   have fj := zm ab.out 1
   have fk := zm ab.out 2
   have fl := zm ab.out 3
   have fm := zm ab.out 4
   have fn := zm ab.out 5
   have fo := zm ab.out 6
   have fp := zm ab.out 7
   have fq := zm ab.out 8
   go_wp2
   go_meet
   case rel => exact ⟨_,(true),(by first | rfl | (simp; done) | (simp [*]; done)),H',⟨by first | omega | exact Nat.le_refl _⟩,⟨by (with_reducible repeat (first | refine zj ?_ _ | refine zl ?_ | refine zk ?_ _)); exact ab.out⟩,⟨by repeat (first | (with_reducible first | exact HB.out | apply Zq | apply Zp | apply Zo | refine Zn ?_ aS.out) | exact HB.out)⟩⟩
  ·
   rw [if_neg c6] at H
   have dU : decide (262144 < (av.size : Int)) = false := zzo c6
   have lk : decide (262144 < av.size) = false := zzo (by omega)
   clear c6
   (first | rw [dU] | (simp only [Zv,Zw]; rw [dU]) | skip)
   by_cases c8 : (a2.size : Int) > 262144
   ·
    rw [if_pos c8] at H
    have ll : decide (262144 < (a2.size : Int)) = true := zzn c8
    have lm : decide (262144 < a2.size) = true := zzn (by omega)
    clear c8
    have H' := zzk H
    clear H
    have fr : w5.cell? ⟨ah,0,none⟩ = some (.int .i64 ay) := (zi ab.out 0).trans rfl
    have fs : w5.cell? ⟨ah,1,none⟩ = some (.int .i64 az) := (zi ab.out 1).trans rfl
    have ft : w5.cell? ⟨ah,2,none⟩ = some (.int .i64 aA) := (zi ab.out 2).trans rfl
    have fu : w5.cell? ⟨ah,3,none⟩ = some (.int .i64 aB) := (zi ab.out 3).trans rfl
    have fv : w5.cell? ⟨ah,4,none⟩ = some (.slice bz aw.length bA) := (zi ab.out 4).trans rfl
    have fw : w5.cell? ⟨ah,5,none⟩ = some (.slice bB ax.length bC) := (zi ab.out 5).trans rfl
    have fx : w5.cell? ⟨ah,6,none⟩ = some (.int .i64 aC) := (zi ab.out 6).trans rfl
    have fy : w5.cell? ⟨ah,7,none⟩ = some (.string av) := (zi ab.out 7).trans rfl
    have fz : w5.cell? ⟨ah,8,none⟩ = some (.bool aD) := (zi ab.out 8).trans rfl
    have fA := zm ab.out 0
    have fB := zm ab.out 1
    have fC := zm ab.out 2
    have fD := zm ab.out 3
    have fE := zm ab.out 4
    have fF := zm ab.out 5
    have fG := zm ab.out 6
    have fH := zm ab.out 7
    have fI := zm ab.out 8
    go_wp2
    go_meet
    case rel => exact ⟨_,(true),(by first | rfl | (simp; done) | (simp [*]; done)),H',⟨by first | omega | exact Nat.le_refl _⟩,⟨by (with_reducible repeat (first | refine zj ?_ _ | refine zl ?_ | refine zk ?_ _)); exact ab.out⟩,⟨by repeat (first | (with_reducible first | exact HB.out | apply Zq | apply Zp | apply Zo | refine Zn ?_ aS.out) | exact HB.out)⟩⟩
   ·
    rw [if_neg c8] at H
    have ll : decide (262144 < (a2.size : Int)) = false := zzo c8
    have lm : decide (262144 < a2.size) = false := zzo (by omega)
    clear c8
    replace H := Option.bind_eq_some_iff.mp H
    obtain ⟨es,mN,H⟩ := H
    replace H : (L_ChunkTakes.j0 k a1 a2 es ay az aA aB aw ax aC av aD) = some r := H
    have oC := zzk mN
    clear mN
    have H' := zzk H
    clear H
    have ez : w5.cell? ⟨ah,0,none⟩ = some (.int .i64 ay) := (zi ab.out 0).trans rfl
    have eA : w5.cell? ⟨ah,1,none⟩ = some (.int .i64 az) := (zi ab.out 1).trans rfl
    have eB : w5.cell? ⟨ah,2,none⟩ = some (.int .i64 aA) := (zi ab.out 2).trans rfl
    have eC : w5.cell? ⟨ah,3,none⟩ = some (.int .i64 aB) := (zi ab.out 3).trans rfl
    have eD : w5.cell? ⟨ah,4,none⟩ = some (.slice bz aw.length bA) := (zi ab.out 4).trans rfl
    have eE : w5.cell? ⟨ah,5,none⟩ = some (.slice bB ax.length bC) := (zi ab.out 5).trans rfl
    have eF : w5.cell? ⟨ah,6,none⟩ = some (.int .i64 aC) := (zi ab.out 6).trans rfl
    have eG : w5.cell? ⟨ah,7,none⟩ = some (.string av) := (zi ab.out 7).trans rfl
    have eH : w5.cell? ⟨ah,8,none⟩ = some (.bool aD) := (zi ab.out 8).trans rfl
    have eI := zm ab.out 0
    have eJ := zm ab.out 1
    have eK := zm ab.out 2
    have eL := zm ab.out 3
    have eM := zm ab.out 4
    have eN := zm ab.out 5
    have eO := zm ab.out 6
    have eP := zm ab.out 7
    have eQ := zm ab.out 8
    go_wp2_with (first | (go_at_call 12; (with_reducible refine (r08_BigCouncil.calls _ _ aw _ _ ax es _ ?side1 ?side2 ?side3 ?side4 oC.out).mono ?_); (case side1 => repeat (first | exact (Zm ev.out HB.out) | (with_reducible refine Zk ?_ _) | (with_reducible refine Zj ?_ _) | (with_reducible refine Zl ?_))); (case side2 => exact ew.out); (case side3 => repeat (first | exact (Zm ex.out HB.out) | (with_reducible refine Zk ?_ _) | (with_reducible refine Zj ?_ _) | (with_reducible refine Zl ?_))); (case side4 => exact ey.out); rintro e rh ⟨rfl,hb⟩; have bR := zzk (zo (g := ah) (o := .cells #[.int .i64 ay,.int .i64 az,.int .i64 aA,.int .i64 aB,.slice bz aw.length bA,.slice bB ax.length bC,.int .i64 aC,.string av,.bool aD] 34 (0,0)) (by (with_reducible repeat (first | refine zj ?_ _ | refine zl ?_ | refine zk ?_ _)); exact ab.out) hb); have bS := zzk (Zs (by repeat (first | (with_reducible first | exact HB.out | apply Zq | apply Zp | apply Zo | refine Zn ?_ aS.out) | exact HB.out)) hb); clear ab; clear HB; have ab := bR; have HB := bS; clear bR bS; (try clear hb); (try clear hb2); (try clear hk); (try clear hi)))
    go_meet
    case rel => exact ⟨_,(es),(by first | rfl | (simp; done) | (simp [*]; done)),H',⟨by first | omega | exact Nat.le_refl _⟩,⟨by (with_reducible repeat (first | refine zj ?_ _ | refine zl ?_ | refine zk ?_ _)); exact ab.out⟩,⟨by repeat (first | (with_reducible first | exact HB.out | apply Zq | apply Zp | apply Zo | refine Zn ?_ aS.out) | exact HB.out)⟩⟩
 case rest =>
  clear mM
  try clear p2
  try clear c5
  try clear c6
  try clear dU
  try clear lk
  try clear c8
  try clear ll
  try clear lm
  try clear ez
  try clear eA
  try clear eB
  try clear eC
  try clear eD
  try clear eE
  try clear eF
  try clear eG
  try clear eH
  try clear eY
  try clear eZ
  try clear fa
  try clear fb
  try clear fc
  try clear fd
  try clear fe
  try clear fg
  try clear fh
  try clear fr
  try clear fs
  try clear ft
  try clear fu
  try clear fv
  try clear fw
  try clear fx
  try clear fy
  try clear fz
  try clear eI
  try clear eJ
  try clear eK
  try clear eL
  try clear eM
  try clear eN
  try clear eO
  try clear eP
  try clear eQ
  try clear fi
  try clear fj
  try clear fk
  try clear fl
  try clear fm
  try clear fn
  try clear fo
  try clear fp
  try clear fq
  try clear fA
  try clear fB
  try clear fC
  try clear fD
  try clear fE
  try clear fF
  try clear fG
  try clear fH
  try clear fI
  obtain ⟨kq,eX,rfl,HA,HJ3,ab,HB⟩ := hcut
  cases kq with
  | zero => exact absurd HA.out (by simp [L_ChunkTakes.j0])
  | succ cg =>
   have H := HA.out
   clear HA
   simp only [L_ChunkTakes.j0] at H
   by_cases fT : eX = true
   ·
    subst fT
    have H1 : (some true) = some r := by rw [if_pos rfl] at H; exact H
    clear H
    have H := H1
    clear H1
    obtain rfl := zzu H
    go_wp2
    go_ret
    exact ⟨by first | rfl | (simp [zzl,zzm] <;> rfl) | (simp [*,zzl,zzm] <;> rfl),by repeat (first | (with_reducible first | exact HB.out | apply Zq | apply Zp | apply Zo | refine Zn ?_ aS.out) | exact HB.out)⟩
   ·
    replace fT := Bool.eq_false_iff.mpr fT
    subst fT
    have H1 : ((r16_Own.f ay az aA aB aw ax aC av aD).bind fun aK => ((chunk_Take.f cg ay az aA aB aw ax aC av aD a1 a2).bind fun aE => ((r16_Take.f cg aK.1 aK.2.1 aK.2.2.1 aK.2.2.2.1 aK.2.2.2.2.1 aK.2.2.2.2.2.1 aK.2.2.2.2.2.2.1 aK.2.2.2.2.2.2.2.1 aK.2.2.2.2.2.2.2.2 a1 a2).bind fun aW => ((chunk_Whole.f cg ay az aA aB aw ax aC av aD).bind fun aG => ((r16_Whole.f cg aK.1 aK.2.1 aK.2.2.1 aK.2.2.2.1 aK.2.2.2.2.1 aK.2.2.2.2.2.1 aK.2.2.2.2.2.2.1 aK.2.2.2.2.2.2.2.1 aK.2.2.2.2.2.2.2.2).bind fun bn => (if aE.2.2.2.2.2.2.2.2.2.2 = aW.2.2.2.2.2.2.2.2.2.2 then (if (aE.2.2.2.2.2.2.2.2.2.1 == aW.2.2.2.2.2.2.2.2.2.1) = true then ((r16_Same.f cg aE.1 aE.2.1 aE.2.2.1 aE.2.2.2.1 aE.2.2.2.2.1 aE.2.2.2.2.2.1 aE.2.2.2.2.2.2.1 aE.2.2.2.2.2.2.2.1 aE.2.2.2.2.2.2.2.2.1 aW.1 aW.2.1 aW.2.2.1 aW.2.2.2.1 aW.2.2.2.2.1 aW.2.2.2.2.2.1 aW.2.2.2.2.2.2.1 aW.2.2.2.2.2.2.2.1 aW.2.2.2.2.2.2.2.2.1).bind fun dn => (if dn = true then (if aG.2.2.2.2.2 = bn.2.2.2.2.2 then ((r08_SameSnap.f cg aG.1 aG.2.1 aG.2.2.1 aG.2.2.2.1 aG.2.2.2.2.1 bn.1 bn.2.1 bn.2.2.1 bn.2.2.2.1 bn.2.2.2.2.1).bind fun cA => (L_ChunkTakes.l0 cg cA 0 ay az aA aB aw ax aC av aD aK.1 aK.2.1 aK.2.2.1 aK.2.2.2.1 aK.2.2.2.2.1 aK.2.2.2.2.2.1 aK.2.2.2.2.2.2.1 aK.2.2.2.2.2.2.2.1 aK.2.2.2.2.2.2.2.2 aE.1 aE.2.1 aE.2.2.1 aE.2.2.2.1 aE.2.2.2.2.1 aE.2.2.2.2.2.1 aE.2.2.2.2.2.2.1 aE.2.2.2.2.2.2.2.1 aE.2.2.2.2.2.2.2.2.1 aG.1 aG.2.1 aG.2.2.1 aG.2.2.2.1 aG.2.2.2.2.1)) else (none)) else (none))) else (none)) else (none))))))) = some r := by rw [if_neg (show ¬ (false = true) by decide)] at H; exact H
    clear H
    have H := H1
    clear H1
    replace H := Option.bind_eq_some_iff.mp H
    obtain ⟨⟨aM,aN,aO,aP,aX,bc,aQ,aR,aT⟩,mO,H⟩ := H
    replace H : ((chunk_Take.f cg ay az aA aB aw ax aC av aD a1 a2).bind fun aE => ((r16_Take.f cg aM aN aO aP aX bc aQ aR aT a1 a2).bind fun aW => ((chunk_Whole.f cg ay az aA aB aw ax aC av aD).bind fun aG => ((r16_Whole.f cg aM aN aO aP aX bc aQ aR aT).bind fun bn => (if aE.2.2.2.2.2.2.2.2.2.2 = aW.2.2.2.2.2.2.2.2.2.2 then (if (aE.2.2.2.2.2.2.2.2.2.1 == aW.2.2.2.2.2.2.2.2.2.1) = true then ((r16_Same.f cg aE.1 aE.2.1 aE.2.2.1 aE.2.2.2.1 aE.2.2.2.2.1 aE.2.2.2.2.2.1 aE.2.2.2.2.2.2.1 aE.2.2.2.2.2.2.2.1 aE.2.2.2.2.2.2.2.2.1 aW.1 aW.2.1 aW.2.2.1 aW.2.2.2.1 aW.2.2.2.2.1 aW.2.2.2.2.2.1 aW.2.2.2.2.2.2.1 aW.2.2.2.2.2.2.2.1 aW.2.2.2.2.2.2.2.2.1).bind fun dn => (if dn = true then (if aG.2.2.2.2.2 = bn.2.2.2.2.2 then ((r08_SameSnap.f cg aG.1 aG.2.1 aG.2.2.1 aG.2.2.2.1 aG.2.2.2.2.1 bn.1 bn.2.1 bn.2.2.1 bn.2.2.2.1 bn.2.2.2.2.1).bind fun cA => (L_ChunkTakes.l0 cg cA 0 ay az aA aB aw ax aC av aD aM aN aO aP aX bc aQ aR aT aE.1 aE.2.1 aE.2.2.1 aE.2.2.2.1 aE.2.2.2.2.1 aE.2.2.2.2.2.1 aE.2.2.2.2.2.2.1 aE.2.2.2.2.2.2.2.1 aE.2.2.2.2.2.2.2.2.1 aG.1 aG.2.1 aG.2.2.1 aG.2.2.2.1 aG.2.2.2.2.1)) else (none)) else (none))) else (none)) else (none)))))) = some r := H
    have oD := zzk mO
    clear mO
    replace H := Option.bind_eq_some_iff.mp H
    obtain ⟨⟨aU,aY,bd,be,bf,bh,bi,bk,bm,dT,dV⟩,mP,H⟩ := H
    replace H : ((r16_Take.f cg aM aN aO aP aX bc aQ aR aT a1 a2).bind fun aW => ((chunk_Whole.f cg ay az aA aB aw ax aC av aD).bind fun aG => ((r16_Whole.f cg aM aN aO aP aX bc aQ aR aT).bind fun bn => (if dV = aW.2.2.2.2.2.2.2.2.2.2 then (if (dT == aW.2.2.2.2.2.2.2.2.2.1) = true then ((r16_Same.f cg aU aY bd be bf bh bi bk bm aW.1 aW.2.1 aW.2.2.1 aW.2.2.2.1 aW.2.2.2.2.1 aW.2.2.2.2.2.1 aW.2.2.2.2.2.2.1 aW.2.2.2.2.2.2.2.1 aW.2.2.2.2.2.2.2.2.1).bind fun dn => (if dn = true then (if aG.2.2.2.2.2 = bn.2.2.2.2.2 then ((r08_SameSnap.f cg aG.1 aG.2.1 aG.2.2.1 aG.2.2.2.1 aG.2.2.2.2.1 bn.1 bn.2.1 bn.2.2.1 bn.2.2.2.1 bn.2.2.2.2.1).bind fun cA => (L_ChunkTakes.l0 cg cA 0 ay az aA aB aw ax aC av aD aM aN aO aP aX bc aQ aR aT aU aY bd be bf bh bi bk bm aG.1 aG.2.1 aG.2.2.1 aG.2.2.2.1 aG.2.2.2.2.1)) else (none)) else (none))) else (none)) else (none))))) = some r := H
    have oE := zzk mP
    clear mP
    replace H := Option.bind_eq_some_iff.mp H
    obtain ⟨⟨bo,bq,bu,bw,bv,bx,bD,bH,bN,dW,et⟩,mQ,H⟩ := H
    replace H : ((chunk_Whole.f cg ay az aA aB aw ax aC av aD).bind fun aG => ((r16_Whole.f cg aM aN aO aP aX bc aQ aR aT).bind fun bn => (if dV = et then (if (dT == dW) = true then ((r16_Same.f cg aU aY bd be bf bh bi bk bm bo bq bu bw bv bx bD bH bN).bind fun dn => (if dn = true then (if aG.2.2.2.2.2 = bn.2.2.2.2.2 then ((r08_SameSnap.f cg aG.1 aG.2.1 aG.2.2.1 aG.2.2.2.1 aG.2.2.2.2.1 bn.1 bn.2.1 bn.2.2.1 bn.2.2.2.1 bn.2.2.2.2.1).bind fun cA => (L_ChunkTakes.l0 cg cA 0 ay az aA aB aw ax aC av aD aM aN aO aP aX bc aQ aR aT aU aY bd be bf bh bi bk bm aG.1 aG.2.1 aG.2.2.1 aG.2.2.2.1 aG.2.2.2.2.1)) else (none)) else (none))) else (none)) else (none)))) = some r := H
    have oF := zzk mQ
    clear mQ
    replace H := Option.bind_eq_some_iff.mp H
    obtain ⟨⟨aV,aZ,bj,bl,bg,dX⟩,mR,H⟩ := H
    replace H : ((r16_Whole.f cg aM aN aO aP aX bc aQ aR aT).bind fun bn => (if dV = et then (if (dT == dW) = true then ((r16_Same.f cg aU aY bd be bf bh bi bk bm bo bq bu bw bv bx bD bH bN).bind fun dn => (if dn = true then (if dX = bn.2.2.2.2.2 then ((r08_SameSnap.f cg aV aZ bj bl bg bn.1 bn.2.1 bn.2.2.1 bn.2.2.2.1 bn.2.2.2.2.1).bind fun cA => (L_ChunkTakes.l0 cg cA 0 ay az aA aB aw ax aC av aD aM aN aO aP aX bc aQ aR aT aU aY bd be bf bh bi bk bm aV aZ bj bl bg)) else (none)) else (none))) else (none)) else (none))) = some r := H
    have oG := zzk mR
    clear mR
    replace H := Option.bind_eq_some_iff.mp H
    obtain ⟨⟨ck,cm,cr,ct,cz,eu⟩,mS,H⟩ := H
    replace H : (if dV = et then (if (dT == dW) = true then ((r16_Same.f cg aU aY bd be bf bh bi bk bm bo bq bu bw bv bx bD bH bN).bind fun dn => (if dn = true then (if dX = eu then ((r08_SameSnap.f cg aV aZ bj bl bg ck cm cr ct cz).bind fun cA => (L_ChunkTakes.l0 cg cA 0 ay az aA aB aw ax aC av aD aM aN aO aP aX bc aQ aR aT aU aY bd be bf bh bi bk bm aV aZ bj bl bg)) else (none)) else (none))) else (none)) else (none)) = some r := H
    have oH := zzk mS
    clear mS
    by_cases fJ : dV = et
    ·
     rw [if_pos fJ] at H
     have lD : (dV == et) = true := beq_iff_eq.mpr fJ
     have lE : (dV != et) = false := bne_eq_false_iff_eq.mpr fJ
     clear fJ
     by_cases eR : (dT == dW) = true
     ·
      rw [if_pos eR] at H
      have lF : (dT == dW) = true := eR
      (try (have lG : decide (dT = dW) = true := by simpa using eR))
      (try (have lH : (dT == dW) = true := by simpa using eR))
      clear eR
      replace H := Option.bind_eq_some_iff.mp H
      obtain ⟨dn,mT,H⟩ := H
      replace H : (if dn = true then (if dX = eu then ((r08_SameSnap.f cg aV aZ bj bl bg ck cm cr ct cz).bind fun cA => (L_ChunkTakes.l0 cg cA 0 ay az aA aB aw ax aC av aD aM aN aO aP aX bc aQ aR aT aU aY bd be bf bh bi bk bm aV aZ bj bl bg)) else (none)) else (none)) = some r := H
      have oI := zzk mT
      clear mT
      by_cases fU : dn = true
      ·
       subst fU
       have H1 : (if dX = eu then ((r08_SameSnap.f cg aV aZ bj bl bg ck cm cr ct cz).bind fun cA => (L_ChunkTakes.l0 cg cA 0 ay az aA aB aw ax aC av aD aM aN aO aP aX bc aQ aR aT aU aY bd be bf bh bi bk bm aV aZ bj bl bg)) else (none)) = some r := by rw [if_pos rfl] at H; exact H
       clear H
       have H := H1
       clear H1
       by_cases fK : dX = eu
       ·
        rw [if_pos fK] at H
        have lI : (dX == eu) = true := beq_iff_eq.mpr fK
        have lJ : (dX != eu) = false := bne_eq_false_iff_eq.mpr fK
        clear fK
        replace H := Option.bind_eq_some_iff.mp H
        obtain ⟨cA,mU,H⟩ := H
        replace H : (L_ChunkTakes.l0 cg cA 0 ay az aA aB aw ax aC av aD aM aN aO aP aX bc aQ aR aT aU aY bd be bf bh bi bk bm aV aZ bj bl bg) = some r := H
        have oJ := zzk mU
        clear mU
        have H' := zzk H
        clear H
        have fV : wc.cell? ⟨ah,0,none⟩ = some (.int .i64 ay) := (zi ab.out 0).trans rfl
        have fW : wc.cell? ⟨ah,1,none⟩ = some (.int .i64 az) := (zi ab.out 1).trans rfl
        have fX : wc.cell? ⟨ah,2,none⟩ = some (.int .i64 aA) := (zi ab.out 2).trans rfl
        have fY : wc.cell? ⟨ah,3,none⟩ = some (.int .i64 aB) := (zi ab.out 3).trans rfl
        have fZ : wc.cell? ⟨ah,4,none⟩ = some (.slice bz aw.length bA) := (zi ab.out 4).trans rfl
        have ga : wc.cell? ⟨ah,5,none⟩ = some (.slice bB ax.length bC) := (zi ab.out 5).trans rfl
        have gb : wc.cell? ⟨ah,6,none⟩ = some (.int .i64 aC) := (zi ab.out 6).trans rfl
        have gc : wc.cell? ⟨ah,7,none⟩ = some (.string av) := (zi ab.out 7).trans rfl
        have gd : wc.cell? ⟨ah,8,none⟩ = some (.bool aD) := (zi ab.out 8).trans rfl
        have gf := zm ab.out 0
        have gg := zm ab.out 1
        have gh := zm ab.out 2
        have gi := zm ab.out 3
        have gj := zm ab.out 4
        have gl := zm ab.out 5
        have gm := zm ab.out 6
        have gn := zm ab.out 7
        have gp := zm ab.out 8
        go_wp2_with (first | ((with_reducible refine zza (f := 21) rfl ?_); refine zzd (some 36) rfl rfl Try.func21 (by kernel_rfl) rfl #[.agg #[.int .i64 ay,.int .i64 az,.int .i64 aA,.int .i64 aB,.slice bz aw.length bA,.slice bB ax.length bC,.int .i64 aC,.string av,.bool aD]] rfl (by (try simp only [zd,ze,zf]); first | done | rfl | (simp only [zg,zh]; rfl)) ?_; (with_reducible refine (r16_Own.calls ay az aA aB _ _ aw _ _ ax aC av aD aM aN aO aP aX bc aQ aR aT _ ?side1 ?side2 ?side3 ?side4 oD.out).mono ?_); (case side1 => repeat (first | exact (Zm ev.out HB.out) | (with_reducible refine Zk ?_ _) | (with_reducible refine Zj ?_ _) | (with_reducible refine Zl ?_))); (case side2 => exact ew.out); (case side3 => repeat (first | exact (Zm ex.out HB.out) | (with_reducible refine Zk ?_ _) | (with_reducible refine Zj ?_ _) | (with_reducible refine Zl ?_))); (case side4 => exact ey.out); rintro e ri ⟨qS,qT,rfl,ho0,ho1,hb⟩; refine ⟨_,rfl,?_⟩; have bR := zzk (Za ho0 (Zr (by repeat (first | (with_reducible first | exact HB.out | apply Zq | apply Zp | apply Zo | refine Zn ?_ aS.out) | exact HB.out)))); have bS := zzk (Za ho1 (Zr (by repeat (first | (with_reducible first | exact HB.out | apply Zq | apply Zp | apply Zo | refine Zn ?_ aS.out) | exact HB.out)))); have bY := zzk (zo (g := ah) (o := .cells #[.int .i64 ay,.int .i64 az,.int .i64 aA,.int .i64 aB,.slice bz aw.length bA,.slice bB ax.length bC,.int .i64 aC,.string av,.bool aD] 34 (0,0)) (by (with_reducible repeat (first | refine zj ?_ _ | refine zl ?_ | refine zk ?_ _)); exact ab.out) hb); have bZ := zzk (Zs (by repeat (first | (with_reducible first | exact HB.out | apply Zq | apply Zp | apply Zo | refine Zn ?_ aS.out) | exact HB.out)) hb); clear ab; clear HB; have ba := bR; have bb := bS; have ab := bY; have HB := bZ; clear bR bS bY bZ; (try clear hb); (try clear hb2); (try clear hk); (try clear hi); (try clear ho0); (try clear ho1)) | ((with_reducible refine Zy (N := 7) rfl ?_); (try (refine Zz (by rfl) ?_; dsimp only)); refine zzc ?hg (N := 7) ?hd (cs := #[.int .i64 0,.int .i64 0,.int .i64 0,.int .i64 0,.slice none 0 0,.slice none 0 0,.int .i64 0,.string (⟨#[]⟩ : ByteArray),.bool false]) (t := 34) ?hr ?_; (case hd => rfl); (case hg => rfl); (case hr => first | (go_simp; done) | (go_simp; rfl)); intro ag hg dv hbox hb; have bR := zzk (zv (by (with_reducible repeat (first | apply zu | apply zt | apply zs)); exact ba.out) hb); have bS := zzk (zv (by (with_reducible repeat (first | apply zu | apply zt | apply zs)); exact bb.out) hb); have bY := zzk (zo (g := ah) (o := .cells #[.int .i64 ay,.int .i64 az,.int .i64 aA,.int .i64 aB,.slice bz aw.length bA,.slice bB ax.length bC,.int .i64 aC,.string av,.bool aD] 34 (0,0)) (by (with_reducible repeat (first | refine zj ?_ _ | refine zl ?_ | refine zk ?_ _)); exact ab.out) hb); have bZ := zzk (Zs (by repeat (first | (with_reducible first | exact HB.out | apply Zq | apply Zp | apply Zo | refine Zn ?_ aS.out) | exact HB.out)) hb); have ch := zzk (hbox); have ci := zzk ((by rw [hg]; exact (Zr (by repeat (first | (with_reducible first | exact HB.out | apply Zq | apply Zp | apply Zo | refine Zn ?_ aS.out) | exact HB.out))) : w.heap.size ≤ ag)); have cj := zzk ((by rw [hg]; exact (Zr (by repeat (first | (with_reducible first | exact HB.out | apply Zq | apply Zp | apply Zo | refine Zn ?_ aS.out) | exact HB.out))) : w.heap.size ≤ ag)); have cn := zzk ((by rw [hg]; exact Nat.ne_of_lt (zq (g := ah) (o := .cells #[.int .i64 ay,.int .i64 az,.int .i64 aA,.int .i64 aB,.slice bz aw.length bA,.slice bB ax.length bC,.int .i64 aC,.string av,.bool aD] 34 (0,0)) (by (with_reducible repeat (first | refine zj ?_ _ | refine zl ?_ | refine zk ?_ _)); exact ab.out)) : ah ≠ ag)); have co := zzk ((by rw [hg]; exact Nat.ne_of_gt (zq (g := ah) (o := .cells #[.int .i64 ay,.int .i64 az,.int .i64 aA,.int .i64 aB,.slice bz aw.length bA,.slice bB ax.length bC,.int .i64 aC,.string av,.bool aD] 34 (0,0)) (by (with_reducible repeat (first | refine zj ?_ _ | refine zl ?_ | refine zk ?_ _)); exact ab.out)) : ag ≠ ah)); clear ba; clear bb; clear ab; clear HB; have ba := bR; have bb := bS; have ab := bY; have HB := bZ; have ae := ch; have pJ := ci; have br := cj; have cE := cn; have eS := co; clear bR bS bY bZ ch ci cj cn co; clear hb hbox hg; have pK := eS.out; have pL := cE.out; have gq : dv.cell? ⟨ag,0,none⟩ = some (.int .i64 0) := (zi ae.out 0).trans rfl; have gr : dv.cell? ⟨ag,1,none⟩ = some (.int .i64 0) := (zi ae.out 1).trans rfl; have gs : dv.cell? ⟨ag,2,none⟩ = some (.int .i64 0) := (zi ae.out 2).trans rfl; have gu : dv.cell? ⟨ag,3,none⟩ = some (.int .i64 0) := (zi ae.out 3).trans rfl; have gv : dv.cell? ⟨ag,4,none⟩ = some (.slice none 0 0) := (zi ae.out 4).trans rfl; have gw : dv.cell? ⟨ag,5,none⟩ = some (.slice none 0 0) := (zi ae.out 5).trans rfl; have gx : dv.cell? ⟨ag,6,none⟩ = some (.int .i64 0) := (zi ae.out 6).trans rfl; have gy : dv.cell? ⟨ag,7,none⟩ = some (.string (⟨#[]⟩ : ByteArray)) := (zi ae.out 7).trans rfl; have gz : dv.cell? ⟨ag,8,none⟩ = some (.bool false) := (zi ae.out 8).trans rfl; have gA := zm ae.out 0; have gB := zm ae.out 1; have gC := zm ae.out 2; have gD := zm ae.out 3; have gE := zm ae.out 4; have gF := zm ae.out 5; have gG := zm ae.out 6; have gH := zm ae.out 7; have gI := zm ae.out 8; obtain ⟨bT,bI,eo30⟩ := zz ba.out; subst eo30; obtain ⟨bW,bO,eo31⟩ := zz bb.out; subst eo31; have gJ : dv.cell? ⟨ah,0,none⟩ = some (.int .i64 ay) := (zi ab.out 0).trans rfl; have gK : dv.cell? ⟨ah,1,none⟩ = some (.int .i64 az) := (zi ab.out 1).trans rfl; have gL : dv.cell? ⟨ah,2,none⟩ = some (.int .i64 aA) := (zi ab.out 2).trans rfl; have gM : dv.cell? ⟨ah,3,none⟩ = some (.int .i64 aB) := (zi ab.out 3).trans rfl; have gN : dv.cell? ⟨ah,4,none⟩ = some (.slice bz aw.length bA) := (zi ab.out 4).trans rfl; have gO : dv.cell? ⟨ah,5,none⟩ = some (.slice bB ax.length bC) := (zi ab.out 5).trans rfl; have gP : dv.cell? ⟨ah,6,none⟩ = some (.int .i64 aC) := (zi ab.out 6).trans rfl; have gQ : dv.cell? ⟨ah,7,none⟩ = some (.string av) := (zi ab.out 7).trans rfl; have gR : dv.cell? ⟨ah,8,none⟩ = some (.bool aD) := (zi ab.out 8).trans rfl; have gS := zm ab.out 0; have gT := zm ab.out 1; have gU := zm ab.out 2; have gV := zm ab.out 3; have gW := zm ab.out 4; have gX := zm ab.out 5; have gY := zm ab.out 6; have gZ := zm ab.out 7; have ha := zm ab.out 8) | ((with_reducible refine zza (f := 22) rfl ?_); refine zzd (some 41) rfl rfl Try.func22 (by kernel_rfl) rfl #[.agg #[.int .i64 ay,.int .i64 az,.int .i64 aA,.int .i64 aB,.slice bz aw.length bA,.slice bB ax.length bC,.int .i64 aC,.string av,.bool aD],.int .i64 a1,.string a2] rfl (by (try simp only [zd,ze,zf]); first | done | rfl | (simp only [zg,zh]; rfl)) ?_; (with_reducible refine (chunk_Take.calls cg ay az aA aB _ _ aw _ _ ax aC av aD a1 a2 aU aY bd be bf bh bi bk bm dT dV _ ?side1 ?side2 ?side3 ?side4 oE.out).mono ?_); (case side1 => exact Zm ev.out (by repeat (first | (with_reducible first | exact HB.out | apply Zq | apply Zp | apply Zo | refine Zn ?_ aS.out | refine Zn ?_ br.out) | exact HB.out))); (case side2 => exact ew.out); (case side3 => exact Zm ex.out (by repeat (first | (with_reducible first | exact HB.out | apply Zq | apply Zp | apply Zo | refine Zn ?_ aS.out | refine Zn ?_ br.out) | exact HB.out))); (case side4 => exact ey.out); rintro e rj ⟨qU,qV,rfl,ho0,ho1,hb⟩; refine ⟨_,rfl,?_⟩; have bR := zzk (zx (Zc (Zc (Kd.R_old (by (with_reducible repeat (first | apply zu | apply zt | apply zs)); exact (zx (zr (p := ⟨ag,8,none⟩) (zr (p := ⟨ag,7,none⟩) (zr (p := ⟨ag,6,none⟩) (zr (p := ⟨ag,5,none⟩) (zr (p := ⟨ag,4,none⟩) (zr (p := ⟨ag,3,none⟩) (zr (p := ⟨ag,2,none⟩) (zr (p := ⟨ag,1,none⟩) (zr (p := ⟨ag,0,none⟩) (zy ba.out ae.out (by decide)) (fun _ hk => hk.2) (.int .i64 aM)) (fun _ hk => hk.2) (.int .i64 aN)) (fun _ hk => hk.2) (.int .i64 aO)) (fun _ hk => hk.2) (.int .i64 aP)) (fun _ hk => hk.2) (.slice bT aX.length bI)) (fun _ hk => hk.2) (.slice bW bc.length bO)) (fun _ hk => hk.2) (.int .i64 aQ)) (fun _ hk => hk.2) (.string aR)) (fun _ hk => hk.2) (.bool aT)) (fun _ h_ => h_.1))) hb) (Zd ho0)) (Zd ho1)) (fun _ h_ => h_.1)); have bS := zzk (zx (Zc (Zc (Kd.R_old (by (with_reducible repeat (first | apply zu | apply zt | apply zs)); exact (zx (zr (p := ⟨ag,8,none⟩) (zr (p := ⟨ag,7,none⟩) (zr (p := ⟨ag,6,none⟩) (zr (p := ⟨ag,5,none⟩) (zr (p := ⟨ag,4,none⟩) (zr (p := ⟨ag,3,none⟩) (zr (p := ⟨ag,2,none⟩) (zr (p := ⟨ag,1,none⟩) (zr (p := ⟨ag,0,none⟩) (zy bb.out ae.out (by decide)) (fun _ hk => hk.2) (.int .i64 aM)) (fun _ hk => hk.2) (.int .i64 aN)) (fun _ hk => hk.2) (.int .i64 aO)) (fun _ hk => hk.2) (.int .i64 aP)) (fun _ hk => hk.2) (.slice bT aX.length bI)) (fun _ hk => hk.2) (.slice bW bc.length bO)) (fun _ hk => hk.2) (.int .i64 aQ)) (fun _ hk => hk.2) (.string aR)) (fun _ hk => hk.2) (.bool aT)) (fun _ h_ => h_.1))) hb) (Zd ho0)) (Zd ho1)) (fun _ h_ => h_.1)); have bY := zzk (Za (Zb (Zb ho0 (Kd.R_lt (by (with_reducible repeat (first | apply zu | apply zt | apply zs)); exact (zx (zr (p := ⟨ag,8,none⟩) (zr (p := ⟨ag,7,none⟩) (zr (p := ⟨ag,6,none⟩) (zr (p := ⟨ag,5,none⟩) (zr (p := ⟨ag,4,none⟩) (zr (p := ⟨ag,3,none⟩) (zr (p := ⟨ag,2,none⟩) (zr (p := ⟨ag,1,none⟩) (zr (p := ⟨ag,0,none⟩) (zy ba.out ae.out (by decide)) (fun _ hk => hk.2) (.int .i64 aM)) (fun _ hk => hk.2) (.int .i64 aN)) (fun _ hk => hk.2) (.int .i64 aO)) (fun _ hk => hk.2) (.int .i64 aP)) (fun _ hk => hk.2) (.slice bT aX.length bI)) (fun _ hk => hk.2) (.slice bW bc.length bO)) (fun _ hk => hk.2) (.int .i64 aQ)) (fun _ hk => hk.2) (.string aR)) (fun _ hk => hk.2) (.bool aT)) (fun _ h_ => h_.1))))) (Kd.R_lt (by (with_reducible repeat (first | apply zu | apply zt | apply zs)); exact (zx (zr (p := ⟨ag,8,none⟩) (zr (p := ⟨ag,7,none⟩) (zr (p := ⟨ag,6,none⟩) (zr (p := ⟨ag,5,none⟩) (zr (p := ⟨ag,4,none⟩) (zr (p := ⟨ag,3,none⟩) (zr (p := ⟨ag,2,none⟩) (zr (p := ⟨ag,1,none⟩) (zr (p := ⟨ag,0,none⟩) (zy bb.out ae.out (by decide)) (fun _ hk => hk.2) (.int .i64 aM)) (fun _ hk => hk.2) (.int .i64 aN)) (fun _ hk => hk.2) (.int .i64 aO)) (fun _ hk => hk.2) (.int .i64 aP)) (fun _ hk => hk.2) (.slice bT aX.length bI)) (fun _ hk => hk.2) (.slice bW bc.length bO)) (fun _ hk => hk.2) (.int .i64 aQ)) (fun _ hk => hk.2) (.string aR)) (fun _ hk => hk.2) (.bool aT)) (fun _ h_ => h_.1))))) (Zr (by repeat (first | (with_reducible first | exact HB.out | apply Zq | apply Zp | apply Zo | refine Zn ?_ aS.out | refine Zn ?_ br.out) | exact HB.out)))); have bZ := zzk (Za (Zb (Zb ho1 (Kd.R_lt (by (with_reducible repeat (first | apply zu | apply zt | apply zs)); exact (zx (zr (p := ⟨ag,8,none⟩) (zr (p := ⟨ag,7,none⟩) (zr (p := ⟨ag,6,none⟩) (zr (p := ⟨ag,5,none⟩) (zr (p := ⟨ag,4,none⟩) (zr (p := ⟨ag,3,none⟩) (zr (p := ⟨ag,2,none⟩) (zr (p := ⟨ag,1,none⟩) (zr (p := ⟨ag,0,none⟩) (zy ba.out ae.out (by decide)) (fun _ hk => hk.2) (.int .i64 aM)) (fun _ hk => hk.2) (.int .i64 aN)) (fun _ hk => hk.2) (.int .i64 aO)) (fun _ hk => hk.2) (.int .i64 aP)) (fun _ hk => hk.2) (.slice bT aX.length bI)) (fun _ hk => hk.2) (.slice bW bc.length bO)) (fun _ hk => hk.2) (.int .i64 aQ)) (fun _ hk => hk.2) (.string aR)) (fun _ hk => hk.2) (.bool aT)) (fun _ h_ => h_.1))))) (Kd.R_lt (by (with_reducible repeat (first | apply zu | apply zt | apply zs)); exact (zx (zr (p := ⟨ag,8,none⟩) (zr (p := ⟨ag,7,none⟩) (zr (p := ⟨ag,6,none⟩) (zr (p := ⟨ag,5,none⟩) (zr (p := ⟨ag,4,none⟩) (zr (p := ⟨ag,3,none⟩) (zr (p := ⟨ag,2,none⟩) (zr (p := ⟨ag,1,none⟩) (zr (p := ⟨ag,0,none⟩) (zy bb.out ae.out (by decide)) (fun _ hk => hk.2) (.int .i64 aM)) (fun _ hk => hk.2) (.int .i64 aN)) (fun _ hk => hk.2) (.int .i64 aO)) (fun _ hk => hk.2) (.int .i64 aP)) (fun _ hk => hk.2) (.slice bT aX.length bI)) (fun _ hk => hk.2) (.slice bW bc.length bO)) (fun _ hk => hk.2) (.int .i64 aQ)) (fun _ hk => hk.2) (.string aR)) (fun _ hk => hk.2) (.bool aT)) (fun _ h_ => h_.1))))) (Zr (by repeat (first | (with_reducible first | exact HB.out | apply Zq | apply Zp | apply Zo | refine Zn ?_ aS.out | refine Zn ?_ br.out) | exact HB.out)))); have ch := zzk (zo (g := ah) (o := .cells #[.int .i64 ay,.int .i64 az,.int .i64 aA,.int .i64 aB,.slice bz aw.length bA,.slice bB ax.length bC,.int .i64 aC,.string av,.bool aD] 34 (0,0)) (by (with_reducible repeat (first | refine zj ?_ _ | refine zl ?_ | refine zk ?_ _)); refine zn ?_ cE.out _; (with_reducible repeat (first | refine zj ?_ _ | refine zl ?_ | refine zk ?_ _)); refine zn ?_ cE.out _; (with_reducible repeat (first | refine zj ?_ _ | refine zl ?_ | refine zk ?_ _)); refine zn ?_ cE.out _; (with_reducible repeat (first | refine zj ?_ _ | refine zl ?_ | refine zk ?_ _)); refine zn ?_ cE.out _; (with_reducible repeat (first | refine zj ?_ _ | refine zl ?_ | refine zk ?_ _)); refine zn ?_ cE.out _; (with_reducible repeat (first | refine zj ?_ _ | refine zl ?_ | refine zk ?_ _)); refine zn ?_ cE.out _; (with_reducible repeat (first | refine zj ?_ _ | refine zl ?_ | refine zk ?_ _)); refine zn ?_ cE.out _; (with_reducible repeat (first | refine zj ?_ _ | refine zl ?_ | refine zk ?_ _)); refine zn ?_ cE.out _; (with_reducible repeat (first | refine zj ?_ _ | refine zl ?_ | refine zk ?_ _)); refine zn ?_ cE.out _; (with_reducible repeat (first | refine zj ?_ _ | refine zl ?_ | refine zk ?_ _)); exact ab.out) hb); have ci := zzk (zo (g := ag) (o := .cells #[.int .i64 aM,.int .i64 aN,.int .i64 aO,.int .i64 aP,.slice bT aX.length bI,.slice bW bc.length bO,.int .i64 aQ,.string aR,.bool aT] 34 (0,0)) (by (with_reducible repeat (first | refine zj ?_ _ | refine zl ?_ | refine zk ?_ _)); refine zp (cs := #[.int .i64 aM,.int .i64 aN,.int .i64 aO,.int .i64 aP,.slice bT aX.length bI,.slice bW bc.length bO,.int .i64 aQ,.string aR,.bool false]) ?_ 8 _ rfl; (with_reducible repeat (first | refine zj ?_ _ | refine zl ?_ | refine zk ?_ _)); refine zp (cs := #[.int .i64 aM,.int .i64 aN,.int .i64 aO,.int .i64 aP,.slice bT aX.length bI,.slice bW bc.length bO,.int .i64 aQ,.string (⟨#[]⟩ : ByteArray),.bool false]) ?_ 7 _ rfl; (with_reducible repeat (first | refine zj ?_ _ | refine zl ?_ | refine zk ?_ _)); refine zp (cs := #[.int .i64 aM,.int .i64 aN,.int .i64 aO,.int .i64 aP,.slice bT aX.length bI,.slice bW bc.length bO,.int .i64 0,.string (⟨#[]⟩ : ByteArray),.bool false]) ?_ 6 _ rfl; (with_reducible repeat (first | refine zj ?_ _ | refine zl ?_ | refine zk ?_ _)); refine zp (cs := #[.int .i64 aM,.int .i64 aN,.int .i64 aO,.int .i64 aP,.slice bT aX.length bI,.slice none 0 0,.int .i64 0,.string (⟨#[]⟩ : ByteArray),.bool false]) ?_ 5 _ rfl; (with_reducible repeat (first | refine zj ?_ _ | refine zl ?_ | refine zk ?_ _)); refine zp (cs := #[.int .i64 aM,.int .i64 aN,.int .i64 aO,.int .i64 aP,.slice none 0 0,.slice none 0 0,.int .i64 0,.string (⟨#[]⟩ : ByteArray),.bool false]) ?_ 4 _ rfl; (with_reducible repeat (first | refine zj ?_ _ | refine zl ?_ | refine zk ?_ _)); refine zp (cs := #[.int .i64 aM,.int .i64 aN,.int .i64 aO,.int .i64 0,.slice none 0 0,.slice none 0 0,.int .i64 0,.string (⟨#[]⟩ : ByteArray),.bool false]) ?_ 3 _ rfl; (with_reducible repeat (first | refine zj ?_ _ | refine zl ?_ | refine zk ?_ _)); refine zp (cs := #[.int .i64 aM,.int .i64 aN,.int .i64 0,.int .i64 0,.slice none 0 0,.slice none 0 0,.int .i64 0,.string (⟨#[]⟩ : ByteArray),.bool false]) ?_ 2 _ rfl; (with_reducible repeat (first | refine zj ?_ _ | refine zl ?_ | refine zk ?_ _)); refine zp (cs := #[.int .i64 aM,.int .i64 0,.int .i64 0,.int .i64 0,.slice none 0 0,.slice none 0 0,.int .i64 0,.string (⟨#[]⟩ : ByteArray),.bool false]) ?_ 1 _ rfl; (with_reducible repeat (first | refine zj ?_ _ | refine zl ?_ | refine zk ?_ _)); refine zp (cs := #[.int .i64 0,.int .i64 0,.int .i64 0,.int .i64 0,.slice none 0 0,.slice none 0 0,.int .i64 0,.string (⟨#[]⟩ : ByteArray),.bool false]) ?_ 0 _ rfl; (with_reducible repeat (first | refine zj ?_ _ | refine zl ?_ | refine zk ?_ _)); exact ae.out) hb); have cj := zzk (Zs (by repeat (first | (with_reducible first | exact HB.out | apply Zq | apply Zp | apply Zo | refine Zn ?_ aS.out | refine Zn ?_ br.out) | exact HB.out)) hb); clear ba; clear bb; clear ab; clear ae; clear HB; have ba := bR; have bb := bS; have bs := bY; have bt := bZ; have ab := ch; have ae := ci; have HB := cj; clear bR bS bY bZ ch ci cj; (try clear hb); (try clear hb2); (try clear hk); (try clear hi); (try clear ho0); (try clear ho1)) | ((with_reducible refine Zy (N := 8) rfl ?_); (try (refine Zz (by rfl) ?_; dsimp only)); refine zzc ?hg (N := 8) ?hd (cs := #[.int .i64 0,.int .i64 0,.int .i64 0,.int .i64 0,.slice none 0 0,.slice none 0 0,.int .i64 0,.string (⟨#[]⟩ : ByteArray),.bool false]) (t := 34) ?hr ?_; (case hd => rfl); (case hg => rfl); (case hr => first | (go_simp; done) | (go_simp; rfl)); intro ac hg dw hbox hb; have bR := zzk (zv (by (with_reducible repeat (first | apply zu | apply zt | apply zs)); exact ba.out) hb); have bS := zzk (zv (by (with_reducible repeat (first | apply zu | apply zt | apply zs)); exact bb.out) hb); have bY := zzk (zv (by (with_reducible repeat (first | apply zu | apply zt | apply zs)); exact bs.out) hb); have bZ := zzk (zv (by (with_reducible repeat (first | apply zu | apply zt | apply zs)); exact bt.out) hb); have ch := zzk (zo (g := ah) (o := .cells #[.int .i64 ay,.int .i64 az,.int .i64 aA,.int .i64 aB,.slice bz aw.length bA,.slice bB ax.length bC,.int .i64 aC,.string av,.bool aD] 34 (0,0)) (by (with_reducible repeat (first | refine zj ?_ _ | refine zl ?_ | refine zk ?_ _)); exact ab.out) hb); have ci := zzk (zo (g := ag) (o := .cells #[.int .i64 aM,.int .i64 aN,.int .i64 aO,.int .i64 aP,.slice bT aX.length bI,.slice bW bc.length bO,.int .i64 aQ,.string aR,.bool aT] 34 (0,0)) (by (with_reducible repeat (first | refine zj ?_ _ | refine zl ?_ | refine zk ?_ _)); exact ae.out) hb); have cj := zzk (Zs (by repeat (first | (with_reducible first | exact HB.out | apply Zq | apply Zp | apply Zo | refine Zn ?_ aS.out | refine Zn ?_ br.out) | exact HB.out)) hb); have cn := zzk (hbox); have co := zzk ((by rw [hg]; exact (Zr (by repeat (first | (with_reducible first | exact HB.out | apply Zq | apply Zp | apply Zo | refine Zn ?_ aS.out | refine Zn ?_ br.out) | exact HB.out))) : w.heap.size ≤ ac)); have cx := zzk ((by rw [hg]; exact (Zr (by repeat (first | (with_reducible first | exact HB.out | apply Zq | apply Zp | apply Zo | refine Zn ?_ aS.out | refine Zn ?_ br.out) | exact HB.out))) : w.heap.size ≤ ac)); have cd := zzk ((by rw [hg]; exact Nat.ne_of_lt (zq (g := ah) (o := .cells #[.int .i64 ay,.int .i64 az,.int .i64 aA,.int .i64 aB,.slice bz aw.length bA,.slice bB ax.length bC,.int .i64 aC,.string av,.bool aD] 34 (0,0)) (by (with_reducible repeat (first | refine zj ?_ _ | refine zl ?_ | refine zk ?_ _)); exact ab.out)) : ah ≠ ac)); have ce := zzk ((by rw [hg]; exact Nat.ne_of_gt (zq (g := ah) (o := .cells #[.int .i64 ay,.int .i64 az,.int .i64 aA,.int .i64 aB,.slice bz aw.length bA,.slice bB ax.length bC,.int .i64 aC,.string av,.bool aD] 34 (0,0)) (by (with_reducible repeat (first | refine zj ?_ _ | refine zl ?_ | refine zk ?_ _)); exact ab.out)) : ac ≠ ah)); have cf := zzk ((by rw [hg]; exact Nat.ne_of_lt (zq (g := ag) (o := .cells #[.int .i64 aM,.int .i64 aN,.int .i64 aO,.int .i64 aP,.slice bT aX.length bI,.slice bW bc.length bO,.int .i64 aQ,.string aR,.bool aT] 34 (0,0)) (by (with_reducible repeat (first | refine zj ?_ _ | refine zl ?_ | refine zk ?_ _)); exact ae.out)) : ag ≠ ac)); have cl := zzk ((by rw [hg]; exact Nat.ne_of_gt (zq (g := ag) (o := .cells #[.int .i64 aM,.int .i64 aN,.int .i64 aO,.int .i64 aP,.slice bT aX.length bI,.slice bW bc.length bO,.int .i64 aQ,.string aR,.bool aT] 34 (0,0)) (by (with_reducible repeat (first | refine zj ?_ _ | refine zl ?_ | refine zk ?_ _)); exact ae.out)) : ac ≠ ag)); clear ba; clear bb; clear bs; clear bt; clear ab; clear ae; clear HB; have ba := bR; have bb := bS; have bs := bY; have bt := bZ; have ab := ch; have ae := ci; have HB := cj; have af := cn; have pM := co; have ca := cx; have cp := cd; have dB := ce; have cq := cf; have dC := cl; clear bR bS bY bZ ch ci cj cn co cx cd ce cf cl; clear hb hbox hg; have pN := dB.out; have pO := cp.out; have pP := dC.out; have pQ := cq.out; have hc : dw.cell? ⟨ac,0,none⟩ = some (.int .i64 0) := (zi af.out 0).trans rfl; have hf : dw.cell? ⟨ac,1,none⟩ = some (.int .i64 0) := (zi af.out 1).trans rfl; have hh : dw.cell? ⟨ac,2,none⟩ = some (.int .i64 0) := (zi af.out 2).trans rfl; have hj : dw.cell? ⟨ac,3,none⟩ = some (.int .i64 0) := (zi af.out 3).trans rfl; have hl : dw.cell? ⟨ac,4,none⟩ = some (.slice none 0 0) := (zi af.out 4).trans rfl; have hm : dw.cell? ⟨ac,5,none⟩ = some (.slice none 0 0) := (zi af.out 5).trans rfl; have hq : dw.cell? ⟨ac,6,none⟩ = some (.int .i64 0) := (zi af.out 6).trans rfl; have ht : dw.cell? ⟨ac,7,none⟩ = some (.string (⟨#[]⟩ : ByteArray)) := (zi af.out 7).trans rfl; have hu : dw.cell? ⟨ac,8,none⟩ = some (.bool false) := (zi af.out 8).trans rfl; have hv := zm af.out 0; have hx := zm af.out 1; have hy := zm af.out 2; have hz := zm af.out 3; have ia := zm af.out 4; have ib := zm af.out 5; have ic := zm af.out 6; have ie := zm af.out 7; have ig := zm af.out 8; obtain ⟨bJ,bE,eo38⟩ := zz bs.out; subst eo38; obtain ⟨bP,bK,eo39⟩ := zz bt.out; subst eo39; have ih : dw.cell? ⟨ag,0,none⟩ = some (.int .i64 aM) := (zi ae.out 0).trans rfl; have ii : dw.cell? ⟨ag,1,none⟩ = some (.int .i64 aN) := (zi ae.out 1).trans rfl; have ij : dw.cell? ⟨ag,2,none⟩ = some (.int .i64 aO) := (zi ae.out 2).trans rfl; have ik : dw.cell? ⟨ag,3,none⟩ = some (.int .i64 aP) := (zi ae.out 3).trans rfl; have il : dw.cell? ⟨ag,4,none⟩ = some (.slice bT aX.length bI) := (zi ae.out 4).trans rfl; have im : dw.cell? ⟨ag,5,none⟩ = some (.slice bW bc.length bO) := (zi ae.out 5).trans rfl; have ip : dw.cell? ⟨ag,6,none⟩ = some (.int .i64 aQ) := (zi ae.out 6).trans rfl; have iq : dw.cell? ⟨ag,7,none⟩ = some (.string aR) := (zi ae.out 7).trans rfl; have ir : dw.cell? ⟨ag,8,none⟩ = some (.bool aT) := (zi ae.out 8).trans rfl; have it := zm ae.out 0; have iu := zm ae.out 1; have iv := zm ae.out 2; have iw := zm ae.out 3; have ix := zm ae.out 4; have iy := zm ae.out 5; have iz := zm ae.out 6; have iA := zm ae.out 7; have iB := zm ae.out 8) | ((with_reducible refine zza (f := 23) rfl ?_); refine zzd (some 49) rfl rfl Try.func23 (by kernel_rfl) rfl #[.agg #[.int .i64 aM,.int .i64 aN,.int .i64 aO,.int .i64 aP,.slice bT aX.length bI,.slice bW bc.length bO,.int .i64 aQ,.string aR,.bool aT],.int .i64 a1,.string a2] rfl (by (try simp only [zd,ze,zf]); first | done | rfl | (simp only [zg,zh]; rfl)) ?_; (with_reducible refine (r16_Take.calls cg aM aN aO aP _ _ aX _ _ bc aQ aR aT a1 a2 bo bq bu bw bv bx bD bH bN dW et _ ?side1 ?side2 ?side3 ?side4 oF.out).mono ?_); (case side1 => refine (zw (e := 3) (base := w.heap.size) (ok := fun k_ => ((some k_ ≠ (.slice bW bc.length bO : Value).ownBlock ∧ some k_ ≠ (.slice bJ bf.length bE : Value).ownBlock) ∧ some k_ ≠ (.slice bP bh.length bK : Value).ownBlock)) (n := aX.length) (c := bI) ?_).2.2; exact (by (with_reducible repeat (first | apply zu | apply zt | apply zs)); exact (zx (zr (p := ⟨ac,8,none⟩) (zr (p := ⟨ac,7,none⟩) (zr (p := ⟨ac,6,none⟩) (zr (p := ⟨ac,5,none⟩) (zr (p := ⟨ac,4,none⟩) (zr (p := ⟨ac,3,none⟩) (zr (p := ⟨ac,2,none⟩) (zr (p := ⟨ac,1,none⟩) (zr (p := ⟨ac,0,none⟩) (zy ba.out af.out (by decide)) (fun _ hk => hk.2) (.int .i64 aU)) (fun _ hk => hk.2) (.int .i64 aY)) (fun _ hk => hk.2) (.int .i64 bd)) (fun _ hk => hk.2) (.int .i64 be)) (fun _ hk => hk.2) (.slice bJ bf.length bE)) (fun _ hk => hk.2) (.slice bP bh.length bK)) (fun _ hk => hk.2) (.int .i64 bi)) (fun _ hk => hk.2) (.string bk)) (fun _ hk => hk.2) (.bool bm)) (fun _ h_ => h_.1)))); (case side2 => exact (zw ba.out).2.1); (case side3 => refine (zw (e := 3) (base := w.heap.size) (ok := fun k_ => ((some k_ ≠ (.slice bT aX.length bI : Value).ownBlock ∧ some k_ ≠ (.slice bJ bf.length bE : Value).ownBlock) ∧ some k_ ≠ (.slice bP bh.length bK : Value).ownBlock)) (n := bc.length) (c := bO) ?_).2.2; exact (by (with_reducible repeat (first | apply zu | apply zt | apply zs)); exact (zx (zr (p := ⟨ac,8,none⟩) (zr (p := ⟨ac,7,none⟩) (zr (p := ⟨ac,6,none⟩) (zr (p := ⟨ac,5,none⟩) (zr (p := ⟨ac,4,none⟩) (zr (p := ⟨ac,3,none⟩) (zr (p := ⟨ac,2,none⟩) (zr (p := ⟨ac,1,none⟩) (zr (p := ⟨ac,0,none⟩) (zy bb.out af.out (by decide)) (fun _ hk => hk.2) (.int .i64 aU)) (fun _ hk => hk.2) (.int .i64 aY)) (fun _ hk => hk.2) (.int .i64 bd)) (fun _ hk => hk.2) (.int .i64 be)) (fun _ hk => hk.2) (.slice bJ bf.length bE)) (fun _ hk => hk.2) (.slice bP bh.length bK)) (fun _ hk => hk.2) (.int .i64 bi)) (fun _ hk => hk.2) (.string bk)) (fun _ hk => hk.2) (.bool bm)) (fun _ h_ => h_.1)))); (case side4 => exact (zw bb.out).2.1); rintro e rk ⟨qW,qX,rfl,ho0,ho1,hb⟩; refine ⟨_,rfl,?_⟩; have bR := zzk (zx (Zc (Zc (Kd.R_old (by (with_reducible repeat (first | apply zu | apply zt | apply zs)); exact (zx (zr (p := ⟨ac,8,none⟩) (zr (p := ⟨ac,7,none⟩) (zr (p := ⟨ac,6,none⟩) (zr (p := ⟨ac,5,none⟩) (zr (p := ⟨ac,4,none⟩) (zr (p := ⟨ac,3,none⟩) (zr (p := ⟨ac,2,none⟩) (zr (p := ⟨ac,1,none⟩) (zr (p := ⟨ac,0,none⟩) (zy ba.out af.out (by decide)) (fun _ hk => hk.2) (.int .i64 aU)) (fun _ hk => hk.2) (.int .i64 aY)) (fun _ hk => hk.2) (.int .i64 bd)) (fun _ hk => hk.2) (.int .i64 be)) (fun _ hk => hk.2) (.slice bJ bf.length bE)) (fun _ hk => hk.2) (.slice bP bh.length bK)) (fun _ hk => hk.2) (.int .i64 bi)) (fun _ hk => hk.2) (.string bk)) (fun _ hk => hk.2) (.bool bm)) (fun _ h_ => h_.1))) hb) (Zd ho0)) (Zd ho1)) (fun _ h_ => h_.1)); have bS := zzk (zx (Zc (Zc (Kd.R_old (by (with_reducible repeat (first | apply zu | apply zt | apply zs)); exact (zx (zr (p := ⟨ac,8,none⟩) (zr (p := ⟨ac,7,none⟩) (zr (p := ⟨ac,6,none⟩) (zr (p := ⟨ac,5,none⟩) (zr (p := ⟨ac,4,none⟩) (zr (p := ⟨ac,3,none⟩) (zr (p := ⟨ac,2,none⟩) (zr (p := ⟨ac,1,none⟩) (zr (p := ⟨ac,0,none⟩) (zy bb.out af.out (by decide)) (fun _ hk => hk.2) (.int .i64 aU)) (fun _ hk => hk.2) (.int .i64 aY)) (fun _ hk => hk.2) (.int .i64 bd)) (fun _ hk => hk.2) (.int .i64 be)) (fun _ hk => hk.2) (.slice bJ bf.length bE)) (fun _ hk => hk.2) (.slice bP bh.length bK)) (fun _ hk => hk.2) (.int .i64 bi)) (fun _ hk => hk.2) (.string bk)) (fun _ hk => hk.2) (.bool bm)) (fun _ h_ => h_.1))) hb) (Zd ho0)) (Zd ho1)) (fun _ h_ => h_.1)); have bY := zzk (zx (Zc (Zc (Kd.R_old (by (with_reducible repeat (first | apply zu | apply zt | apply zs)); exact (zx (zr (p := ⟨ac,8,none⟩) (zr (p := ⟨ac,7,none⟩) (zr (p := ⟨ac,6,none⟩) (zr (p := ⟨ac,5,none⟩) (zr (p := ⟨ac,4,none⟩) (zr (p := ⟨ac,3,none⟩) (zr (p := ⟨ac,2,none⟩) (zr (p := ⟨ac,1,none⟩) (zr (p := ⟨ac,0,none⟩) (zy bs.out af.out (by decide)) (fun _ hk => hk.2) (.int .i64 aU)) (fun _ hk => hk.2) (.int .i64 aY)) (fun _ hk => hk.2) (.int .i64 bd)) (fun _ hk => hk.2) (.int .i64 be)) (fun _ hk => hk.2) (.slice bJ bf.length bE)) (fun _ hk => hk.2) (.slice bP bh.length bK)) (fun _ hk => hk.2) (.int .i64 bi)) (fun _ hk => hk.2) (.string bk)) (fun _ hk => hk.2) (.bool bm)) (fun _ h_ => h_.1))) hb) (Zd ho0)) (Zd ho1)) (fun _ h_ => h_.1)); have bZ := zzk (zx (Zc (Zc (Kd.R_old (by (with_reducible repeat (first | apply zu | apply zt | apply zs)); exact (zx (zr (p := ⟨ac,8,none⟩) (zr (p := ⟨ac,7,none⟩) (zr (p := ⟨ac,6,none⟩) (zr (p := ⟨ac,5,none⟩) (zr (p := ⟨ac,4,none⟩) (zr (p := ⟨ac,3,none⟩) (zr (p := ⟨ac,2,none⟩) (zr (p := ⟨ac,1,none⟩) (zr (p := ⟨ac,0,none⟩) (zy bt.out af.out (by decide)) (fun _ hk => hk.2) (.int .i64 aU)) (fun _ hk => hk.2) (.int .i64 aY)) (fun _ hk => hk.2) (.int .i64 bd)) (fun _ hk => hk.2) (.int .i64 be)) (fun _ hk => hk.2) (.slice bJ bf.length bE)) (fun _ hk => hk.2) (.slice bP bh.length bK)) (fun _ hk => hk.2) (.int .i64 bi)) (fun _ hk => hk.2) (.string bk)) (fun _ hk => hk.2) (.bool bm)) (fun _ h_ => h_.1))) hb) (Zd ho0)) (Zd ho1)) (fun _ h_ => h_.1)); have ch := zzk (Za (Zb (Zb (Zb (Zb ho0 (Kd.R_lt (by (with_reducible repeat (first | apply zu | apply zt | apply zs)); exact (zx (zr (p := ⟨ac,8,none⟩) (zr (p := ⟨ac,7,none⟩) (zr (p := ⟨ac,6,none⟩) (zr (p := ⟨ac,5,none⟩) (zr (p := ⟨ac,4,none⟩) (zr (p := ⟨ac,3,none⟩) (zr (p := ⟨ac,2,none⟩) (zr (p := ⟨ac,1,none⟩) (zr (p := ⟨ac,0,none⟩) (zy ba.out af.out (by decide)) (fun _ hk => hk.2) (.int .i64 aU)) (fun _ hk => hk.2) (.int .i64 aY)) (fun _ hk => hk.2) (.int .i64 bd)) (fun _ hk => hk.2) (.int .i64 be)) (fun _ hk => hk.2) (.slice bJ bf.length bE)) (fun _ hk => hk.2) (.slice bP bh.length bK)) (fun _ hk => hk.2) (.int .i64 bi)) (fun _ hk => hk.2) (.string bk)) (fun _ hk => hk.2) (.bool bm)) (fun _ h_ => h_.1))))) (Kd.R_lt (by (with_reducible repeat (first | apply zu | apply zt | apply zs)); exact (zx (zr (p := ⟨ac,8,none⟩) (zr (p := ⟨ac,7,none⟩) (zr (p := ⟨ac,6,none⟩) (zr (p := ⟨ac,5,none⟩) (zr (p := ⟨ac,4,none⟩) (zr (p := ⟨ac,3,none⟩) (zr (p := ⟨ac,2,none⟩) (zr (p := ⟨ac,1,none⟩) (zr (p := ⟨ac,0,none⟩) (zy bb.out af.out (by decide)) (fun _ hk => hk.2) (.int .i64 aU)) (fun _ hk => hk.2) (.int .i64 aY)) (fun _ hk => hk.2) (.int .i64 bd)) (fun _ hk => hk.2) (.int .i64 be)) (fun _ hk => hk.2) (.slice bJ bf.length bE)) (fun _ hk => hk.2) (.slice bP bh.length bK)) (fun _ hk => hk.2) (.int .i64 bi)) (fun _ hk => hk.2) (.string bk)) (fun _ hk => hk.2) (.bool bm)) (fun _ h_ => h_.1))))) (Kd.R_lt (by (with_reducible repeat (first | apply zu | apply zt | apply zs)); exact (zx (zr (p := ⟨ac,8,none⟩) (zr (p := ⟨ac,7,none⟩) (zr (p := ⟨ac,6,none⟩) (zr (p := ⟨ac,5,none⟩) (zr (p := ⟨ac,4,none⟩) (zr (p := ⟨ac,3,none⟩) (zr (p := ⟨ac,2,none⟩) (zr (p := ⟨ac,1,none⟩) (zr (p := ⟨ac,0,none⟩) (zy bs.out af.out (by decide)) (fun _ hk => hk.2) (.int .i64 aU)) (fun _ hk => hk.2) (.int .i64 aY)) (fun _ hk => hk.2) (.int .i64 bd)) (fun _ hk => hk.2) (.int .i64 be)) (fun _ hk => hk.2) (.slice bJ bf.length bE)) (fun _ hk => hk.2) (.slice bP bh.length bK)) (fun _ hk => hk.2) (.int .i64 bi)) (fun _ hk => hk.2) (.string bk)) (fun _ hk => hk.2) (.bool bm)) (fun _ h_ => h_.1))))) (Kd.R_lt (by (with_reducible repeat (first | apply zu | apply zt | apply zs)); exact (zx (zr (p := ⟨ac,8,none⟩) (zr (p := ⟨ac,7,none⟩) (zr (p := ⟨ac,6,none⟩) (zr (p := ⟨ac,5,none⟩) (zr (p := ⟨ac,4,none⟩) (zr (p := ⟨ac,3,none⟩) (zr (p := ⟨ac,2,none⟩) (zr (p := ⟨ac,1,none⟩) (zr (p := ⟨ac,0,none⟩) (zy bt.out af.out (by decide)) (fun _ hk => hk.2) (.int .i64 aU)) (fun _ hk => hk.2) (.int .i64 aY)) (fun _ hk => hk.2) (.int .i64 bd)) (fun _ hk => hk.2) (.int .i64 be)) (fun _ hk => hk.2) (.slice bJ bf.length bE)) (fun _ hk => hk.2) (.slice bP bh.length bK)) (fun _ hk => hk.2) (.int .i64 bi)) (fun _ hk => hk.2) (.string bk)) (fun _ hk => hk.2) (.bool bm)) (fun _ h_ => h_.1))))) (Zr (by repeat (first | (with_reducible first | exact HB.out | apply Zq | apply Zp | apply Zo | refine Zn ?_ aS.out | refine Zn ?_ br.out | refine Zn ?_ ca.out) | exact HB.out)))); have ci := zzk (Za (Zb (Zb (Zb (Zb ho1 (Kd.R_lt (by (with_reducible repeat (first | apply zu | apply zt | apply zs)); exact (zx (zr (p := ⟨ac,8,none⟩) (zr (p := ⟨ac,7,none⟩) (zr (p := ⟨ac,6,none⟩) (zr (p := ⟨ac,5,none⟩) (zr (p := ⟨ac,4,none⟩) (zr (p := ⟨ac,3,none⟩) (zr (p := ⟨ac,2,none⟩) (zr (p := ⟨ac,1,none⟩) (zr (p := ⟨ac,0,none⟩) (zy ba.out af.out (by decide)) (fun _ hk => hk.2) (.int .i64 aU)) (fun _ hk => hk.2) (.int .i64 aY)) (fun _ hk => hk.2) (.int .i64 bd)) (fun _ hk => hk.2) (.int .i64 be)) (fun _ hk => hk.2) (.slice bJ bf.length bE)) (fun _ hk => hk.2) (.slice bP bh.length bK)) (fun _ hk => hk.2) (.int .i64 bi)) (fun _ hk => hk.2) (.string bk)) (fun _ hk => hk.2) (.bool bm)) (fun _ h_ => h_.1))))) (Kd.R_lt (by (with_reducible repeat (first | apply zu | apply zt | apply zs)); exact (zx (zr (p := ⟨ac,8,none⟩) (zr (p := ⟨ac,7,none⟩) (zr (p := ⟨ac,6,none⟩) (zr (p := ⟨ac,5,none⟩) (zr (p := ⟨ac,4,none⟩) (zr (p := ⟨ac,3,none⟩) (zr (p := ⟨ac,2,none⟩) (zr (p := ⟨ac,1,none⟩) (zr (p := ⟨ac,0,none⟩) (zy bb.out af.out (by decide)) (fun _ hk => hk.2) (.int .i64 aU)) (fun _ hk => hk.2) (.int .i64 aY)) (fun _ hk => hk.2) (.int .i64 bd)) (fun _ hk => hk.2) (.int .i64 be)) (fun _ hk => hk.2) (.slice bJ bf.length bE)) (fun _ hk => hk.2) (.slice bP bh.length bK)) (fun _ hk => hk.2) (.int .i64 bi)) (fun _ hk => hk.2) (.string bk)) (fun _ hk => hk.2) (.bool bm)) (fun _ h_ => h_.1))))) (Kd.R_lt (by (with_reducible repeat (first | apply zu | apply zt | apply zs)); exact (zx (zr (p := ⟨ac,8,none⟩) (zr (p := ⟨ac,7,none⟩) (zr (p := ⟨ac,6,none⟩) (zr (p := ⟨ac,5,none⟩) (zr (p := ⟨ac,4,none⟩) (zr (p := ⟨ac,3,none⟩) (zr (p := ⟨ac,2,none⟩) (zr (p := ⟨ac,1,none⟩) (zr (p := ⟨ac,0,none⟩) (zy bs.out af.out (by decide)) (fun _ hk => hk.2) (.int .i64 aU)) (fun _ hk => hk.2) (.int .i64 aY)) (fun _ hk => hk.2) (.int .i64 bd)) (fun _ hk => hk.2) (.int .i64 be)) (fun _ hk => hk.2) (.slice bJ bf.length bE)) (fun _ hk => hk.2) (.slice bP bh.length bK)) (fun _ hk => hk.2) (.int .i64 bi)) (fun _ hk => hk.2) (.string bk)) (fun _ hk => hk.2) (.bool bm)) (fun _ h_ => h_.1))))) (Kd.R_lt (by (with_reducible repeat (first | apply zu | apply zt | apply zs)); exact (zx (zr (p := ⟨ac,8,none⟩) (zr (p := ⟨ac,7,none⟩) (zr (p := ⟨ac,6,none⟩) (zr (p := ⟨ac,5,none⟩) (zr (p := ⟨ac,4,none⟩) (zr (p := ⟨ac,3,none⟩) (zr (p := ⟨ac,2,none⟩) (zr (p := ⟨ac,1,none⟩) (zr (p := ⟨ac,0,none⟩) (zy bt.out af.out (by decide)) (fun _ hk => hk.2) (.int .i64 aU)) (fun _ hk => hk.2) (.int .i64 aY)) (fun _ hk => hk.2) (.int .i64 bd)) (fun _ hk => hk.2) (.int .i64 be)) (fun _ hk => hk.2) (.slice bJ bf.length bE)) (fun _ hk => hk.2) (.slice bP bh.length bK)) (fun _ hk => hk.2) (.int .i64 bi)) (fun _ hk => hk.2) (.string bk)) (fun _ hk => hk.2) (.bool bm)) (fun _ h_ => h_.1))))) (Zr (by repeat (first | (with_reducible first | exact HB.out | apply Zq | apply Zp | apply Zo | refine Zn ?_ aS.out | refine Zn ?_ br.out | refine Zn ?_ ca.out) | exact HB.out)))); have cj := zzk (zo (g := ah) (o := .cells #[.int .i64 ay,.int .i64 az,.int .i64 aA,.int .i64 aB,.slice bz aw.length bA,.slice bB ax.length bC,.int .i64 aC,.string av,.bool aD] 34 (0,0)) (by (with_reducible repeat (first | refine zj ?_ _ | refine zl ?_ | refine zk ?_ _)); refine zn ?_ cp.out _; (with_reducible repeat (first | refine zj ?_ _ | refine zl ?_ | refine zk ?_ _)); refine zn ?_ cp.out _; (with_reducible repeat (first | refine zj ?_ _ | refine zl ?_ | refine zk ?_ _)); refine zn ?_ cp.out _; (with_reducible repeat (first | refine zj ?_ _ | refine zl ?_ | refine zk ?_ _)); refine zn ?_ cp.out _; (with_reducible repeat (first | refine zj ?_ _ | refine zl ?_ | refine zk ?_ _)); refine zn ?_ cp.out _; (with_reducible repeat (first | refine zj ?_ _ | refine zl ?_ | refine zk ?_ _)); refine zn ?_ cp.out _; (with_reducible repeat (first | refine zj ?_ _ | refine zl ?_ | refine zk ?_ _)); refine zn ?_ cp.out _; (with_reducible repeat (first | refine zj ?_ _ | refine zl ?_ | refine zk ?_ _)); refine zn ?_ cp.out _; (with_reducible repeat (first | refine zj ?_ _ | refine zl ?_ | refine zk ?_ _)); refine zn ?_ cp.out _; (with_reducible repeat (first | refine zj ?_ _ | refine zl ?_ | refine zk ?_ _)); exact ab.out) hb); have cn := zzk (zo (g := ag) (o := .cells #[.int .i64 aM,.int .i64 aN,.int .i64 aO,.int .i64 aP,.slice bT aX.length bI,.slice bW bc.length bO,.int .i64 aQ,.string aR,.bool aT] 34 (0,0)) (by (with_reducible repeat (first | refine zj ?_ _ | refine zl ?_ | refine zk ?_ _)); refine zn ?_ cq.out _; (with_reducible repeat (first | refine zj ?_ _ | refine zl ?_ | refine zk ?_ _)); refine zn ?_ cq.out _; (with_reducible repeat (first | refine zj ?_ _ | refine zl ?_ | refine zk ?_ _)); refine zn ?_ cq.out _; (with_reducible repeat (first | refine zj ?_ _ | refine zl ?_ | refine zk ?_ _)); refine zn ?_ cq.out _; (with_reducible repeat (first | refine zj ?_ _ | refine zl ?_ | refine zk ?_ _)); refine zn ?_ cq.out _; (with_reducible repeat (first | refine zj ?_ _ | refine zl ?_ | refine zk ?_ _)); refine zn ?_ cq.out _; (with_reducible repeat (first | refine zj ?_ _ | refine zl ?_ | refine zk ?_ _)); refine zn ?_ cq.out _; (with_reducible repeat (first | refine zj ?_ _ | refine zl ?_ | refine zk ?_ _)); refine zn ?_ cq.out _; (with_reducible repeat (first | refine zj ?_ _ | refine zl ?_ | refine zk ?_ _)); refine zn ?_ cq.out _; (with_reducible repeat (first | refine zj ?_ _ | refine zl ?_ | refine zk ?_ _)); exact ae.out) hb); have co := zzk (zo (g := ac) (o := .cells #[.int .i64 aU,.int .i64 aY,.int .i64 bd,.int .i64 be,.slice bJ bf.length bE,.slice bP bh.length bK,.int .i64 bi,.string bk,.bool bm] 34 (0,0)) (by (with_reducible repeat (first | refine zj ?_ _ | refine zl ?_ | refine zk ?_ _)); refine zp (cs := #[.int .i64 aU,.int .i64 aY,.int .i64 bd,.int .i64 be,.slice bJ bf.length bE,.slice bP bh.length bK,.int .i64 bi,.string bk,.bool false]) ?_ 8 _ rfl; (with_reducible repeat (first | refine zj ?_ _ | refine zl ?_ | refine zk ?_ _)); refine zp (cs := #[.int .i64 aU,.int .i64 aY,.int .i64 bd,.int .i64 be,.slice bJ bf.length bE,.slice bP bh.length bK,.int .i64 bi,.string (⟨#[]⟩ : ByteArray),.bool false]) ?_ 7 _ rfl; (with_reducible repeat (first | refine zj ?_ _ | refine zl ?_ | refine zk ?_ _)); refine zp (cs := #[.int .i64 aU,.int .i64 aY,.int .i64 bd,.int .i64 be,.slice bJ bf.length bE,.slice bP bh.length bK,.int .i64 0,.string (⟨#[]⟩ : ByteArray),.bool false]) ?_ 6 _ rfl; (with_reducible repeat (first | refine zj ?_ _ | refine zl ?_ | refine zk ?_ _)); refine zp (cs := #[.int .i64 aU,.int .i64 aY,.int .i64 bd,.int .i64 be,.slice bJ bf.length bE,.slice none 0 0,.int .i64 0,.string (⟨#[]⟩ : ByteArray),.bool false]) ?_ 5 _ rfl; (with_reducible repeat (first | refine zj ?_ _ | refine zl ?_ | refine zk ?_ _)); refine zp (cs := #[.int .i64 aU,.int .i64 aY,.int .i64 bd,.int .i64 be,.slice none 0 0,.slice none 0 0,.int .i64 0,.string (⟨#[]⟩ : ByteArray),.bool false]) ?_ 4 _ rfl; (with_reducible repeat (first | refine zj ?_ _ | refine zl ?_ | refine zk ?_ _)); refine zp (cs := #[.int .i64 aU,.int .i64 aY,.int .i64 bd,.int .i64 0,.slice none 0 0,.slice none 0 0,.int .i64 0,.string (⟨#[]⟩ : ByteArray),.bool false]) ?_ 3 _ rfl; (with_reducible repeat (first | refine zj ?_ _ | refine zl ?_ | refine zk ?_ _)); refine zp (cs := #[.int .i64 aU,.int .i64 aY,.int .i64 0,.int .i64 0,.slice none 0 0,.slice none 0 0,.int .i64 0,.string (⟨#[]⟩ : ByteArray),.bool false]) ?_ 2 _ rfl; (with_reducible repeat (first | refine zj ?_ _ | refine zl ?_ | refine zk ?_ _)); refine zp (cs := #[.int .i64 aU,.int .i64 0,.int .i64 0,.int .i64 0,.slice none 0 0,.slice none 0 0,.int .i64 0,.string (⟨#[]⟩ : ByteArray),.bool false]) ?_ 1 _ rfl; (with_reducible repeat (first | refine zj ?_ _ | refine zl ?_ | refine zk ?_ _)); refine zp (cs := #[.int .i64 0,.int .i64 0,.int .i64 0,.int .i64 0,.slice none 0 0,.slice none 0 0,.int .i64 0,.string (⟨#[]⟩ : ByteArray),.bool false]) ?_ 0 _ rfl; (with_reducible repeat (first | refine zj ?_ _ | refine zl ?_ | refine zk ?_ _)); exact af.out) hb); have cx := zzk (Zs (by repeat (first | (with_reducible first | exact HB.out | apply Zq | apply Zp | apply Zo | refine Zn ?_ aS.out | refine Zn ?_ br.out | refine Zn ?_ ca.out) | exact HB.out)) hb); clear ba; clear bb; clear bs; clear bt; clear ab; clear ae; clear af; clear HB; have ba := bR; have bb := bS; have bs := bY; have bt := bZ; have cb := ch; have cc := ci; have ab := cj; have ae := cn; have af := co; have HB := cx; clear bR bS bY bZ ch ci cj cn co cx; (try clear hb); (try clear hb2); (try clear hk); (try clear hi); (try clear ho0); (try clear ho1)) | ((with_reducible refine Zy (N := 11) rfl ?_); (try (refine Zz (by rfl) ?_; dsimp only)); refine zzc ?hg (N := 11) ?hd (cs := #[.int .i64 0,.int .i64 0,.int .i64 0,.int .i64 0,.slice none 0 0,.slice none 0 0,.int .i64 0,.string (⟨#[]⟩ : ByteArray),.bool false]) (t := 34) ?hr ?_; (case hd => rfl); (case hg => rfl); (case hr => first | (go_simp; done) | (go_simp; rfl)); intro aa hg dx hbox hb; have bR := zzk (zv (by (with_reducible repeat (first | apply zu | apply zt | apply zs)); exact ba.out) hb); have bS := zzk (zv (by (with_reducible repeat (first | apply zu | apply zt | apply zs)); exact bb.out) hb); have bY := zzk (zv (by (with_reducible repeat (first | apply zu | apply zt | apply zs)); exact bs.out) hb); have bZ := zzk (zv (by (with_reducible repeat (first | apply zu | apply zt | apply zs)); exact bt.out) hb); have ch := zzk (zv (by (with_reducible repeat (first | apply zu | apply zt | apply zs)); exact cb.out) hb); have ci := zzk (zv (by (with_reducible repeat (first | apply zu | apply zt | apply zs)); exact cc.out) hb); have cj := zzk (zo (g := ah) (o := .cells #[.int .i64 ay,.int .i64 az,.int .i64 aA,.int .i64 aB,.slice bz aw.length bA,.slice bB ax.length bC,.int .i64 aC,.string av,.bool aD] 34 (0,0)) (by (with_reducible repeat (first | refine zj ?_ _ | refine zl ?_ | refine zk ?_ _)); exact ab.out) hb); have cn := zzk (zo (g := ag) (o := .cells #[.int .i64 aM,.int .i64 aN,.int .i64 aO,.int .i64 aP,.slice bT aX.length bI,.slice bW bc.length bO,.int .i64 aQ,.string aR,.bool aT] 34 (0,0)) (by (with_reducible repeat (first | refine zj ?_ _ | refine zl ?_ | refine zk ?_ _)); exact ae.out) hb); have co := zzk (zo (g := ac) (o := .cells #[.int .i64 aU,.int .i64 aY,.int .i64 bd,.int .i64 be,.slice bJ bf.length bE,.slice bP bh.length bK,.int .i64 bi,.string bk,.bool bm] 34 (0,0)) (by (with_reducible repeat (first | refine zj ?_ _ | refine zl ?_ | refine zk ?_ _)); exact af.out) hb); have cx := zzk (Zs (by repeat (first | (with_reducible first | exact HB.out | apply Zq | apply Zp | apply Zo | refine Zn ?_ aS.out | refine Zn ?_ br.out | refine Zn ?_ ca.out) | exact HB.out)) hb); have cd := zzk (hbox); have ce := zzk ((by rw [hg]; exact (Zr (by repeat (first | (with_reducible first | exact HB.out | apply Zq | apply Zp | apply Zo | refine Zn ?_ aS.out | refine Zn ?_ br.out | refine Zn ?_ ca.out) | exact HB.out))) : w.heap.size ≤ aa)); have cf := zzk ((by rw [hg]; exact (Zr (by repeat (first | (with_reducible first | exact HB.out | apply Zq | apply Zp | apply Zo | refine Zn ?_ aS.out | refine Zn ?_ br.out | refine Zn ?_ ca.out) | exact HB.out))) : w.heap.size ≤ aa)); have cl := zzk ((by rw [hg]; exact Nat.ne_of_lt (zq (g := ah) (o := .cells #[.int .i64 ay,.int .i64 az,.int .i64 aA,.int .i64 aB,.slice bz aw.length bA,.slice bB ax.length bC,.int .i64 aC,.string av,.bool aD] 34 (0,0)) (by (with_reducible repeat (first | refine zj ?_ _ | refine zl ?_ | refine zk ?_ _)); exact ab.out)) : ah ≠ aa)); have cu := zzk ((by rw [hg]; exact Nat.ne_of_gt (zq (g := ah) (o := .cells #[.int .i64 ay,.int .i64 az,.int .i64 aA,.int .i64 aB,.slice bz aw.length bA,.slice bB ax.length bC,.int .i64 aC,.string av,.bool aD] 34 (0,0)) (by (with_reducible repeat (first | refine zj ?_ _ | refine zl ?_ | refine zk ?_ _)); exact ab.out)) : aa ≠ ah)); have cv := zzk ((by rw [hg]; exact Nat.ne_of_lt (zq (g := ag) (o := .cells #[.int .i64 aM,.int .i64 aN,.int .i64 aO,.int .i64 aP,.slice bT aX.length bI,.slice bW bc.length bO,.int .i64 aQ,.string aR,.bool aT] 34 (0,0)) (by (with_reducible repeat (first | refine zj ?_ _ | refine zl ?_ | refine zk ?_ _)); exact ae.out)) : ag ≠ aa)); have cF := zzk ((by rw [hg]; exact Nat.ne_of_gt (zq (g := ag) (o := .cells #[.int .i64 aM,.int .i64 aN,.int .i64 aO,.int .i64 aP,.slice bT aX.length bI,.slice bW bc.length bO,.int .i64 aQ,.string aR,.bool aT] 34 (0,0)) (by (with_reducible repeat (first | refine zj ?_ _ | refine zl ?_ | refine zk ?_ _)); exact ae.out)) : aa ≠ ag)); have dY := zzk ((by rw [hg]; exact Nat.ne_of_lt (zq (g := ac) (o := .cells #[.int .i64 aU,.int .i64 aY,.int .i64 bd,.int .i64 be,.slice bJ bf.length bE,.slice bP bh.length bK,.int .i64 bi,.string bk,.bool bm] 34 (0,0)) (by (with_reducible repeat (first | refine zj ?_ _ | refine zl ?_ | refine zk ?_ _)); exact af.out)) : ac ≠ aa)); have dZ := zzk ((by rw [hg]; exact Nat.ne_of_gt (zq (g := ac) (o := .cells #[.int .i64 aU,.int .i64 aY,.int .i64 bd,.int .i64 be,.slice bJ bf.length bE,.slice bP bh.length bK,.int .i64 bi,.string bk,.bool bm] 34 (0,0)) (by (with_reducible repeat (first | refine zj ?_ _ | refine zl ?_ | refine zk ?_ _)); exact af.out)) : aa ≠ ac)); clear ba; clear bb; clear bs; clear bt; clear cb; clear cc; clear ab; clear ae; clear af; clear HB; have ba := bR; have bb := bS; have bs := bY; have bt := bZ; have cb := ch; have cc := ci; have ab := cj; have ae := cn; have af := co; have HB := cx; have ak := cd; have pR := ce; have cw := cf; have cG := cl; have eT := cu; have cH := cv; have eU := cF; have cy := dY; have ea := dZ; clear bR bS bY bZ ch ci cj cn co cx cd ce cf cl cu cv cF dY dZ; clear hb hbox hg; have pS := eT.out; have pT := cG.out; have pU := eU.out; have pV := cH.out; have pW := ea.out; have pX := cy.out; have iC : dx.cell? ⟨aa,0,none⟩ = some (.int .i64 0) := (zi ak.out 0).trans rfl; have iD : dx.cell? ⟨aa,1,none⟩ = some (.int .i64 0) := (zi ak.out 1).trans rfl; have iE : dx.cell? ⟨aa,2,none⟩ = some (.int .i64 0) := (zi ak.out 2).trans rfl; have iF : dx.cell? ⟨aa,3,none⟩ = some (.int .i64 0) := (zi ak.out 3).trans rfl; have iG : dx.cell? ⟨aa,4,none⟩ = some (.slice none 0 0) := (zi ak.out 4).trans rfl; have iH : dx.cell? ⟨aa,5,none⟩ = some (.slice none 0 0) := (zi ak.out 5).trans rfl; have iI : dx.cell? ⟨aa,6,none⟩ = some (.int .i64 0) := (zi ak.out 6).trans rfl; have iJ : dx.cell? ⟨aa,7,none⟩ = some (.string (⟨#[]⟩ : ByteArray)) := (zi ak.out 7).trans rfl; have iK : dx.cell? ⟨aa,8,none⟩ = some (.bool false) := (zi ak.out 8).trans rfl; have iL := zm ak.out 0; have iM := zm ak.out 1; have iN := zm ak.out 2; have iO := zm ak.out 3; have iP := zm ak.out 4; have iQ := zm ak.out 5; have iR := zm ak.out 6; have iS := zm ak.out 7; have iT := zm ak.out 8; obtain ⟨bU,bQ,eo47⟩ := zz cb.out; subst eo47; obtain ⟨bX,bV,eo48⟩ := zz cc.out; subst eo48; have iU : dx.cell? ⟨ah,0,none⟩ = some (.int .i64 ay) := (zi ab.out 0).trans rfl; have iV : dx.cell? ⟨ah,1,none⟩ = some (.int .i64 az) := (zi ab.out 1).trans rfl; have iW : dx.cell? ⟨ah,2,none⟩ = some (.int .i64 aA) := (zi ab.out 2).trans rfl; have iX : dx.cell? ⟨ah,3,none⟩ = some (.int .i64 aB) := (zi ab.out 3).trans rfl; have iY : dx.cell? ⟨ah,4,none⟩ = some (.slice bz aw.length bA) := (zi ab.out 4).trans rfl; have iZ : dx.cell? ⟨ah,5,none⟩ = some (.slice bB ax.length bC) := (zi ab.out 5).trans rfl; have ja : dx.cell? ⟨ah,6,none⟩ = some (.int .i64 aC) := (zi ab.out 6).trans rfl; have jb : dx.cell? ⟨ah,7,none⟩ = some (.string av) := (zi ab.out 7).trans rfl; have jc : dx.cell? ⟨ah,8,none⟩ = some (.bool aD) := (zi ab.out 8).trans rfl; have jd := zm ab.out 0; have je := zm ab.out 1; have jf := zm ab.out 2; have jg := zm ab.out 3; have jh := zm ab.out 4; have ji := zm ab.out 5; have jj := zm ab.out 6; have jk := zm ab.out 7; have jl := zm ab.out 8) | ((with_reducible refine zza (f := 24) rfl ?_); refine zzd (some 55) rfl rfl Try.func24 (by kernel_rfl) rfl #[.agg #[.int .i64 ay,.int .i64 az,.int .i64 aA,.int .i64 aB,.slice bz aw.length bA,.slice bB ax.length bC,.int .i64 aC,.string av,.bool aD]] rfl (by (try simp only [zd,ze,zf]); first | done | rfl | (simp only [zg,zh]; rfl)) ?_; (with_reducible refine (chunk_Whole.calls cg ay az aA aB _ _ aw _ _ ax aC av aD aV aZ bj bl bg dX _ ?side1 ?side2 ?side3 ?side4 oG.out).mono ?_); (case side1 => exact Zm ev.out (by repeat (first | (with_reducible first | exact HB.out | apply Zq | apply Zp | apply Zo | refine Zn ?_ aS.out | refine Zn ?_ br.out | refine Zn ?_ ca.out | refine Zn ?_ cw.out) | exact HB.out))); (case side2 => exact ew.out); (case side3 => exact Zm ex.out (by repeat (first | (with_reducible first | exact HB.out | apply Zq | apply Zp | apply Zo | refine Zn ?_ aS.out | refine Zn ?_ br.out | refine Zn ?_ ca.out | refine Zn ?_ cw.out) | exact HB.out))); (case side4 => exact ey.out); rintro e rl ⟨qY,qZ,rfl,ho0,ho1,hb⟩; refine ⟨_,rfl,?_⟩; have bR := zzk (zx (Zc (Zc (Kd.R_old (by (with_reducible repeat (first | apply zu | apply zt | apply zs)); exact (zx (zr (p := ⟨aa,8,none⟩) (zr (p := ⟨aa,7,none⟩) (zr (p := ⟨aa,6,none⟩) (zr (p := ⟨aa,5,none⟩) (zr (p := ⟨aa,4,none⟩) (zr (p := ⟨aa,3,none⟩) (zr (p := ⟨aa,2,none⟩) (zr (p := ⟨aa,1,none⟩) (zr (p := ⟨aa,0,none⟩) (zy ba.out ak.out (by decide)) (fun _ hk => hk.2) (.int .i64 bo)) (fun _ hk => hk.2) (.int .i64 bq)) (fun _ hk => hk.2) (.int .i64 bu)) (fun _ hk => hk.2) (.int .i64 bw)) (fun _ hk => hk.2) (.slice bU bv.length bQ)) (fun _ hk => hk.2) (.slice bX bx.length bV)) (fun _ hk => hk.2) (.int .i64 bD)) (fun _ hk => hk.2) (.string bH)) (fun _ hk => hk.2) (.bool bN)) (fun _ h_ => h_.1))) hb) (Zd ho0)) (Zd ho1)) (fun _ h_ => h_.1)); have bS := zzk (zx (Zc (Zc (Kd.R_old (by (with_reducible repeat (first | apply zu | apply zt | apply zs)); exact (zx (zr (p := ⟨aa,8,none⟩) (zr (p := ⟨aa,7,none⟩) (zr (p := ⟨aa,6,none⟩) (zr (p := ⟨aa,5,none⟩) (zr (p := ⟨aa,4,none⟩) (zr (p := ⟨aa,3,none⟩) (zr (p := ⟨aa,2,none⟩) (zr (p := ⟨aa,1,none⟩) (zr (p := ⟨aa,0,none⟩) (zy bb.out ak.out (by decide)) (fun _ hk => hk.2) (.int .i64 bo)) (fun _ hk => hk.2) (.int .i64 bq)) (fun _ hk => hk.2) (.int .i64 bu)) (fun _ hk => hk.2) (.int .i64 bw)) (fun _ hk => hk.2) (.slice bU bv.length bQ)) (fun _ hk => hk.2) (.slice bX bx.length bV)) (fun _ hk => hk.2) (.int .i64 bD)) (fun _ hk => hk.2) (.string bH)) (fun _ hk => hk.2) (.bool bN)) (fun _ h_ => h_.1))) hb) (Zd ho0)) (Zd ho1)) (fun _ h_ => h_.1)); have bY := zzk (zx (Zc (Zc (Kd.R_old (by (with_reducible repeat (first | apply zu | apply zt | apply zs)); exact (zx (zr (p := ⟨aa,8,none⟩) (zr (p := ⟨aa,7,none⟩) (zr (p := ⟨aa,6,none⟩) (zr (p := ⟨aa,5,none⟩) (zr (p := ⟨aa,4,none⟩) (zr (p := ⟨aa,3,none⟩) (zr (p := ⟨aa,2,none⟩) (zr (p := ⟨aa,1,none⟩) (zr (p := ⟨aa,0,none⟩) (zy bs.out ak.out (by decide)) (fun _ hk => hk.2) (.int .i64 bo)) (fun _ hk => hk.2) (.int .i64 bq)) (fun _ hk => hk.2) (.int .i64 bu)) (fun _ hk => hk.2) (.int .i64 bw)) (fun _ hk => hk.2) (.slice bU bv.length bQ)) (fun _ hk => hk.2) (.slice bX bx.length bV)) (fun _ hk => hk.2) (.int .i64 bD)) (fun _ hk => hk.2) (.string bH)) (fun _ hk => hk.2) (.bool bN)) (fun _ h_ => h_.1))) hb) (Zd ho0)) (Zd ho1)) (fun _ h_ => h_.1)); have bZ := zzk (zx (Zc (Zc (Kd.R_old (by (with_reducible repeat (first | apply zu | apply zt | apply zs)); exact (zx (zr (p := ⟨aa,8,none⟩) (zr (p := ⟨aa,7,none⟩) (zr (p := ⟨aa,6,none⟩) (zr (p := ⟨aa,5,none⟩) (zr (p := ⟨aa,4,none⟩) (zr (p := ⟨aa,3,none⟩) (zr (p := ⟨aa,2,none⟩) (zr (p := ⟨aa,1,none⟩) (zr (p := ⟨aa,0,none⟩) (zy bt.out ak.out (by decide)) (fun _ hk => hk.2) (.int .i64 bo)) (fun _ hk => hk.2) (.int .i64 bq)) (fun _ hk => hk.2) (.int .i64 bu)) (fun _ hk => hk.2) (.int .i64 bw)) (fun _ hk => hk.2) (.slice bU bv.length bQ)) (fun _ hk => hk.2) (.slice bX bx.length bV)) (fun _ hk => hk.2) (.int .i64 bD)) (fun _ hk => hk.2) (.string bH)) (fun _ hk => hk.2) (.bool bN)) (fun _ h_ => h_.1))) hb) (Zd ho0)) (Zd ho1)) (fun _ h_ => h_.1)); have ch := zzk (zx (Zc (Zc (Kd.R_old (by (with_reducible repeat (first | apply zu | apply zt | apply zs)); exact (zx (zr (p := ⟨aa,8,none⟩) (zr (p := ⟨aa,7,none⟩) (zr (p := ⟨aa,6,none⟩) (zr (p := ⟨aa,5,none⟩) (zr (p := ⟨aa,4,none⟩) (zr (p := ⟨aa,3,none⟩) (zr (p := ⟨aa,2,none⟩) (zr (p := ⟨aa,1,none⟩) (zr (p := ⟨aa,0,none⟩) (zy cb.out ak.out (by decide)) (fun _ hk => hk.2) (.int .i64 bo)) (fun _ hk => hk.2) (.int .i64 bq)) (fun _ hk => hk.2) (.int .i64 bu)) (fun _ hk => hk.2) (.int .i64 bw)) (fun _ hk => hk.2) (.slice bU bv.length bQ)) (fun _ hk => hk.2) (.slice bX bx.length bV)) (fun _ hk => hk.2) (.int .i64 bD)) (fun _ hk => hk.2) (.string bH)) (fun _ hk => hk.2) (.bool bN)) (fun _ h_ => h_.1))) hb) (Zd ho0)) (Zd ho1)) (fun _ h_ => h_.1)); have ci := zzk (zx (Zc (Zc (Kd.R_old (by (with_reducible repeat (first | apply zu | apply zt | apply zs)); exact (zx (zr (p := ⟨aa,8,none⟩) (zr (p := ⟨aa,7,none⟩) (zr (p := ⟨aa,6,none⟩) (zr (p := ⟨aa,5,none⟩) (zr (p := ⟨aa,4,none⟩) (zr (p := ⟨aa,3,none⟩) (zr (p := ⟨aa,2,none⟩) (zr (p := ⟨aa,1,none⟩) (zr (p := ⟨aa,0,none⟩) (zy cc.out ak.out (by decide)) (fun _ hk => hk.2) (.int .i64 bo)) (fun _ hk => hk.2) (.int .i64 bq)) (fun _ hk => hk.2) (.int .i64 bu)) (fun _ hk => hk.2) (.int .i64 bw)) (fun _ hk => hk.2) (.slice bU bv.length bQ)) (fun _ hk => hk.2) (.slice bX bx.length bV)) (fun _ hk => hk.2) (.int .i64 bD)) (fun _ hk => hk.2) (.string bH)) (fun _ hk => hk.2) (.bool bN)) (fun _ h_ => h_.1))) hb) (Zd ho0)) (Zd ho1)) (fun _ h_ => h_.1)); have cj := zzk (Za (Zb (Zb (Zb (Zb (Zb (Zb ho0 (Kd.R_lt (by (with_reducible repeat (first | apply zu | apply zt | apply zs)); exact (zx (zr (p := ⟨aa,8,none⟩) (zr (p := ⟨aa,7,none⟩) (zr (p := ⟨aa,6,none⟩) (zr (p := ⟨aa,5,none⟩) (zr (p := ⟨aa,4,none⟩) (zr (p := ⟨aa,3,none⟩) (zr (p := ⟨aa,2,none⟩) (zr (p := ⟨aa,1,none⟩) (zr (p := ⟨aa,0,none⟩) (zy ba.out ak.out (by decide)) (fun _ hk => hk.2) (.int .i64 bo)) (fun _ hk => hk.2) (.int .i64 bq)) (fun _ hk => hk.2) (.int .i64 bu)) (fun _ hk => hk.2) (.int .i64 bw)) (fun _ hk => hk.2) (.slice bU bv.length bQ)) (fun _ hk => hk.2) (.slice bX bx.length bV)) (fun _ hk => hk.2) (.int .i64 bD)) (fun _ hk => hk.2) (.string bH)) (fun _ hk => hk.2) (.bool bN)) (fun _ h_ => h_.1))))) (Kd.R_lt (by (with_reducible repeat (first | apply zu | apply zt | apply zs)); exact (zx (zr (p := ⟨aa,8,none⟩) (zr (p := ⟨aa,7,none⟩) (zr (p := ⟨aa,6,none⟩) (zr (p := ⟨aa,5,none⟩) (zr (p := ⟨aa,4,none⟩) (zr (p := ⟨aa,3,none⟩) (zr (p := ⟨aa,2,none⟩) (zr (p := ⟨aa,1,none⟩) (zr (p := ⟨aa,0,none⟩) (zy bb.out ak.out (by decide)) (fun _ hk => hk.2) (.int .i64 bo)) (fun _ hk => hk.2) (.int .i64 bq)) (fun _ hk => hk.2) (.int .i64 bu)) (fun _ hk => hk.2) (.int .i64 bw)) (fun _ hk => hk.2) (.slice bU bv.length bQ)) (fun _ hk => hk.2) (.slice bX bx.length bV)) (fun _ hk => hk.2) (.int .i64 bD)) (fun _ hk => hk.2) (.string bH)) (fun _ hk => hk.2) (.bool bN)) (fun _ h_ => h_.1))))) (Kd.R_lt (by (with_reducible repeat (first | apply zu | apply zt | apply zs)); exact (zx (zr (p := ⟨aa,8,none⟩) (zr (p := ⟨aa,7,none⟩) (zr (p := ⟨aa,6,none⟩) (zr (p := ⟨aa,5,none⟩) (zr (p := ⟨aa,4,none⟩) (zr (p := ⟨aa,3,none⟩) (zr (p := ⟨aa,2,none⟩) (zr (p := ⟨aa,1,none⟩) (zr (p := ⟨aa,0,none⟩) (zy bs.out ak.out (by decide)) (fun _ hk => hk.2) (.int .i64 bo)) (fun _ hk => hk.2) (.int .i64 bq)) (fun _ hk => hk.2) (.int .i64 bu)) (fun _ hk => hk.2) (.int .i64 bw)) (fun _ hk => hk.2) (.slice bU bv.length bQ)) (fun _ hk => hk.2) (.slice bX bx.length bV)) (fun _ hk => hk.2) (.int .i64 bD)) (fun _ hk => hk.2) (.string bH)) (fun _ hk => hk.2) (.bool bN)) (fun _ h_ => h_.1))))) (Kd.R_lt (by (with_reducible repeat (first | apply zu | apply zt | apply zs)); exact (zx (zr (p := ⟨aa,8,none⟩) (zr (p := ⟨aa,7,none⟩) (zr (p := ⟨aa,6,none⟩) (zr (p := ⟨aa,5,none⟩) (zr (p := ⟨aa,4,none⟩) (zr (p := ⟨aa,3,none⟩) (zr (p := ⟨aa,2,none⟩) (zr (p := ⟨aa,1,none⟩) (zr (p := ⟨aa,0,none⟩) (zy bt.out ak.out (by decide)) (fun _ hk => hk.2) (.int .i64 bo)) (fun _ hk => hk.2) (.int .i64 bq)) (fun _ hk => hk.2) (.int .i64 bu)) (fun _ hk => hk.2) (.int .i64 bw)) (fun _ hk => hk.2) (.slice bU bv.length bQ)) (fun _ hk => hk.2) (.slice bX bx.length bV)) (fun _ hk => hk.2) (.int .i64 bD)) (fun _ hk => hk.2) (.string bH)) (fun _ hk => hk.2) (.bool bN)) (fun _ h_ => h_.1))))) (Kd.R_lt (by (with_reducible repeat (first | apply zu | apply zt | apply zs)); exact (zx (zr (p := ⟨aa,8,none⟩) (zr (p := ⟨aa,7,none⟩) (zr (p := ⟨aa,6,none⟩) (zr (p := ⟨aa,5,none⟩) (zr (p := ⟨aa,4,none⟩) (zr (p := ⟨aa,3,none⟩) (zr (p := ⟨aa,2,none⟩) (zr (p := ⟨aa,1,none⟩) (zr (p := ⟨aa,0,none⟩) (zy cb.out ak.out (by decide)) (fun _ hk => hk.2) (.int .i64 bo)) (fun _ hk => hk.2) (.int .i64 bq)) (fun _ hk => hk.2) (.int .i64 bu)) (fun _ hk => hk.2) (.int .i64 bw)) (fun _ hk => hk.2) (.slice bU bv.length bQ)) (fun _ hk => hk.2) (.slice bX bx.length bV)) (fun _ hk => hk.2) (.int .i64 bD)) (fun _ hk => hk.2) (.string bH)) (fun _ hk => hk.2) (.bool bN)) (fun _ h_ => h_.1))))) (Kd.R_lt (by (with_reducible repeat (first | apply zu | apply zt | apply zs)); exact (zx (zr (p := ⟨aa,8,none⟩) (zr (p := ⟨aa,7,none⟩) (zr (p := ⟨aa,6,none⟩) (zr (p := ⟨aa,5,none⟩) (zr (p := ⟨aa,4,none⟩) (zr (p := ⟨aa,3,none⟩) (zr (p := ⟨aa,2,none⟩) (zr (p := ⟨aa,1,none⟩) (zr (p := ⟨aa,0,none⟩) (zy cc.out ak.out (by decide)) (fun _ hk => hk.2) (.int .i64 bo)) (fun _ hk => hk.2) (.int .i64 bq)) (fun _ hk => hk.2) (.int .i64 bu)) (fun _ hk => hk.2) (.int .i64 bw)) (fun _ hk => hk.2) (.slice bU bv.length bQ)) (fun _ hk => hk.2) (.slice bX bx.length bV)) (fun _ hk => hk.2) (.int .i64 bD)) (fun _ hk => hk.2) (.string bH)) (fun _ hk => hk.2) (.bool bN)) (fun _ h_ => h_.1))))) (Zr (by repeat (first | (with_reducible first | exact HB.out | apply Zq | apply Zp | apply Zo | refine Zn ?_ aS.out | refine Zn ?_ br.out | refine Zn ?_ ca.out | refine Zn ?_ cw.out) | exact HB.out)))); have cn := zzk (Za (Zb (Zb (Zb (Zb (Zb (Zb ho1 (Kd.R_lt (by (with_reducible repeat (first | apply zu | apply zt | apply zs)); exact (zx (zr (p := ⟨aa,8,none⟩) (zr (p := ⟨aa,7,none⟩) (zr (p := ⟨aa,6,none⟩) (zr (p := ⟨aa,5,none⟩) (zr (p := ⟨aa,4,none⟩) (zr (p := ⟨aa,3,none⟩) (zr (p := ⟨aa,2,none⟩) (zr (p := ⟨aa,1,none⟩) (zr (p := ⟨aa,0,none⟩) (zy ba.out ak.out (by decide)) (fun _ hk => hk.2) (.int .i64 bo)) (fun _ hk => hk.2) (.int .i64 bq)) (fun _ hk => hk.2) (.int .i64 bu)) (fun _ hk => hk.2) (.int .i64 bw)) (fun _ hk => hk.2) (.slice bU bv.length bQ)) (fun _ hk => hk.2) (.slice bX bx.length bV)) (fun _ hk => hk.2) (.int .i64 bD)) (fun _ hk => hk.2) (.string bH)) (fun _ hk => hk.2) (.bool bN)) (fun _ h_ => h_.1))))) (Kd.R_lt (by (with_reducible repeat (first | apply zu | apply zt | apply zs)); exact (zx (zr (p := ⟨aa,8,none⟩) (zr (p := ⟨aa,7,none⟩) (zr (p := ⟨aa,6,none⟩) (zr (p := ⟨aa,5,none⟩) (zr (p := ⟨aa,4,none⟩) (zr (p := ⟨aa,3,none⟩) (zr (p := ⟨aa,2,none⟩) (zr (p := ⟨aa,1,none⟩) (zr (p := ⟨aa,0,none⟩) (zy bb.out ak.out (by decide)) (fun _ hk => hk.2) (.int .i64 bo)) (fun _ hk => hk.2) (.int .i64 bq)) (fun _ hk => hk.2) (.int .i64 bu)) (fun _ hk => hk.2) (.int .i64 bw)) (fun _ hk => hk.2) (.slice bU bv.length bQ)) (fun _ hk => hk.2) (.slice bX bx.length bV)) (fun _ hk => hk.2) (.int .i64 bD)) (fun _ hk => hk.2) (.string bH)) (fun _ hk => hk.2) (.bool bN)) (fun _ h_ => h_.1))))) (Kd.R_lt (by (with_reducible repeat (first | apply zu | apply zt | apply zs)); exact (zx (zr (p := ⟨aa,8,none⟩) (zr (p := ⟨aa,7,none⟩) (zr (p := ⟨aa,6,none⟩) (zr (p := ⟨aa,5,none⟩) (zr (p := ⟨aa,4,none⟩) (zr (p := ⟨aa,3,none⟩) (zr (p := ⟨aa,2,none⟩) (zr (p := ⟨aa,1,none⟩) (zr (p := ⟨aa,0,none⟩) (zy bs.out ak.out (by decide)) (fun _ hk => hk.2) (.int .i64 bo)) (fun _ hk => hk.2) (.int .i64 bq)) (fun _ hk => hk.2) (.int .i64 bu)) (fun _ hk => hk.2) (.int .i64 bw)) (fun _ hk => hk.2) (.slice bU bv.length bQ)) (fun _ hk => hk.2) (.slice bX bx.length bV)) (fun _ hk => hk.2) (.int .i64 bD)) (fun _ hk => hk.2) (.string bH)) (fun _ hk => hk.2) (.bool bN)) (fun _ h_ => h_.1))))) (Kd.R_lt (by (with_reducible repeat (first | apply zu | apply zt | apply zs)); exact (zx (zr (p := ⟨aa,8,none⟩) (zr (p := ⟨aa,7,none⟩) (zr (p := ⟨aa,6,none⟩) (zr (p := ⟨aa,5,none⟩) (zr (p := ⟨aa,4,none⟩) (zr (p := ⟨aa,3,none⟩) (zr (p := ⟨aa,2,none⟩) (zr (p := ⟨aa,1,none⟩) (zr (p := ⟨aa,0,none⟩) (zy bt.out ak.out (by decide)) (fun _ hk => hk.2) (.int .i64 bo)) (fun _ hk => hk.2) (.int .i64 bq)) (fun _ hk => hk.2) (.int .i64 bu)) (fun _ hk => hk.2) (.int .i64 bw)) (fun _ hk => hk.2) (.slice bU bv.length bQ)) (fun _ hk => hk.2) (.slice bX bx.length bV)) (fun _ hk => hk.2) (.int .i64 bD)) (fun _ hk => hk.2) (.string bH)) (fun _ hk => hk.2) (.bool bN)) (fun _ h_ => h_.1))))) (Kd.R_lt (by (with_reducible repeat (first | apply zu | apply zt | apply zs)); exact (zx (zr (p := ⟨aa,8,none⟩) (zr (p := ⟨aa,7,none⟩) (zr (p := ⟨aa,6,none⟩) (zr (p := ⟨aa,5,none⟩) (zr (p := ⟨aa,4,none⟩) (zr (p := ⟨aa,3,none⟩) (zr (p := ⟨aa,2,none⟩) (zr (p := ⟨aa,1,none⟩) (zr (p := ⟨aa,0,none⟩) (zy cb.out ak.out (by decide)) (fun _ hk => hk.2) (.int .i64 bo)) (fun _ hk => hk.2) (.int .i64 bq)) (fun _ hk => hk.2) (.int .i64 bu)) (fun _ hk => hk.2) (.int .i64 bw)) (fun _ hk => hk.2) (.slice bU bv.length bQ)) (fun _ hk => hk.2) (.slice bX bx.length bV)) (fun _ hk => hk.2) (.int .i64 bD)) (fun _ hk => hk.2) (.string bH)) (fun _ hk => hk.2) (.bool bN)) (fun _ h_ => h_.1))))) (Kd.R_lt (by (with_reducible repeat (first | apply zu | apply zt | apply zs)); exact (zx (zr (p := ⟨aa,8,none⟩) (zr (p := ⟨aa,7,none⟩) (zr (p := ⟨aa,6,none⟩) (zr (p := ⟨aa,5,none⟩) (zr (p := ⟨aa,4,none⟩) (zr (p := ⟨aa,3,none⟩) (zr (p := ⟨aa,2,none⟩) (zr (p := ⟨aa,1,none⟩) (zr (p := ⟨aa,0,none⟩) (zy cc.out ak.out (by decide)) (fun _ hk => hk.2) (.int .i64 bo)) (fun _ hk => hk.2) (.int .i64 bq)) (fun _ hk => hk.2) (.int .i64 bu)) (fun _ hk => hk.2) (.int .i64 bw)) (fun _ hk => hk.2) (.slice bU bv.length bQ)) (fun _ hk => hk.2) (.slice bX bx.length bV)) (fun _ hk => hk.2) (.int .i64 bD)) (fun _ hk => hk.2) (.string bH)) (fun _ hk => hk.2) (.bool bN)) (fun _ h_ => h_.1))))) (Zr (by repeat (first | (with_reducible first | exact HB.out | apply Zq | apply Zp | apply Zo | refine Zn ?_ aS.out | refine Zn ?_ br.out | refine Zn ?_ ca.out | refine Zn ?_ cw.out) | exact HB.out)))); have co := zzk (zo (g := ah) (o := .cells #[.int .i64 ay,.int .i64 az,.int .i64 aA,.int .i64 aB,.slice bz aw.length bA,.slice bB ax.length bC,.int .i64 aC,.string av,.bool aD] 34 (0,0)) (by (with_reducible repeat (first | refine zj ?_ _ | refine zl ?_ | refine zk ?_ _)); refine zn ?_ cG.out _; (with_reducible repeat (first | refine zj ?_ _ | refine zl ?_ | refine zk ?_ _)); refine zn ?_ cG.out _; (with_reducible repeat (first | refine zj ?_ _ | refine zl ?_ | refine zk ?_ _)); refine zn ?_ cG.out _; (with_reducible repeat (first | refine zj ?_ _ | refine zl ?_ | refine zk ?_ _)); refine zn ?_ cG.out _; (with_reducible repeat (first | refine zj ?_ _ | refine zl ?_ | refine zk ?_ _)); refine zn ?_ cG.out _; (with_reducible repeat (first | refine zj ?_ _ | refine zl ?_ | refine zk ?_ _)); refine zn ?_ cG.out _; (with_reducible repeat (first | refine zj ?_ _ | refine zl ?_ | refine zk ?_ _)); refine zn ?_ cG.out _; (with_reducible repeat (first | refine zj ?_ _ | refine zl ?_ | refine zk ?_ _)); refine zn ?_ cG.out _; (with_reducible repeat (first | refine zj ?_ _ | refine zl ?_ | refine zk ?_ _)); refine zn ?_ cG.out _; (with_reducible repeat (first | refine zj ?_ _ | refine zl ?_ | refine zk ?_ _)); exact ab.out) hb); have cx := zzk (zo (g := ag) (o := .cells #[.int .i64 aM,.int .i64 aN,.int .i64 aO,.int .i64 aP,.slice bT aX.length bI,.slice bW bc.length bO,.int .i64 aQ,.string aR,.bool aT] 34 (0,0)) (by (with_reducible repeat (first | refine zj ?_ _ | refine zl ?_ | refine zk ?_ _)); refine zn ?_ cH.out _; (with_reducible repeat (first | refine zj ?_ _ | refine zl ?_ | refine zk ?_ _)); refine zn ?_ cH.out _; (with_reducible repeat (first | refine zj ?_ _ | refine zl ?_ | refine zk ?_ _)); refine zn ?_ cH.out _; (with_reducible repeat (first | refine zj ?_ _ | refine zl ?_ | refine zk ?_ _)); refine zn ?_ cH.out _; (with_reducible repeat (first | refine zj ?_ _ | refine zl ?_ | refine zk ?_ _)); refine zn ?_ cH.out _; (with_reducible repeat (first | refine zj ?_ _ | refine zl ?_ | refine zk ?_ _)); refine zn ?_ cH.out _; (with_reducible repeat (first | refine zj ?_ _ | refine zl ?_ | refine zk ?_ _)); refine zn ?_ cH.out _; (with_reducible repeat (first | refine zj ?_ _ | refine zl ?_ | refine zk ?_ _)); refine zn ?_ cH.out _; (with_reducible repeat (first | refine zj ?_ _ | refine zl ?_ | refine zk ?_ _)); refine zn ?_ cH.out _; (with_reducible repeat (first | refine zj ?_ _ | refine zl ?_ | refine zk ?_ _)); exact ae.out) hb); have cd := zzk (zo (g := ac) (o := .cells #[.int .i64 aU,.int .i64 aY,.int .i64 bd,.int .i64 be,.slice bJ bf.length bE,.slice bP bh.length bK,.int .i64 bi,.string bk,.bool bm] 34 (0,0)) (by (with_reducible repeat (first | refine zj ?_ _ | refine zl ?_ | refine zk ?_ _)); refine zn ?_ cy.out _; (with_reducible repeat (first | refine zj ?_ _ | refine zl ?_ | refine zk ?_ _)); refine zn ?_ cy.out _; (with_reducible repeat (first | refine zj ?_ _ | refine zl ?_ | refine zk ?_ _)); refine zn ?_ cy.out _; (with_reducible repeat (first | refine zj ?_ _ | refine zl ?_ | refine zk ?_ _)); refine zn ?_ cy.out _; (with_reducible repeat (first | refine zj ?_ _ | refine zl ?_ | refine zk ?_ _)); refine zn ?_ cy.out _; (with_reducible repeat (first | refine zj ?_ _ | refine zl ?_ | refine zk ?_ _)); refine zn ?_ cy.out _; (with_reducible repeat (first | refine zj ?_ _ | refine zl ?_ | refine zk ?_ _)); refine zn ?_ cy.out _; (with_reducible repeat (first | refine zj ?_ _ | refine zl ?_ | refine zk ?_ _)); refine zn ?_ cy.out _; (with_reducible repeat (first | refine zj ?_ _ | refine zl ?_ | refine zk ?_ _)); refine zn ?_ cy.out _; (with_reducible repeat (first | refine zj ?_ _ | refine zl ?_ | refine zk ?_ _)); exact af.out) hb); have ce := zzk (zo (g := aa) (o := .cells #[.int .i64 bo,.int .i64 bq,.int .i64 bu,.int .i64 bw,.slice bU bv.length bQ,.slice bX bx.length bV,.int .i64 bD,.string bH,.bool bN] 34 (0,0)) (by (with_reducible repeat (first | refine zj ?_ _ | refine zl ?_ | refine zk ?_ _)); refine zp (cs := #[.int .i64 bo,.int .i64 bq,.int .i64 bu,.int .i64 bw,.slice bU bv.length bQ,.slice bX bx.length bV,.int .i64 bD,.string bH,.bool false]) ?_ 8 _ rfl; (with_reducible repeat (first | refine zj ?_ _ | refine zl ?_ | refine zk ?_ _)); refine zp (cs := #[.int .i64 bo,.int .i64 bq,.int .i64 bu,.int .i64 bw,.slice bU bv.length bQ,.slice bX bx.length bV,.int .i64 bD,.string (⟨#[]⟩ : ByteArray),.bool false]) ?_ 7 _ rfl; (with_reducible repeat (first | refine zj ?_ _ | refine zl ?_ | refine zk ?_ _)); refine zp (cs := #[.int .i64 bo,.int .i64 bq,.int .i64 bu,.int .i64 bw,.slice bU bv.length bQ,.slice bX bx.length bV,.int .i64 0,.string (⟨#[]⟩ : ByteArray),.bool false]) ?_ 6 _ rfl; (with_reducible repeat (first | refine zj ?_ _ | refine zl ?_ | refine zk ?_ _)); refine zp (cs := #[.int .i64 bo,.int .i64 bq,.int .i64 bu,.int .i64 bw,.slice bU bv.length bQ,.slice none 0 0,.int .i64 0,.string (⟨#[]⟩ : ByteArray),.bool false]) ?_ 5 _ rfl; (with_reducible repeat (first | refine zj ?_ _ | refine zl ?_ | refine zk ?_ _)); refine zp (cs := #[.int .i64 bo,.int .i64 bq,.int .i64 bu,.int .i64 bw,.slice none 0 0,.slice none 0 0,.int .i64 0,.string (⟨#[]⟩ : ByteArray),.bool false]) ?_ 4 _ rfl; (with_reducible repeat (first | refine zj ?_ _ | refine zl ?_ | refine zk ?_ _)); refine zp (cs := #[.int .i64 bo,.int .i64 bq,.int .i64 bu,.int .i64 0,.slice none 0 0,.slice none 0 0,.int .i64 0,.string (⟨#[]⟩ : ByteArray),.bool false]) ?_ 3 _ rfl; (with_reducible repeat (first | refine zj ?_ _ | refine zl ?_ | refine zk ?_ _)); refine zp (cs := #[.int .i64 bo,.int .i64 bq,.int .i64 0,.int .i64 0,.slice none 0 0,.slice none 0 0,.int .i64 0,.string (⟨#[]⟩ : ByteArray),.bool false]) ?_ 2 _ rfl; (with_reducible repeat (first | refine zj ?_ _ | refine zl ?_ | refine zk ?_ _)); refine zp (cs := #[.int .i64 bo,.int .i64 0,.int .i64 0,.int .i64 0,.slice none 0 0,.slice none 0 0,.int .i64 0,.string (⟨#[]⟩ : ByteArray),.bool false]) ?_ 1 _ rfl; (with_reducible repeat (first | refine zj ?_ _ | refine zl ?_ | refine zk ?_ _)); refine zp (cs := #[.int .i64 0,.int .i64 0,.int .i64 0,.int .i64 0,.slice none 0 0,.slice none 0 0,.int .i64 0,.string (⟨#[]⟩ : ByteArray),.bool false]) ?_ 0 _ rfl; (with_reducible repeat (first | refine zj ?_ _ | refine zl ?_ | refine zk ?_ _)); exact ak.out) hb); have cf := zzk (Zs (by repeat (first | (with_reducible first | exact HB.out | apply Zq | apply Zp | apply Zo | refine Zn ?_ aS.out | refine Zn ?_ br.out | refine Zn ?_ ca.out | refine Zn ?_ cw.out) | exact HB.out)) hb); clear ba; clear bb; clear bs; clear bt; clear cb; clear cc; clear ab; clear ae; clear af; clear ak; clear HB; have ba := bR; have bb := bS; have bs := bY; have bt := bZ; have cb := ch; have cc := ci; have cB := cj; have cC := cn; have ab := co; have ae := cx; have af := cd; have ak := ce; have HB := cf; clear bR bS bY bZ ch ci cj cn co cx cd ce cf; (try clear hb); (try clear hb2); (try clear hk); (try clear hi); (try clear ho0); (try clear ho1)) | ((with_reducible refine Zy (N := 14) rfl ?_); (try (refine Zz (by rfl) ?_; dsimp only)); refine zzc ?hg (N := 14) ?hd (cs := #[.int .i64 0,.int .i64 0,.slice none 0 0,.slice none 0 0,.string (⟨#[]⟩ : ByteArray)]) (t := 26) ?hr ?_; (case hd => rfl); (case hg => rfl); (case hr => first | (go_simp; done) | (go_simp; rfl)); intro ad hg dD hbox hb; have bR := zzk (zv (by (with_reducible repeat (first | apply zu | apply zt | apply zs)); exact ba.out) hb); have bS := zzk (zv (by (with_reducible repeat (first | apply zu | apply zt | apply zs)); exact bb.out) hb); have bY := zzk (zv (by (with_reducible repeat (first | apply zu | apply zt | apply zs)); exact bs.out) hb); have bZ := zzk (zv (by (with_reducible repeat (first | apply zu | apply zt | apply zs)); exact bt.out) hb); have ch := zzk (zv (by (with_reducible repeat (first | apply zu | apply zt | apply zs)); exact cb.out) hb); have ci := zzk (zv (by (with_reducible repeat (first | apply zu | apply zt | apply zs)); exact cc.out) hb); have cj := zzk (zv (by (with_reducible repeat (first | apply zu | apply zt | apply zs)); exact cB.out) hb); have cn := zzk (zv (by (with_reducible repeat (first | apply zu | apply zt | apply zs)); exact cC.out) hb); have co := zzk (zo (g := ah) (o := .cells #[.int .i64 ay,.int .i64 az,.int .i64 aA,.int .i64 aB,.slice bz aw.length bA,.slice bB ax.length bC,.int .i64 aC,.string av,.bool aD] 34 (0,0)) (by (with_reducible repeat (first | refine zj ?_ _ | refine zl ?_ | refine zk ?_ _)); exact ab.out) hb); have cx := zzk (zo (g := ag) (o := .cells #[.int .i64 aM,.int .i64 aN,.int .i64 aO,.int .i64 aP,.slice bT aX.length bI,.slice bW bc.length bO,.int .i64 aQ,.string aR,.bool aT] 34 (0,0)) (by (with_reducible repeat (first | refine zj ?_ _ | refine zl ?_ | refine zk ?_ _)); exact ae.out) hb); have cd := zzk (zo (g := ac) (o := .cells #[.int .i64 aU,.int .i64 aY,.int .i64 bd,.int .i64 be,.slice bJ bf.length bE,.slice bP bh.length bK,.int .i64 bi,.string bk,.bool bm] 34 (0,0)) (by (with_reducible repeat (first | refine zj ?_ _ | refine zl ?_ | refine zk ?_ _)); exact af.out) hb); have ce := zzk (zo (g := aa) (o := .cells #[.int .i64 bo,.int .i64 bq,.int .i64 bu,.int .i64 bw,.slice bU bv.length bQ,.slice bX bx.length bV,.int .i64 bD,.string bH,.bool bN] 34 (0,0)) (by (with_reducible repeat (first | refine zj ?_ _ | refine zl ?_ | refine zk ?_ _)); exact ak.out) hb); have cf := zzk (Zs (by repeat (first | (with_reducible first | exact HB.out | apply Zq | apply Zp | apply Zo | refine Zn ?_ aS.out | refine Zn ?_ br.out | refine Zn ?_ ca.out | refine Zn ?_ cw.out) | exact HB.out)) hb); have cl := zzk (hbox); have cu := zzk ((by rw [hg]; exact (Zr (by repeat (first | (with_reducible first | exact HB.out | apply Zq | apply Zp | apply Zo | refine Zn ?_ aS.out | refine Zn ?_ br.out | refine Zn ?_ ca.out | refine Zn ?_ cw.out) | exact HB.out))) : w.heap.size ≤ ad)); have cv := zzk ((by rw [hg]; exact (Zr (by repeat (first | (with_reducible first | exact HB.out | apply Zq | apply Zp | apply Zo | refine Zn ?_ aS.out | refine Zn ?_ br.out | refine Zn ?_ ca.out | refine Zn ?_ cw.out) | exact HB.out))) : w.heap.size ≤ ad)); have cF := zzk ((by rw [hg]; exact Nat.ne_of_lt (zq (g := ah) (o := .cells #[.int .i64 ay,.int .i64 az,.int .i64 aA,.int .i64 aB,.slice bz aw.length bA,.slice bB ax.length bC,.int .i64 aC,.string av,.bool aD] 34 (0,0)) (by (with_reducible repeat (first | refine zj ?_ _ | refine zl ?_ | refine zk ?_ _)); exact ab.out)) : ah ≠ ad)); have dY := zzk ((by rw [hg]; exact Nat.ne_of_gt (zq (g := ah) (o := .cells #[.int .i64 ay,.int .i64 az,.int .i64 aA,.int .i64 aB,.slice bz aw.length bA,.slice bB ax.length bC,.int .i64 aC,.string av,.bool aD] 34 (0,0)) (by (with_reducible repeat (first | refine zj ?_ _ | refine zl ?_ | refine zk ?_ _)); exact ab.out)) : ad ≠ ah)); have dZ := zzk ((by rw [hg]; exact Nat.ne_of_lt (zq (g := ag) (o := .cells #[.int .i64 aM,.int .i64 aN,.int .i64 aO,.int .i64 aP,.slice bT aX.length bI,.slice bW bc.length bO,.int .i64 aQ,.string aR,.bool aT] 34 (0,0)) (by (with_reducible repeat (first | refine zj ?_ _ | refine zl ?_ | refine zk ?_ _)); exact ae.out)) : ag ≠ ad)); have fL := zzk ((by rw [hg]; exact Nat.ne_of_gt (zq (g := ag) (o := .cells #[.int .i64 aM,.int .i64 aN,.int .i64 aO,.int .i64 aP,.slice bT aX.length bI,.slice bW bc.length bO,.int .i64 aQ,.string aR,.bool aT] 34 (0,0)) (by (with_reducible repeat (first | refine zj ?_ _ | refine zl ?_ | refine zk ?_ _)); exact ae.out)) : ad ≠ ag)); have fM := zzk ((by rw [hg]; exact Nat.ne_of_lt (zq (g := ac) (o := .cells #[.int .i64 aU,.int .i64 aY,.int .i64 bd,.int .i64 be,.slice bJ bf.length bE,.slice bP bh.length bK,.int .i64 bi,.string bk,.bool bm] 34 (0,0)) (by (with_reducible repeat (first | refine zj ?_ _ | refine zl ?_ | refine zk ?_ _)); exact af.out)) : ac ≠ ad)); have fN := zzk ((by rw [hg]; exact Nat.ne_of_gt (zq (g := ac) (o := .cells #[.int .i64 aU,.int .i64 aY,.int .i64 bd,.int .i64 be,.slice bJ bf.length bE,.slice bP bh.length bK,.int .i64 bi,.string bk,.bool bm] 34 (0,0)) (by (with_reducible repeat (first | refine zj ?_ _ | refine zl ?_ | refine zk ?_ _)); exact af.out)) : ad ≠ ac)); have fO := zzk ((by rw [hg]; exact Nat.ne_of_lt (zq (g := aa) (o := .cells #[.int .i64 bo,.int .i64 bq,.int .i64 bu,.int .i64 bw,.slice bU bv.length bQ,.slice bX bx.length bV,.int .i64 bD,.string bH,.bool bN] 34 (0,0)) (by (with_reducible repeat (first | refine zj ?_ _ | refine zl ?_ | refine zk ?_ _)); exact ak.out)) : aa ≠ ad)); have fP := zzk ((by rw [hg]; exact Nat.ne_of_gt (zq (g := aa) (o := .cells #[.int .i64 bo,.int .i64 bq,.int .i64 bu,.int .i64 bw,.slice bU bv.length bQ,.slice bX bx.length bV,.int .i64 bD,.string bH,.bool bN] 34 (0,0)) (by (with_reducible repeat (first | refine zj ?_ _ | refine zl ?_ | refine zk ?_ _)); exact ak.out)) : ad ≠ aa)); clear ba; clear bb; clear bs; clear bt; clear cb; clear cc; clear cB; clear cC; clear ab; clear ae; clear af; clear ak; clear HB; have ba := bR; have bb := bS; have bs := bY; have bt := bZ; have cb := ch; have cc := ci; have cB := cj; have cC := cn; have ab := co; have ae := cx; have af := cd; have ak := ce; have HB := cf; have ai := cl; have pY := cu; have cX := cv; have cS := cF; have eb := dY; have cT := dZ; have ec := fL; have cK := fM; have dy := fN; have cU := fO; have ed := fP; clear bR bS bY bZ ch ci cj cn co cx cd ce cf cl cu cv cF dY dZ fL fM fN fO fP; clear hb hbox hg; have pZ := eb.out; have qa := cS.out; have qb := ec.out; have qc := cT.out; have qd := dy.out; have qe := cK.out; have qf := ed.out; have qg := cU.out; have jm : dD.cell? ⟨ad,0,none⟩ = some (.int .i64 0) := (zi ai.out 0).trans rfl; have jn : dD.cell? ⟨ad,1,none⟩ = some (.int .i64 0) := (zi ai.out 1).trans rfl; have jo : dD.cell? ⟨ad,2,none⟩ = some (.slice none 0 0) := (zi ai.out 2).trans rfl; have jp : dD.cell? ⟨ad,3,none⟩ = some (.slice none 0 0) := (zi ai.out 3).trans rfl; have jq : dD.cell? ⟨ad,4,none⟩ = some (.string (⟨#[]⟩ : ByteArray)) := (zi ai.out 4).trans rfl; have jr := zm ai.out 0; have js := zm ai.out 1; have jt := zm ai.out 2; have ju := zm ai.out 3; have jv := zm ai.out 4; obtain ⟨bF,bG,eo57⟩ := zz cB.out; subst eo57; obtain ⟨bL,bM,eo58⟩ := zz cC.out; subst eo58; have jw : dD.cell? ⟨ag,0,none⟩ = some (.int .i64 aM) := (zi ae.out 0).trans rfl; have jx : dD.cell? ⟨ag,1,none⟩ = some (.int .i64 aN) := (zi ae.out 1).trans rfl; have jy : dD.cell? ⟨ag,2,none⟩ = some (.int .i64 aO) := (zi ae.out 2).trans rfl; have jz : dD.cell? ⟨ag,3,none⟩ = some (.int .i64 aP) := (zi ae.out 3).trans rfl; have jA : dD.cell? ⟨ag,4,none⟩ = some (.slice bT aX.length bI) := (zi ae.out 4).trans rfl; have jB : dD.cell? ⟨ag,5,none⟩ = some (.slice bW bc.length bO) := (zi ae.out 5).trans rfl; have jC : dD.cell? ⟨ag,6,none⟩ = some (.int .i64 aQ) := (zi ae.out 6).trans rfl; have jD : dD.cell? ⟨ag,7,none⟩ = some (.string aR) := (zi ae.out 7).trans rfl; have jE : dD.cell? ⟨ag,8,none⟩ = some (.bool aT) := (zi ae.out 8).trans rfl; have jF := zm ae.out 0; have jG := zm ae.out 1; have jH := zm ae.out 2; have jI := zm ae.out 3; have jJ := zm ae.out 4; have jK := zm ae.out 5; have jL := zm ae.out 6; have jM := zm ae.out 7; have jN := zm ae.out 8) | ((with_reducible refine zza (f := 25) rfl ?_); refine zzd (some 60) rfl rfl Try.func25 (by kernel_rfl) rfl #[.agg #[.int .i64 aM,.int .i64 aN,.int .i64 aO,.int .i64 aP,.slice bT aX.length bI,.slice bW bc.length bO,.int .i64 aQ,.string aR,.bool aT]] rfl (by (try simp only [zd,ze,zf]); first | done | rfl | (simp only [zg,zh]; rfl)) ?_; (with_reducible refine (r16_Whole.calls cg aM aN aO aP _ _ aX _ _ bc aQ aR aT ck cm cr ct cz eu _ ?side1 ?side2 ?side3 ?side4 oH.out).mono ?_); (case side1 => refine (zw (e := 3) (base := w.heap.size) (ok := fun k_ => ((((((some k_ ≠ (.slice bW bc.length bO : Value).ownBlock ∧ some k_ ≠ (.slice bJ bf.length bE : Value).ownBlock) ∧ some k_ ≠ (.slice bP bh.length bK : Value).ownBlock) ∧ some k_ ≠ (.slice bU bv.length bQ : Value).ownBlock) ∧ some k_ ≠ (.slice bX bx.length bV : Value).ownBlock) ∧ some k_ ≠ (.slice bF bj.length bG : Value).ownBlock) ∧ some k_ ≠ (.slice bL bl.length bM : Value).ownBlock)) (n := aX.length) (c := bI) ?_).2.2; exact (by (with_reducible repeat (first | apply zu | apply zt | apply zs)); exact (zx (zr (p := ⟨ad,4,none⟩) (zr (p := ⟨ad,3,none⟩) (zr (p := ⟨ad,2,none⟩) (zr (p := ⟨ad,1,none⟩) (zr (p := ⟨ad,0,none⟩) (zy ba.out ai.out (by decide)) (fun _ hk => hk.2) (.int .i64 aV)) (fun _ hk => hk.2) (.int .i64 aZ)) (fun _ hk => hk.2) (.slice bF bj.length bG)) (fun _ hk => hk.2) (.slice bL bl.length bM)) (fun _ hk => hk.2) (.string bg)) (fun _ h_ => h_.1)))); (case side2 => exact (zw ba.out).2.1); (case side3 => refine (zw (e := 3) (base := w.heap.size) (ok := fun k_ => ((((((some k_ ≠ (.slice bT aX.length bI : Value).ownBlock ∧ some k_ ≠ (.slice bJ bf.length bE : Value).ownBlock) ∧ some k_ ≠ (.slice bP bh.length bK : Value).ownBlock) ∧ some k_ ≠ (.slice bU bv.length bQ : Value).ownBlock) ∧ some k_ ≠ (.slice bX bx.length bV : Value).ownBlock) ∧ some k_ ≠ (.slice bF bj.length bG : Value).ownBlock) ∧ some k_ ≠ (.slice bL bl.length bM : Value).ownBlock)) (n := bc.length) (c := bO) ?_).2.2; exact (by (with_reducible repeat (first | apply zu | apply zt | apply zs)); exact (zx (zr (p := ⟨ad,4,none⟩) (zr (p := ⟨ad,3,none⟩) (zr (p := ⟨ad,2,none⟩) (zr (p := ⟨ad,1,none⟩) (zr (p := ⟨ad,0,none⟩) (zy bb.out ai.out (by decide)) (fun _ hk => hk.2) (.int .i64 aV)) (fun _ hk => hk.2) (.int .i64 aZ)) (fun _ hk => hk.2) (.slice bF bj.length bG)) (fun _ hk => hk.2) (.slice bL bl.length bM)) (fun _ hk => hk.2) (.string bg)) (fun _ h_ => h_.1)))); (case side4 => exact (zw bb.out).2.1); rintro e rm ⟨ra,rb,rfl,ho0,ho1,hb⟩; refine ⟨_,rfl,?_⟩; have bR := zzk (zx (Zc (Zc (Kd.R_old (by (with_reducible repeat (first | apply zu | apply zt | apply zs)); exact (zx (zr (p := ⟨ad,4,none⟩) (zr (p := ⟨ad,3,none⟩) (zr (p := ⟨ad,2,none⟩) (zr (p := ⟨ad,1,none⟩) (zr (p := ⟨ad,0,none⟩) (zy ba.out ai.out (by decide)) (fun _ hk => hk.2) (.int .i64 aV)) (fun _ hk => hk.2) (.int .i64 aZ)) (fun _ hk => hk.2) (.slice bF bj.length bG)) (fun _ hk => hk.2) (.slice bL bl.length bM)) (fun _ hk => hk.2) (.string bg)) (fun _ h_ => h_.1))) hb) (Zd ho0)) (Zd ho1)) (fun _ h_ => h_.1)); have bS := zzk (zx (Zc (Zc (Kd.R_old (by (with_reducible repeat (first | apply zu | apply zt | apply zs)); exact (zx (zr (p := ⟨ad,4,none⟩) (zr (p := ⟨ad,3,none⟩) (zr (p := ⟨ad,2,none⟩) (zr (p := ⟨ad,1,none⟩) (zr (p := ⟨ad,0,none⟩) (zy bb.out ai.out (by decide)) (fun _ hk => hk.2) (.int .i64 aV)) (fun _ hk => hk.2) (.int .i64 aZ)) (fun _ hk => hk.2) (.slice bF bj.length bG)) (fun _ hk => hk.2) (.slice bL bl.length bM)) (fun _ hk => hk.2) (.string bg)) (fun _ h_ => h_.1))) hb) (Zd ho0)) (Zd ho1)) (fun _ h_ => h_.1)); have bY := zzk (zx (Zc (Zc (Kd.R_old (by (with_reducible repeat (first | apply zu | apply zt | apply zs)); exact (zx (zr (p := ⟨ad,4,none⟩) (zr (p := ⟨ad,3,none⟩) (zr (p := ⟨ad,2,none⟩) (zr (p := ⟨ad,1,none⟩) (zr (p := ⟨ad,0,none⟩) (zy bs.out ai.out (by decide)) (fun _ hk => hk.2) (.int .i64 aV)) (fun _ hk => hk.2) (.int .i64 aZ)) (fun _ hk => hk.2) (.slice bF bj.length bG)) (fun _ hk => hk.2) (.slice bL bl.length bM)) (fun _ hk => hk.2) (.string bg)) (fun _ h_ => h_.1))) hb) (Zd ho0)) (Zd ho1)) (fun _ h_ => h_.1)); have bZ := zzk (zx (Zc (Zc (Kd.R_old (by (with_reducible repeat (first | apply zu | apply zt | apply zs)); exact (zx (zr (p := ⟨ad,4,none⟩) (zr (p := ⟨ad,3,none⟩) (zr (p := ⟨ad,2,none⟩) (zr (p := ⟨ad,1,none⟩) (zr (p := ⟨ad,0,none⟩) (zy bt.out ai.out (by decide)) (fun _ hk => hk.2) (.int .i64 aV)) (fun _ hk => hk.2) (.int .i64 aZ)) (fun _ hk => hk.2) (.slice bF bj.length bG)) (fun _ hk => hk.2) (.slice bL bl.length bM)) (fun _ hk => hk.2) (.string bg)) (fun _ h_ => h_.1))) hb) (Zd ho0)) (Zd ho1)) (fun _ h_ => h_.1)); have ch := zzk (zx (Zc (Zc (Kd.R_old (by (with_reducible repeat (first | apply zu | apply zt | apply zs)); exact (zx (zr (p := ⟨ad,4,none⟩) (zr (p := ⟨ad,3,none⟩) (zr (p := ⟨ad,2,none⟩) (zr (p := ⟨ad,1,none⟩) (zr (p := ⟨ad,0,none⟩) (zy cb.out ai.out (by decide)) (fun _ hk => hk.2) (.int .i64 aV)) (fun _ hk => hk.2) (.int .i64 aZ)) (fun _ hk => hk.2) (.slice bF bj.length bG)) (fun _ hk => hk.2) (.slice bL bl.length bM)) (fun _ hk => hk.2) (.string bg)) (fun _ h_ => h_.1))) hb) (Zd ho0)) (Zd ho1)) (fun _ h_ => h_.1)); have ci := zzk (zx (Zc (Zc (Kd.R_old (by (with_reducible repeat (first | apply zu | apply zt | apply zs)); exact (zx (zr (p := ⟨ad,4,none⟩) (zr (p := ⟨ad,3,none⟩) (zr (p := ⟨ad,2,none⟩) (zr (p := ⟨ad,1,none⟩) (zr (p := ⟨ad,0,none⟩) (zy cc.out ai.out (by decide)) (fun _ hk => hk.2) (.int .i64 aV)) (fun _ hk => hk.2) (.int .i64 aZ)) (fun _ hk => hk.2) (.slice bF bj.length bG)) (fun _ hk => hk.2) (.slice bL bl.length bM)) (fun _ hk => hk.2) (.string bg)) (fun _ h_ => h_.1))) hb) (Zd ho0)) (Zd ho1)) (fun _ h_ => h_.1)); have cj := zzk (zx (Zc (Zc (Kd.R_old (by (with_reducible repeat (first | apply zu | apply zt | apply zs)); exact (zx (zr (p := ⟨ad,4,none⟩) (zr (p := ⟨ad,3,none⟩) (zr (p := ⟨ad,2,none⟩) (zr (p := ⟨ad,1,none⟩) (zr (p := ⟨ad,0,none⟩) (zy cB.out ai.out (by decide)) (fun _ hk => hk.2) (.int .i64 aV)) (fun _ hk => hk.2) (.int .i64 aZ)) (fun _ hk => hk.2) (.slice bF bj.length bG)) (fun _ hk => hk.2) (.slice bL bl.length bM)) (fun _ hk => hk.2) (.string bg)) (fun _ h_ => h_.1))) hb) (Zd ho0)) (Zd ho1)) (fun _ h_ => h_.1)); have cn := zzk (zx (Zc (Zc (Kd.R_old (by (with_reducible repeat (first | apply zu | apply zt | apply zs)); exact (zx (zr (p := ⟨ad,4,none⟩) (zr (p := ⟨ad,3,none⟩) (zr (p := ⟨ad,2,none⟩) (zr (p := ⟨ad,1,none⟩) (zr (p := ⟨ad,0,none⟩) (zy cC.out ai.out (by decide)) (fun _ hk => hk.2) (.int .i64 aV)) (fun _ hk => hk.2) (.int .i64 aZ)) (fun _ hk => hk.2) (.slice bF bj.length bG)) (fun _ hk => hk.2) (.slice bL bl.length bM)) (fun _ hk => hk.2) (.string bg)) (fun _ h_ => h_.1))) hb) (Zd ho0)) (Zd ho1)) (fun _ h_ => h_.1)); have co := zzk (Za (Zb (Zb (Zb (Zb (Zb (Zb (Zb (Zb ho0 (Kd.R_lt (by (with_reducible repeat (first | apply zu | apply zt | apply zs)); exact (zx (zr (p := ⟨ad,4,none⟩) (zr (p := ⟨ad,3,none⟩) (zr (p := ⟨ad,2,none⟩) (zr (p := ⟨ad,1,none⟩) (zr (p := ⟨ad,0,none⟩) (zy ba.out ai.out (by decide)) (fun _ hk => hk.2) (.int .i64 aV)) (fun _ hk => hk.2) (.int .i64 aZ)) (fun _ hk => hk.2) (.slice bF bj.length bG)) (fun _ hk => hk.2) (.slice bL bl.length bM)) (fun _ hk => hk.2) (.string bg)) (fun _ h_ => h_.1))))) (Kd.R_lt (by (with_reducible repeat (first | apply zu | apply zt | apply zs)); exact (zx (zr (p := ⟨ad,4,none⟩) (zr (p := ⟨ad,3,none⟩) (zr (p := ⟨ad,2,none⟩) (zr (p := ⟨ad,1,none⟩) (zr (p := ⟨ad,0,none⟩) (zy bb.out ai.out (by decide)) (fun _ hk => hk.2) (.int .i64 aV)) (fun _ hk => hk.2) (.int .i64 aZ)) (fun _ hk => hk.2) (.slice bF bj.length bG)) (fun _ hk => hk.2) (.slice bL bl.length bM)) (fun _ hk => hk.2) (.string bg)) (fun _ h_ => h_.1))))) (Kd.R_lt (by (with_reducible repeat (first | apply zu | apply zt | apply zs)); exact (zx (zr (p := ⟨ad,4,none⟩) (zr (p := ⟨ad,3,none⟩) (zr (p := ⟨ad,2,none⟩) (zr (p := ⟨ad,1,none⟩) (zr (p := ⟨ad,0,none⟩) (zy bs.out ai.out (by decide)) (fun _ hk => hk.2) (.int .i64 aV)) (fun _ hk => hk.2) (.int .i64 aZ)) (fun _ hk => hk.2) (.slice bF bj.length bG)) (fun _ hk => hk.2) (.slice bL bl.length bM)) (fun _ hk => hk.2) (.string bg)) (fun _ h_ => h_.1))))) (Kd.R_lt (by (with_reducible repeat (first | apply zu | apply zt | apply zs)); exact (zx (zr (p := ⟨ad,4,none⟩) (zr (p := ⟨ad,3,none⟩) (zr (p := ⟨ad,2,none⟩) (zr (p := ⟨ad,1,none⟩) (zr (p := ⟨ad,0,none⟩) (zy bt.out ai.out (by decide)) (fun _ hk => hk.2) (.int .i64 aV)) (fun _ hk => hk.2) (.int .i64 aZ)) (fun _ hk => hk.2) (.slice bF bj.length bG)) (fun _ hk => hk.2) (.slice bL bl.length bM)) (fun _ hk => hk.2) (.string bg)) (fun _ h_ => h_.1))))) (Kd.R_lt (by (with_reducible repeat (first | apply zu | apply zt | apply zs)); exact (zx (zr (p := ⟨ad,4,none⟩) (zr (p := ⟨ad,3,none⟩) (zr (p := ⟨ad,2,none⟩) (zr (p := ⟨ad,1,none⟩) (zr (p := ⟨ad,0,none⟩) (zy cb.out ai.out (by decide)) (fun _ hk => hk.2) (.int .i64 aV)) (fun _ hk => hk.2) (.int .i64 aZ)) (fun _ hk => hk.2) (.slice bF bj.length bG)) (fun _ hk => hk.2) (.slice bL bl.length bM)) (fun _ hk => hk.2) (.string bg)) (fun _ h_ => h_.1))))) (Kd.R_lt (by (with_reducible repeat (first | apply zu | apply zt | apply zs)); exact (zx (zr (p := ⟨ad,4,none⟩) (zr (p := ⟨ad,3,none⟩) (zr (p := ⟨ad,2,none⟩) (zr (p := ⟨ad,1,none⟩) (zr (p := ⟨ad,0,none⟩) (zy cc.out ai.out (by decide)) (fun _ hk => hk.2) (.int .i64 aV)) (fun _ hk => hk.2) (.int .i64 aZ)) (fun _ hk => hk.2) (.slice bF bj.length bG)) (fun _ hk => hk.2) (.slice bL bl.length bM)) (fun _ hk => hk.2) (.string bg)) (fun _ h_ => h_.1))))) (Kd.R_lt (by (with_reducible repeat (first | apply zu | apply zt | apply zs)); exact (zx (zr (p := ⟨ad,4,none⟩) (zr (p := ⟨ad,3,none⟩) (zr (p := ⟨ad,2,none⟩) (zr (p := ⟨ad,1,none⟩) (zr (p := ⟨ad,0,none⟩) (zy cB.out ai.out (by decide)) (fun _ hk => hk.2) (.int .i64 aV)) (fun _ hk => hk.2) (.int .i64 aZ)) (fun _ hk => hk.2) (.slice bF bj.length bG)) (fun _ hk => hk.2) (.slice bL bl.length bM)) (fun _ hk => hk.2) (.string bg)) (fun _ h_ => h_.1))))) (Kd.R_lt (by (with_reducible repeat (first | apply zu | apply zt | apply zs)); exact (zx (zr (p := ⟨ad,4,none⟩) (zr (p := ⟨ad,3,none⟩) (zr (p := ⟨ad,2,none⟩) (zr (p := ⟨ad,1,none⟩) (zr (p := ⟨ad,0,none⟩) (zy cC.out ai.out (by decide)) (fun _ hk => hk.2) (.int .i64 aV)) (fun _ hk => hk.2) (.int .i64 aZ)) (fun _ hk => hk.2) (.slice bF bj.length bG)) (fun _ hk => hk.2) (.slice bL bl.length bM)) (fun _ hk => hk.2) (.string bg)) (fun _ h_ => h_.1))))) (Zr (by repeat (first | (with_reducible first | exact HB.out | apply Zq | apply Zp | apply Zo | refine Zn ?_ aS.out | refine Zn ?_ br.out | refine Zn ?_ ca.out | refine Zn ?_ cw.out | refine Zn ?_ cX.out) | exact HB.out)))); have cx := zzk (Za (Zb (Zb (Zb (Zb (Zb (Zb (Zb (Zb ho1 (Kd.R_lt (by (with_reducible repeat (first | apply zu | apply zt | apply zs)); exact (zx (zr (p := ⟨ad,4,none⟩) (zr (p := ⟨ad,3,none⟩) (zr (p := ⟨ad,2,none⟩) (zr (p := ⟨ad,1,none⟩) (zr (p := ⟨ad,0,none⟩) (zy ba.out ai.out (by decide)) (fun _ hk => hk.2) (.int .i64 aV)) (fun _ hk => hk.2) (.int .i64 aZ)) (fun _ hk => hk.2) (.slice bF bj.length bG)) (fun _ hk => hk.2) (.slice bL bl.length bM)) (fun _ hk => hk.2) (.string bg)) (fun _ h_ => h_.1))))) (Kd.R_lt (by (with_reducible repeat (first | apply zu | apply zt | apply zs)); exact (zx (zr (p := ⟨ad,4,none⟩) (zr (p := ⟨ad,3,none⟩) (zr (p := ⟨ad,2,none⟩) (zr (p := ⟨ad,1,none⟩) (zr (p := ⟨ad,0,none⟩) (zy bb.out ai.out (by decide)) (fun _ hk => hk.2) (.int .i64 aV)) (fun _ hk => hk.2) (.int .i64 aZ)) (fun _ hk => hk.2) (.slice bF bj.length bG)) (fun _ hk => hk.2) (.slice bL bl.length bM)) (fun _ hk => hk.2) (.string bg)) (fun _ h_ => h_.1))))) (Kd.R_lt (by (with_reducible repeat (first | apply zu | apply zt | apply zs)); exact (zx (zr (p := ⟨ad,4,none⟩) (zr (p := ⟨ad,3,none⟩) (zr (p := ⟨ad,2,none⟩) (zr (p := ⟨ad,1,none⟩) (zr (p := ⟨ad,0,none⟩) (zy bs.out ai.out (by decide)) (fun _ hk => hk.2) (.int .i64 aV)) (fun _ hk => hk.2) (.int .i64 aZ)) (fun _ hk => hk.2) (.slice bF bj.length bG)) (fun _ hk => hk.2) (.slice bL bl.length bM)) (fun _ hk => hk.2) (.string bg)) (fun _ h_ => h_.1))))) (Kd.R_lt (by (with_reducible repeat (first | apply zu | apply zt | apply zs)); exact (zx (zr (p := ⟨ad,4,none⟩) (zr (p := ⟨ad,3,none⟩) (zr (p := ⟨ad,2,none⟩) (zr (p := ⟨ad,1,none⟩) (zr (p := ⟨ad,0,none⟩) (zy bt.out ai.out (by decide)) (fun _ hk => hk.2) (.int .i64 aV)) (fun _ hk => hk.2) (.int .i64 aZ)) (fun _ hk => hk.2) (.slice bF bj.length bG)) (fun _ hk => hk.2) (.slice bL bl.length bM)) (fun _ hk => hk.2) (.string bg)) (fun _ h_ => h_.1))))) (Kd.R_lt (by (with_reducible repeat (first | apply zu | apply zt | apply zs)); exact (zx (zr (p := ⟨ad,4,none⟩) (zr (p := ⟨ad,3,none⟩) (zr (p := ⟨ad,2,none⟩) (zr (p := ⟨ad,1,none⟩) (zr (p := ⟨ad,0,none⟩) (zy cb.out ai.out (by decide)) (fun _ hk => hk.2) (.int .i64 aV)) (fun _ hk => hk.2) (.int .i64 aZ)) (fun _ hk => hk.2) (.slice bF bj.length bG)) (fun _ hk => hk.2) (.slice bL bl.length bM)) (fun _ hk => hk.2) (.string bg)) (fun _ h_ => h_.1))))) (Kd.R_lt (by (with_reducible repeat (first | apply zu | apply zt | apply zs)); exact (zx (zr (p := ⟨ad,4,none⟩) (zr (p := ⟨ad,3,none⟩) (zr (p := ⟨ad,2,none⟩) (zr (p := ⟨ad,1,none⟩) (zr (p := ⟨ad,0,none⟩) (zy cc.out ai.out (by decide)) (fun _ hk => hk.2) (.int .i64 aV)) (fun _ hk => hk.2) (.int .i64 aZ)) (fun _ hk => hk.2) (.slice bF bj.length bG)) (fun _ hk => hk.2) (.slice bL bl.length bM)) (fun _ hk => hk.2) (.string bg)) (fun _ h_ => h_.1))))) (Kd.R_lt (by (with_reducible repeat (first | apply zu | apply zt | apply zs)); exact (zx (zr (p := ⟨ad,4,none⟩) (zr (p := ⟨ad,3,none⟩) (zr (p := ⟨ad,2,none⟩) (zr (p := ⟨ad,1,none⟩) (zr (p := ⟨ad,0,none⟩) (zy cB.out ai.out (by decide)) (fun _ hk => hk.2) (.int .i64 aV)) (fun _ hk => hk.2) (.int .i64 aZ)) (fun _ hk => hk.2) (.slice bF bj.length bG)) (fun _ hk => hk.2) (.slice bL bl.length bM)) (fun _ hk => hk.2) (.string bg)) (fun _ h_ => h_.1))))) (Kd.R_lt (by (with_reducible repeat (first | apply zu | apply zt | apply zs)); exact (zx (zr (p := ⟨ad,4,none⟩) (zr (p := ⟨ad,3,none⟩) (zr (p := ⟨ad,2,none⟩) (zr (p := ⟨ad,1,none⟩) (zr (p := ⟨ad,0,none⟩) (zy cC.out ai.out (by decide)) (fun _ hk => hk.2) (.int .i64 aV)) (fun _ hk => hk.2) (.int .i64 aZ)) (fun _ hk => hk.2) (.slice bF bj.length bG)) (fun _ hk => hk.2) (.slice bL bl.length bM)) (fun _ hk => hk.2) (.string bg)) (fun _ h_ => h_.1))))) (Zr (by repeat (first | (with_reducible first | exact HB.out | apply Zq | apply Zp | apply Zo | refine Zn ?_ aS.out | refine Zn ?_ br.out | refine Zn ?_ ca.out | refine Zn ?_ cw.out | refine Zn ?_ cX.out) | exact HB.out)))); have cd := zzk (zo (g := ah) (o := .cells #[.int .i64 ay,.int .i64 az,.int .i64 aA,.int .i64 aB,.slice bz aw.length bA,.slice bB ax.length bC,.int .i64 aC,.string av,.bool aD] 34 (0,0)) (by (with_reducible repeat (first | refine zj ?_ _ | refine zl ?_ | refine zk ?_ _)); refine zn ?_ cS.out _; (with_reducible repeat (first | refine zj ?_ _ | refine zl ?_ | refine zk ?_ _)); refine zn ?_ cS.out _; (with_reducible repeat (first | refine zj ?_ _ | refine zl ?_ | refine zk ?_ _)); refine zn ?_ cS.out _; (with_reducible repeat (first | refine zj ?_ _ | refine zl ?_ | refine zk ?_ _)); refine zn ?_ cS.out _; (with_reducible repeat (first | refine zj ?_ _ | refine zl ?_ | refine zk ?_ _)); refine zn ?_ cS.out _; (with_reducible repeat (first | refine zj ?_ _ | refine zl ?_ | refine zk ?_ _)); exact ab.out) hb); have ce := zzk (zo (g := ag) (o := .cells #[.int .i64 aM,.int .i64 aN,.int .i64 aO,.int .i64 aP,.slice bT aX.length bI,.slice bW bc.length bO,.int .i64 aQ,.string aR,.bool aT] 34 (0,0)) (by (with_reducible repeat (first | refine zj ?_ _ | refine zl ?_ | refine zk ?_ _)); refine zn ?_ cT.out _; (with_reducible repeat (first | refine zj ?_ _ | refine zl ?_ | refine zk ?_ _)); refine zn ?_ cT.out _; (with_reducible repeat (first | refine zj ?_ _ | refine zl ?_ | refine zk ?_ _)); refine zn ?_ cT.out _; (with_reducible repeat (first | refine zj ?_ _ | refine zl ?_ | refine zk ?_ _)); refine zn ?_ cT.out _; (with_reducible repeat (first | refine zj ?_ _ | refine zl ?_ | refine zk ?_ _)); refine zn ?_ cT.out _; (with_reducible repeat (first | refine zj ?_ _ | refine zl ?_ | refine zk ?_ _)); exact ae.out) hb); have cf := zzk (zo (g := ac) (o := .cells #[.int .i64 aU,.int .i64 aY,.int .i64 bd,.int .i64 be,.slice bJ bf.length bE,.slice bP bh.length bK,.int .i64 bi,.string bk,.bool bm] 34 (0,0)) (by (with_reducible repeat (first | refine zj ?_ _ | refine zl ?_ | refine zk ?_ _)); refine zn ?_ cK.out _; (with_reducible repeat (first | refine zj ?_ _ | refine zl ?_ | refine zk ?_ _)); refine zn ?_ cK.out _; (with_reducible repeat (first | refine zj ?_ _ | refine zl ?_ | refine zk ?_ _)); refine zn ?_ cK.out _; (with_reducible repeat (first | refine zj ?_ _ | refine zl ?_ | refine zk ?_ _)); refine zn ?_ cK.out _; (with_reducible repeat (first | refine zj ?_ _ | refine zl ?_ | refine zk ?_ _)); refine zn ?_ cK.out _; (with_reducible repeat (first | refine zj ?_ _ | refine zl ?_ | refine zk ?_ _)); exact af.out) hb); have cl := zzk (zo (g := aa) (o := .cells #[.int .i64 bo,.int .i64 bq,.int .i64 bu,.int .i64 bw,.slice bU bv.length bQ,.slice bX bx.length bV,.int .i64 bD,.string bH,.bool bN] 34 (0,0)) (by (with_reducible repeat (first | refine zj ?_ _ | refine zl ?_ | refine zk ?_ _)); refine zn ?_ cU.out _; (with_reducible repeat (first | refine zj ?_ _ | refine zl ?_ | refine zk ?_ _)); refine zn ?_ cU.out _; (with_reducible repeat (first | refine zj ?_ _ | refine zl ?_ | refine zk ?_ _)); refine zn ?_ cU.out _; (with_reducible repeat (first | refine zj ?_ _ | refine zl ?_ | refine zk ?_ _)); refine zn ?_ cU.out _; (with_reducible repeat (first | refine zj ?_ _ | refine zl ?_ | refine zk ?_ _)); refine zn ?_ cU.out _; (with_reducible repeat (first | refine zj ?_ _ | refine zl ?_ | refine zk ?_ _)); exact ak.out) hb); have cu := zzk (zo (g := ad) (o := .cells #[.int .i64 aV,.int .i64 aZ,.slice bF bj.length bG,.slice bL bl.length bM,.string bg] 26 (0,0)) (by (with_reducible repeat (first | refine zj ?_ _ | refine zl ?_ | refine zk ?_ _)); refine zp (cs := #[.int .i64 aV,.int .i64 aZ,.slice bF bj.length bG,.slice bL bl.length bM,.string (⟨#[]⟩ : ByteArray)]) ?_ 4 _ rfl; (with_reducible repeat (first | refine zj ?_ _ | refine zl ?_ | refine zk ?_ _)); refine zp (cs := #[.int .i64 aV,.int .i64 aZ,.slice bF bj.length bG,.slice none 0 0,.string (⟨#[]⟩ : ByteArray)]) ?_ 3 _ rfl; (with_reducible repeat (first | refine zj ?_ _ | refine zl ?_ | refine zk ?_ _)); refine zp (cs := #[.int .i64 aV,.int .i64 aZ,.slice none 0 0,.slice none 0 0,.string (⟨#[]⟩ : ByteArray)]) ?_ 2 _ rfl; (with_reducible repeat (first | refine zj ?_ _ | refine zl ?_ | refine zk ?_ _)); refine zp (cs := #[.int .i64 aV,.int .i64 0,.slice none 0 0,.slice none 0 0,.string (⟨#[]⟩ : ByteArray)]) ?_ 1 _ rfl; (with_reducible repeat (first | refine zj ?_ _ | refine zl ?_ | refine zk ?_ _)); refine zp (cs := #[.int .i64 0,.int .i64 0,.slice none 0 0,.slice none 0 0,.string (⟨#[]⟩ : ByteArray)]) ?_ 0 _ rfl; (with_reducible repeat (first | refine zj ?_ _ | refine zl ?_ | refine zk ?_ _)); exact ai.out) hb); have cv := zzk (Zs (by repeat (first | (with_reducible first | exact HB.out | apply Zq | apply Zp | apply Zo | refine Zn ?_ aS.out | refine Zn ?_ br.out | refine Zn ?_ ca.out | refine Zn ?_ cw.out | refine Zn ?_ cX.out) | exact HB.out)) hb); clear ba; clear bb; clear bs; clear bt; clear cb; clear cc; clear cB; clear cC; clear ab; clear ae; clear af; clear ak; clear ai; clear HB; have ba := bR; have bb := bS; have bs := bY; have bt := bZ; have cb := ch; have cc := ci; have cB := cj; have cC := cn; have dl := co; have dm := cx; have ab := cd; have ae := ce; have af := cf; have ak := cl; have ai := cu; have HB := cv; clear bR bS bY bZ ch ci cj cn co cx cd ce cf cl cu cv; (try clear hb); (try clear hb2); (try clear hk); (try clear hi); (try clear ho0); (try clear ho1)) | ((with_reducible refine Zy (N := 16) rfl ?_); (try (refine Zz (by rfl) ?_; dsimp only)); refine zzc ?hg (N := 16) ?hd (cs := #[.int .i64 0,.int .i64 0,.slice none 0 0,.slice none 0 0,.string (⟨#[]⟩ : ByteArray)]) (t := 26) ?hr ?_; (case hd => rfl); (case hg => rfl); (case hr => first | (go_simp; done) | (go_simp; rfl)); intro aj hg di hbox hb; have bR := zzk (zv (by (with_reducible repeat (first | apply zu | apply zt | apply zs)); exact ba.out) hb); have bS := zzk (zv (by (with_reducible repeat (first | apply zu | apply zt | apply zs)); exact bb.out) hb); have bY := zzk (zv (by (with_reducible repeat (first | apply zu | apply zt | apply zs)); exact bs.out) hb); have bZ := zzk (zv (by (with_reducible repeat (first | apply zu | apply zt | apply zs)); exact bt.out) hb); have ch := zzk (zv (by (with_reducible repeat (first | apply zu | apply zt | apply zs)); exact cb.out) hb); have ci := zzk (zv (by (with_reducible repeat (first | apply zu | apply zt | apply zs)); exact cc.out) hb); have cj := zzk (zv (by (with_reducible repeat (first | apply zu | apply zt | apply zs)); exact cB.out) hb); have cn := zzk (zv (by (with_reducible repeat (first | apply zu | apply zt | apply zs)); exact cC.out) hb); have co := zzk (zv (by (with_reducible repeat (first | apply zu | apply zt | apply zs)); exact dl.out) hb); have cx := zzk (zv (by (with_reducible repeat (first | apply zu | apply zt | apply zs)); exact dm.out) hb); have cd := zzk (zo (g := ah) (o := .cells #[.int .i64 ay,.int .i64 az,.int .i64 aA,.int .i64 aB,.slice bz aw.length bA,.slice bB ax.length bC,.int .i64 aC,.string av,.bool aD] 34 (0,0)) (by (with_reducible repeat (first | refine zj ?_ _ | refine zl ?_ | refine zk ?_ _)); exact ab.out) hb); have ce := zzk (zo (g := ag) (o := .cells #[.int .i64 aM,.int .i64 aN,.int .i64 aO,.int .i64 aP,.slice bT aX.length bI,.slice bW bc.length bO,.int .i64 aQ,.string aR,.bool aT] 34 (0,0)) (by (with_reducible repeat (first | refine zj ?_ _ | refine zl ?_ | refine zk ?_ _)); exact ae.out) hb); have cf := zzk (zo (g := ac) (o := .cells #[.int .i64 aU,.int .i64 aY,.int .i64 bd,.int .i64 be,.slice bJ bf.length bE,.slice bP bh.length bK,.int .i64 bi,.string bk,.bool bm] 34 (0,0)) (by (with_reducible repeat (first | refine zj ?_ _ | refine zl ?_ | refine zk ?_ _)); exact af.out) hb); have cl := zzk (zo (g := aa) (o := .cells #[.int .i64 bo,.int .i64 bq,.int .i64 bu,.int .i64 bw,.slice bU bv.length bQ,.slice bX bx.length bV,.int .i64 bD,.string bH,.bool bN] 34 (0,0)) (by (with_reducible repeat (first | refine zj ?_ _ | refine zl ?_ | refine zk ?_ _)); exact ak.out) hb); have cu := zzk (zo (g := ad) (o := .cells #[.int .i64 aV,.int .i64 aZ,.slice bF bj.length bG,.slice bL bl.length bM,.string bg] 26 (0,0)) (by (with_reducible repeat (first | refine zj ?_ _ | refine zl ?_ | refine zk ?_ _)); exact ai.out) hb); have cv := zzk (Zs (by repeat (first | (with_reducible first | exact HB.out | apply Zq | apply Zp | apply Zo | refine Zn ?_ aS.out | refine Zn ?_ br.out | refine Zn ?_ ca.out | refine Zn ?_ cw.out | refine Zn ?_ cX.out) | exact HB.out)) hb); have cF := zzk (hbox); have dY := zzk ((by rw [hg]; exact (Zr (by repeat (first | (with_reducible first | exact HB.out | apply Zq | apply Zp | apply Zo | refine Zn ?_ aS.out | refine Zn ?_ br.out | refine Zn ?_ ca.out | refine Zn ?_ cw.out | refine Zn ?_ cX.out) | exact HB.out))) : w.heap.size ≤ aj)); have dZ := zzk ((by rw [hg]; exact (Zr (by repeat (first | (with_reducible first | exact HB.out | apply Zq | apply Zp | apply Zo | refine Zn ?_ aS.out | refine Zn ?_ br.out | refine Zn ?_ ca.out | refine Zn ?_ cw.out | refine Zn ?_ cX.out) | exact HB.out))) : w.heap.size ≤ aj)); have fL := zzk ((by rw [hg]; exact Nat.ne_of_lt (zq (g := ah) (o := .cells #[.int .i64 ay,.int .i64 az,.int .i64 aA,.int .i64 aB,.slice bz aw.length bA,.slice bB ax.length bC,.int .i64 aC,.string av,.bool aD] 34 (0,0)) (by (with_reducible repeat (first | refine zj ?_ _ | refine zl ?_ | refine zk ?_ _)); exact ab.out)) : ah ≠ aj)); have fM := zzk ((by rw [hg]; exact Nat.ne_of_gt (zq (g := ah) (o := .cells #[.int .i64 ay,.int .i64 az,.int .i64 aA,.int .i64 aB,.slice bz aw.length bA,.slice bB ax.length bC,.int .i64 aC,.string av,.bool aD] 34 (0,0)) (by (with_reducible repeat (first | refine zj ?_ _ | refine zl ?_ | refine zk ?_ _)); exact ab.out)) : aj ≠ ah)); have fN := zzk ((by rw [hg]; exact Nat.ne_of_lt (zq (g := ag) (o := .cells #[.int .i64 aM,.int .i64 aN,.int .i64 aO,.int .i64 aP,.slice bT aX.length bI,.slice bW bc.length bO,.int .i64 aQ,.string aR,.bool aT] 34 (0,0)) (by (with_reducible repeat (first | refine zj ?_ _ | refine zl ?_ | refine zk ?_ _)); exact ae.out)) : ag ≠ aj)); have fO := zzk ((by rw [hg]; exact Nat.ne_of_gt (zq (g := ag) (o := .cells #[.int .i64 aM,.int .i64 aN,.int .i64 aO,.int .i64 aP,.slice bT aX.length bI,.slice bW bc.length bO,.int .i64 aQ,.string aR,.bool aT] 34 (0,0)) (by (with_reducible repeat (first | refine zj ?_ _ | refine zl ?_ | refine zk ?_ _)); exact ae.out)) : aj ≠ ag)); have fP := zzk ((by rw [hg]; exact Nat.ne_of_lt (zq (g := ac) (o := .cells #[.int .i64 aU,.int .i64 aY,.int .i64 bd,.int .i64 be,.slice bJ bf.length bE,.slice bP bh.length bK,.int .i64 bi,.string bk,.bool bm] 34 (0,0)) (by (with_reducible repeat (first | refine zj ?_ _ | refine zl ?_ | refine zk ?_ _)); exact af.out)) : ac ≠ aj)); have mV := zzk ((by rw [hg]; exact Nat.ne_of_gt (zq (g := ac) (o := .cells #[.int .i64 aU,.int .i64 aY,.int .i64 bd,.int .i64 be,.slice bJ bf.length bE,.slice bP bh.length bK,.int .i64 bi,.string bk,.bool bm] 34 (0,0)) (by (with_reducible repeat (first | refine zj ?_ _ | refine zl ?_ | refine zk ?_ _)); exact af.out)) : aj ≠ ac)); have mW := zzk ((by rw [hg]; exact Nat.ne_of_lt (zq (g := aa) (o := .cells #[.int .i64 bo,.int .i64 bq,.int .i64 bu,.int .i64 bw,.slice bU bv.length bQ,.slice bX bx.length bV,.int .i64 bD,.string bH,.bool bN] 34 (0,0)) (by (with_reducible repeat (first | refine zj ?_ _ | refine zl ?_ | refine zk ?_ _)); exact ak.out)) : aa ≠ aj)); have mX := zzk ((by rw [hg]; exact Nat.ne_of_gt (zq (g := aa) (o := .cells #[.int .i64 bo,.int .i64 bq,.int .i64 bu,.int .i64 bw,.slice bU bv.length bQ,.slice bX bx.length bV,.int .i64 bD,.string bH,.bool bN] 34 (0,0)) (by (with_reducible repeat (first | refine zj ?_ _ | refine zl ?_ | refine zk ?_ _)); exact ak.out)) : aj ≠ aa)); have mY := zzk ((by rw [hg]; exact Nat.ne_of_lt (zq (g := ad) (o := .cells #[.int .i64 aV,.int .i64 aZ,.slice bF bj.length bG,.slice bL bl.length bM,.string bg] 26 (0,0)) (by (with_reducible repeat (first | refine zj ?_ _ | refine zl ?_ | refine zk ?_ _)); exact ai.out)) : ad ≠ aj)); have mZ := zzk ((by rw [hg]; exact Nat.ne_of_gt (zq (g := ad) (o := .cells #[.int .i64 aV,.int .i64 aZ,.slice bF bj.length bG,.slice bL bl.length bM,.string bg] 26 (0,0)) (by (with_reducible repeat (first | refine zj ?_ _ | refine zl ?_ | refine zk ?_ _)); exact ai.out)) : aj ≠ ad)); clear ba; clear bb; clear bs; clear bt; clear cb; clear cc; clear cB; clear cC; clear dl; clear dm; clear ab; clear ae; clear af; clear ak; clear ai; clear HB; have ba := bR; have bb := bS; have bs := bY; have bt := bZ; have cb := ch; have cc := ci; have cB := cj; have cC := cn; have dl := co; have dm := cx; have ab := cd; have ae := ce; have af := cf; have ak := cl; have ai := cu; have HB := cv; have aF := cF; have qh := dY; have dA := dZ; have dj := fL; have eV := fM; have dk := fN; have eW := fO; have cV := fP; have ee := mV; have dp := mW; have lq := mX; have cW := mY; have ef := mZ; clear bR bS bY bZ ch ci cj cn co cx cd ce cf cl cu cv cF dY dZ fL fM fN fO fP mV mW mX mY mZ; clear hb hbox hg; have qi := eV.out; have qj := dj.out; have qk := eW.out; have ql := dk.out; have qm := ee.out; have qn := cV.out; have qo := lq.out; have qp := dp.out; have qq := ef.out; have qr := cW.out; have jO : di.cell? ⟨aj,0,none⟩ = some (.int .i64 0) := (zi aF.out 0).trans rfl; have jP : di.cell? ⟨aj,1,none⟩ = some (.int .i64 0) := (zi aF.out 1).trans rfl; have jQ : di.cell? ⟨aj,2,none⟩ = some (.slice none 0 0) := (zi aF.out 2).trans rfl; have jR : di.cell? ⟨aj,3,none⟩ = some (.slice none 0 0) := (zi aF.out 3).trans rfl; have jS : di.cell? ⟨aj,4,none⟩ = some (.string (⟨#[]⟩ : ByteArray)) := (zi aF.out 4).trans rfl; have jT := zm aF.out 0; have jU := zm aF.out 1; have jV := zm aF.out 2; have jW := zm aF.out 3; have jX := zm aF.out 4; obtain ⟨cI,cJ,eo68⟩ := zz dl.out; subst eo68; obtain ⟨cN,cO,eo69⟩ := zz dm.out; subst eo69; have jY : di.cell? ⟨ac,0,none⟩ = some (.int .i64 aU) := (zi af.out 0).trans rfl; have jZ : di.cell? ⟨ac,1,none⟩ = some (.int .i64 aY) := (zi af.out 1).trans rfl; have ka : di.cell? ⟨ac,2,none⟩ = some (.int .i64 bd) := (zi af.out 2).trans rfl; have kb : di.cell? ⟨ac,3,none⟩ = some (.int .i64 be) := (zi af.out 3).trans rfl; have kc : di.cell? ⟨ac,4,none⟩ = some (.slice bJ bf.length bE) := (zi af.out 4).trans rfl; have ke : di.cell? ⟨ac,5,none⟩ = some (.slice bP bh.length bK) := (zi af.out 5).trans rfl; have kf : di.cell? ⟨ac,6,none⟩ = some (.int .i64 bi) := (zi af.out 6).trans rfl; have kg : di.cell? ⟨ac,7,none⟩ = some (.string bk) := (zi af.out 7).trans rfl; have kh : di.cell? ⟨ac,8,none⟩ = some (.bool bm) := (zi af.out 8).trans rfl; have ki := zm af.out 0; have kj := zm af.out 1; have kk := zm af.out 2; have kl := zm af.out 3; have km := zm af.out 4; have ko := zm af.out 5; have kp := zm af.out 6; have kr := zm af.out 7; have kt := zm af.out 8; have ku : di.cell? ⟨aa,0,none⟩ = some (.int .i64 bo) := (zi ak.out 0).trans rfl; have kv : di.cell? ⟨aa,1,none⟩ = some (.int .i64 bq) := (zi ak.out 1).trans rfl; have kw : di.cell? ⟨aa,2,none⟩ = some (.int .i64 bu) := (zi ak.out 2).trans rfl; have ky : di.cell? ⟨aa,3,none⟩ = some (.int .i64 bw) := (zi ak.out 3).trans rfl; have kz : di.cell? ⟨aa,4,none⟩ = some (.slice bU bv.length bQ) := (zi ak.out 4).trans rfl; have kA : di.cell? ⟨aa,5,none⟩ = some (.slice bX bx.length bV) := (zi ak.out 5).trans rfl; have kB : di.cell? ⟨aa,6,none⟩ = some (.int .i64 bD) := (zi ak.out 6).trans rfl; have kC : di.cell? ⟨aa,7,none⟩ = some (.string bH) := (zi ak.out 7).trans rfl; have kD : di.cell? ⟨aa,8,none⟩ = some (.bool bN) := (zi ak.out 8).trans rfl; have kE := zm ak.out 0; have kF := zm ak.out 1; have kG := zm ak.out 2; have kH := zm ak.out 3; have kI := zm ak.out 4; have kJ := zm ak.out 5; have kK := zm ak.out 6; have kL := zm ak.out 7; have kM := zm ak.out 8) | (go_at_call 16; (with_reducible refine (r16_Same.calls cg aU aY bd be _ _ bf _ _ bh bi bk bm bo bq bu bw _ _ bv _ _ bx bD bH bN true _ ?side1 ?side2 ?side3 ?side4 ?side5 ?side6 ?side7 ?side8 oI.out).mono ?_); (case side1 => refine (zw (e := 3) (base := w.heap.size) (ok := fun k_ => ((((((((some k_ ≠ (.slice bP bh.length bK : Value).ownBlock ∧ some k_ ≠ (.slice bT aX.length bI : Value).ownBlock) ∧ some k_ ≠ (.slice bW bc.length bO : Value).ownBlock) ∧ some k_ ≠ (.slice bU bv.length bQ : Value).ownBlock) ∧ some k_ ≠ (.slice bX bx.length bV : Value).ownBlock) ∧ some k_ ≠ (.slice bF bj.length bG : Value).ownBlock) ∧ some k_ ≠ (.slice bL bl.length bM : Value).ownBlock) ∧ some k_ ≠ (.slice cI cr.length cJ : Value).ownBlock) ∧ some k_ ≠ (.slice cN ct.length cO : Value).ownBlock)) (n := bf.length) (c := bE) ?_).2.2; exact (by (with_reducible repeat (first | apply zu | apply zt | apply zs)); exact (zx (zr (p := ⟨aj,4,none⟩) (zr (p := ⟨aj,3,none⟩) (zr (p := ⟨aj,2,none⟩) (zr (p := ⟨aj,1,none⟩) (zr (p := ⟨aj,0,none⟩) (zy bs.out aF.out (by decide)) (fun _ hk => hk.2) (.int .i64 ck)) (fun _ hk => hk.2) (.int .i64 cm)) (fun _ hk => hk.2) (.slice cI cr.length cJ)) (fun _ hk => hk.2) (.slice cN ct.length cO)) (fun _ hk => hk.2) (.string cz)) (fun _ h_ => h_.1)))); (case side2 => exact (zw bs.out).2.1); (case side3 => refine (zw (e := 3) (base := w.heap.size) (ok := fun k_ => ((((((((some k_ ≠ (.slice bJ bf.length bE : Value).ownBlock ∧ some k_ ≠ (.slice bT aX.length bI : Value).ownBlock) ∧ some k_ ≠ (.slice bW bc.length bO : Value).ownBlock) ∧ some k_ ≠ (.slice bU bv.length bQ : Value).ownBlock) ∧ some k_ ≠ (.slice bX bx.length bV : Value).ownBlock) ∧ some k_ ≠ (.slice bF bj.length bG : Value).ownBlock) ∧ some k_ ≠ (.slice bL bl.length bM : Value).ownBlock) ∧ some k_ ≠ (.slice cI cr.length cJ : Value).ownBlock) ∧ some k_ ≠ (.slice cN ct.length cO : Value).ownBlock)) (n := bh.length) (c := bK) ?_).2.2; exact (by (with_reducible repeat (first | apply zu | apply zt | apply zs)); exact (zx (zr (p := ⟨aj,4,none⟩) (zr (p := ⟨aj,3,none⟩) (zr (p := ⟨aj,2,none⟩) (zr (p := ⟨aj,1,none⟩) (zr (p := ⟨aj,0,none⟩) (zy bt.out aF.out (by decide)) (fun _ hk => hk.2) (.int .i64 ck)) (fun _ hk => hk.2) (.int .i64 cm)) (fun _ hk => hk.2) (.slice cI cr.length cJ)) (fun _ hk => hk.2) (.slice cN ct.length cO)) (fun _ hk => hk.2) (.string cz)) (fun _ h_ => h_.1)))); (case side4 => exact (zw bt.out).2.1); (case side5 => refine (zw (e := 3) (base := w.heap.size) (ok := fun k_ => ((((((((some k_ ≠ (.slice bX bx.length bV : Value).ownBlock ∧ some k_ ≠ (.slice bT aX.length bI : Value).ownBlock) ∧ some k_ ≠ (.slice bW bc.length bO : Value).ownBlock) ∧ some k_ ≠ (.slice bJ bf.length bE : Value).ownBlock) ∧ some k_ ≠ (.slice bP bh.length bK : Value).ownBlock) ∧ some k_ ≠ (.slice bF bj.length bG : Value).ownBlock) ∧ some k_ ≠ (.slice bL bl.length bM : Value).ownBlock) ∧ some k_ ≠ (.slice cI cr.length cJ : Value).ownBlock) ∧ some k_ ≠ (.slice cN ct.length cO : Value).ownBlock)) (n := bv.length) (c := bQ) ?_).2.2; exact (by (with_reducible repeat (first | apply zu | apply zt | apply zs)); exact (zx (zr (p := ⟨aj,4,none⟩) (zr (p := ⟨aj,3,none⟩) (zr (p := ⟨aj,2,none⟩) (zr (p := ⟨aj,1,none⟩) (zr (p := ⟨aj,0,none⟩) (zy cb.out aF.out (by decide)) (fun _ hk => hk.2) (.int .i64 ck)) (fun _ hk => hk.2) (.int .i64 cm)) (fun _ hk => hk.2) (.slice cI cr.length cJ)) (fun _ hk => hk.2) (.slice cN ct.length cO)) (fun _ hk => hk.2) (.string cz)) (fun _ h_ => h_.1)))); (case side6 => exact (zw cb.out).2.1); (case side7 => refine (zw (e := 3) (base := w.heap.size) (ok := fun k_ => ((((((((some k_ ≠ (.slice bU bv.length bQ : Value).ownBlock ∧ some k_ ≠ (.slice bT aX.length bI : Value).ownBlock) ∧ some k_ ≠ (.slice bW bc.length bO : Value).ownBlock) ∧ some k_ ≠ (.slice bJ bf.length bE : Value).ownBlock) ∧ some k_ ≠ (.slice bP bh.length bK : Value).ownBlock) ∧ some k_ ≠ (.slice bF bj.length bG : Value).ownBlock) ∧ some k_ ≠ (.slice bL bl.length bM : Value).ownBlock) ∧ some k_ ≠ (.slice cI cr.length cJ : Value).ownBlock) ∧ some k_ ≠ (.slice cN ct.length cO : Value).ownBlock)) (n := bx.length) (c := bV) ?_).2.2; exact (by (with_reducible repeat (first | apply zu | apply zt | apply zs)); exact (zx (zr (p := ⟨aj,4,none⟩) (zr (p := ⟨aj,3,none⟩) (zr (p := ⟨aj,2,none⟩) (zr (p := ⟨aj,1,none⟩) (zr (p := ⟨aj,0,none⟩) (zy cc.out aF.out (by decide)) (fun _ hk => hk.2) (.int .i64 ck)) (fun _ hk => hk.2) (.int .i64 cm)) (fun _ hk => hk.2) (.slice cI cr.length cJ)) (fun _ hk => hk.2) (.slice cN ct.length cO)) (fun _ hk => hk.2) (.string cz)) (fun _ h_ => h_.1)))); (case side8 => exact (zw cc.out).2.1); rintro e er ⟨rfl,hb⟩; have bR := zzk (zv (by (with_reducible repeat (first | apply zu | apply zt | apply zs)); exact (zx (zr (p := ⟨aj,4,none⟩) (zr (p := ⟨aj,3,none⟩) (zr (p := ⟨aj,2,none⟩) (zr (p := ⟨aj,1,none⟩) (zr (p := ⟨aj,0,none⟩) (zy ba.out aF.out (by decide)) (fun _ hk => hk.2) (.int .i64 ck)) (fun _ hk => hk.2) (.int .i64 cm)) (fun _ hk => hk.2) (.slice cI cr.length cJ)) (fun _ hk => hk.2) (.slice cN ct.length cO)) (fun _ hk => hk.2) (.string cz)) (fun _ h_ => h_.1))) hb); have bS := zzk (zv (by (with_reducible repeat (first | apply zu | apply zt | apply zs)); exact (zx (zr (p := ⟨aj,4,none⟩) (zr (p := ⟨aj,3,none⟩) (zr (p := ⟨aj,2,none⟩) (zr (p := ⟨aj,1,none⟩) (zr (p := ⟨aj,0,none⟩) (zy bb.out aF.out (by decide)) (fun _ hk => hk.2) (.int .i64 ck)) (fun _ hk => hk.2) (.int .i64 cm)) (fun _ hk => hk.2) (.slice cI cr.length cJ)) (fun _ hk => hk.2) (.slice cN ct.length cO)) (fun _ hk => hk.2) (.string cz)) (fun _ h_ => h_.1))) hb); have bY := zzk (zv (by (with_reducible repeat (first | apply zu | apply zt | apply zs)); exact (zx (zr (p := ⟨aj,4,none⟩) (zr (p := ⟨aj,3,none⟩) (zr (p := ⟨aj,2,none⟩) (zr (p := ⟨aj,1,none⟩) (zr (p := ⟨aj,0,none⟩) (zy bs.out aF.out (by decide)) (fun _ hk => hk.2) (.int .i64 ck)) (fun _ hk => hk.2) (.int .i64 cm)) (fun _ hk => hk.2) (.slice cI cr.length cJ)) (fun _ hk => hk.2) (.slice cN ct.length cO)) (fun _ hk => hk.2) (.string cz)) (fun _ h_ => h_.1))) hb); have bZ := zzk (zv (by (with_reducible repeat (first | apply zu | apply zt | apply zs)); exact (zx (zr (p := ⟨aj,4,none⟩) (zr (p := ⟨aj,3,none⟩) (zr (p := ⟨aj,2,none⟩) (zr (p := ⟨aj,1,none⟩) (zr (p := ⟨aj,0,none⟩) (zy bt.out aF.out (by decide)) (fun _ hk => hk.2) (.int .i64 ck)) (fun _ hk => hk.2) (.int .i64 cm)) (fun _ hk => hk.2) (.slice cI cr.length cJ)) (fun _ hk => hk.2) (.slice cN ct.length cO)) (fun _ hk => hk.2) (.string cz)) (fun _ h_ => h_.1))) hb); have ch := zzk (zv (by (with_reducible repeat (first | apply zu | apply zt | apply zs)); exact (zx (zr (p := ⟨aj,4,none⟩) (zr (p := ⟨aj,3,none⟩) (zr (p := ⟨aj,2,none⟩) (zr (p := ⟨aj,1,none⟩) (zr (p := ⟨aj,0,none⟩) (zy cb.out aF.out (by decide)) (fun _ hk => hk.2) (.int .i64 ck)) (fun _ hk => hk.2) (.int .i64 cm)) (fun _ hk => hk.2) (.slice cI cr.length cJ)) (fun _ hk => hk.2) (.slice cN ct.length cO)) (fun _ hk => hk.2) (.string cz)) (fun _ h_ => h_.1))) hb); have ci := zzk (zv (by (with_reducible repeat (first | apply zu | apply zt | apply zs)); exact (zx (zr (p := ⟨aj,4,none⟩) (zr (p := ⟨aj,3,none⟩) (zr (p := ⟨aj,2,none⟩) (zr (p := ⟨aj,1,none⟩) (zr (p := ⟨aj,0,none⟩) (zy cc.out aF.out (by decide)) (fun _ hk => hk.2) (.int .i64 ck)) (fun _ hk => hk.2) (.int .i64 cm)) (fun _ hk => hk.2) (.slice cI cr.length cJ)) (fun _ hk => hk.2) (.slice cN ct.length cO)) (fun _ hk => hk.2) (.string cz)) (fun _ h_ => h_.1))) hb); have cj := zzk (zv (by (with_reducible repeat (first | apply zu | apply zt | apply zs)); exact (zx (zr (p := ⟨aj,4,none⟩) (zr (p := ⟨aj,3,none⟩) (zr (p := ⟨aj,2,none⟩) (zr (p := ⟨aj,1,none⟩) (zr (p := ⟨aj,0,none⟩) (zy cB.out aF.out (by decide)) (fun _ hk => hk.2) (.int .i64 ck)) (fun _ hk => hk.2) (.int .i64 cm)) (fun _ hk => hk.2) (.slice cI cr.length cJ)) (fun _ hk => hk.2) (.slice cN ct.length cO)) (fun _ hk => hk.2) (.string cz)) (fun _ h_ => h_.1))) hb); have cn := zzk (zv (by (with_reducible repeat (first | apply zu | apply zt | apply zs)); exact (zx (zr (p := ⟨aj,4,none⟩) (zr (p := ⟨aj,3,none⟩) (zr (p := ⟨aj,2,none⟩) (zr (p := ⟨aj,1,none⟩) (zr (p := ⟨aj,0,none⟩) (zy cC.out aF.out (by decide)) (fun _ hk => hk.2) (.int .i64 ck)) (fun _ hk => hk.2) (.int .i64 cm)) (fun _ hk => hk.2) (.slice cI cr.length cJ)) (fun _ hk => hk.2) (.slice cN ct.length cO)) (fun _ hk => hk.2) (.string cz)) (fun _ h_ => h_.1))) hb); have co := zzk (zv (by (with_reducible repeat (first | apply zu | apply zt | apply zs)); exact (zx (zr (p := ⟨aj,4,none⟩) (zr (p := ⟨aj,3,none⟩) (zr (p := ⟨aj,2,none⟩) (zr (p := ⟨aj,1,none⟩) (zr (p := ⟨aj,0,none⟩) (zy dl.out aF.out (by decide)) (fun _ hk => hk.2) (.int .i64 ck)) (fun _ hk => hk.2) (.int .i64 cm)) (fun _ hk => hk.2) (.slice cI cr.length cJ)) (fun _ hk => hk.2) (.slice cN ct.length cO)) (fun _ hk => hk.2) (.string cz)) (fun _ h_ => h_.1))) hb); have cx := zzk (zv (by (with_reducible repeat (first | apply zu | apply zt | apply zs)); exact (zx (zr (p := ⟨aj,4,none⟩) (zr (p := ⟨aj,3,none⟩) (zr (p := ⟨aj,2,none⟩) (zr (p := ⟨aj,1,none⟩) (zr (p := ⟨aj,0,none⟩) (zy dm.out aF.out (by decide)) (fun _ hk => hk.2) (.int .i64 ck)) (fun _ hk => hk.2) (.int .i64 cm)) (fun _ hk => hk.2) (.slice cI cr.length cJ)) (fun _ hk => hk.2) (.slice cN ct.length cO)) (fun _ hk => hk.2) (.string cz)) (fun _ h_ => h_.1))) hb); have cd := zzk (zo (g := ah) (o := .cells #[.int .i64 ay,.int .i64 az,.int .i64 aA,.int .i64 aB,.slice bz aw.length bA,.slice bB ax.length bC,.int .i64 aC,.string av,.bool aD] 34 (0,0)) (by (with_reducible repeat (first | refine zj ?_ _ | refine zl ?_ | refine zk ?_ _)); refine zn ?_ dj.out _; (with_reducible repeat (first | refine zj ?_ _ | refine zl ?_ | refine zk ?_ _)); refine zn ?_ dj.out _; (with_reducible repeat (first | refine zj ?_ _ | refine zl ?_ | refine zk ?_ _)); refine zn ?_ dj.out _; (with_reducible repeat (first | refine zj ?_ _ | refine zl ?_ | refine zk ?_ _)); refine zn ?_ dj.out _; (with_reducible repeat (first | refine zj ?_ _ | refine zl ?_ | refine zk ?_ _)); refine zn ?_ dj.out _; (with_reducible repeat (first | refine zj ?_ _ | refine zl ?_ | refine zk ?_ _)); exact ab.out) hb); have ce := zzk (zo (g := ag) (o := .cells #[.int .i64 aM,.int .i64 aN,.int .i64 aO,.int .i64 aP,.slice bT aX.length bI,.slice bW bc.length bO,.int .i64 aQ,.string aR,.bool aT] 34 (0,0)) (by (with_reducible repeat (first | refine zj ?_ _ | refine zl ?_ | refine zk ?_ _)); refine zn ?_ dk.out _; (with_reducible repeat (first | refine zj ?_ _ | refine zl ?_ | refine zk ?_ _)); refine zn ?_ dk.out _; (with_reducible repeat (first | refine zj ?_ _ | refine zl ?_ | refine zk ?_ _)); refine zn ?_ dk.out _; (with_reducible repeat (first | refine zj ?_ _ | refine zl ?_ | refine zk ?_ _)); refine zn ?_ dk.out _; (with_reducible repeat (first | refine zj ?_ _ | refine zl ?_ | refine zk ?_ _)); refine zn ?_ dk.out _; (with_reducible repeat (first | refine zj ?_ _ | refine zl ?_ | refine zk ?_ _)); exact ae.out) hb); have cf := zzk (zo (g := ac) (o := .cells #[.int .i64 aU,.int .i64 aY,.int .i64 bd,.int .i64 be,.slice bJ bf.length bE,.slice bP bh.length bK,.int .i64 bi,.string bk,.bool bm] 34 (0,0)) (by (with_reducible repeat (first | refine zj ?_ _ | refine zl ?_ | refine zk ?_ _)); refine zn ?_ cV.out _; (with_reducible repeat (first | refine zj ?_ _ | refine zl ?_ | refine zk ?_ _)); refine zn ?_ cV.out _; (with_reducible repeat (first | refine zj ?_ _ | refine zl ?_ | refine zk ?_ _)); refine zn ?_ cV.out _; (with_reducible repeat (first | refine zj ?_ _ | refine zl ?_ | refine zk ?_ _)); refine zn ?_ cV.out _; (with_reducible repeat (first | refine zj ?_ _ | refine zl ?_ | refine zk ?_ _)); refine zn ?_ cV.out _; (with_reducible repeat (first | refine zj ?_ _ | refine zl ?_ | refine zk ?_ _)); exact af.out) hb); have cl := zzk (zo (g := aa) (o := .cells #[.int .i64 bo,.int .i64 bq,.int .i64 bu,.int .i64 bw,.slice bU bv.length bQ,.slice bX bx.length bV,.int .i64 bD,.string bH,.bool bN] 34 (0,0)) (by (with_reducible repeat (first | refine zj ?_ _ | refine zl ?_ | refine zk ?_ _)); refine zn ?_ dp.out _; (with_reducible repeat (first | refine zj ?_ _ | refine zl ?_ | refine zk ?_ _)); refine zn ?_ dp.out _; (with_reducible repeat (first | refine zj ?_ _ | refine zl ?_ | refine zk ?_ _)); refine zn ?_ dp.out _; (with_reducible repeat (first | refine zj ?_ _ | refine zl ?_ | refine zk ?_ _)); refine zn ?_ dp.out _; (with_reducible repeat (first | refine zj ?_ _ | refine zl ?_ | refine zk ?_ _)); refine zn ?_ dp.out _; (with_reducible repeat (first | refine zj ?_ _ | refine zl ?_ | refine zk ?_ _)); exact ak.out) hb); have cu := zzk (zo (g := ad) (o := .cells #[.int .i64 aV,.int .i64 aZ,.slice bF bj.length bG,.slice bL bl.length bM,.string bg] 26 (0,0)) (by (with_reducible repeat (first | refine zj ?_ _ | refine zl ?_ | refine zk ?_ _)); refine zn ?_ cW.out _; (with_reducible repeat (first | refine zj ?_ _ | refine zl ?_ | refine zk ?_ _)); refine zn ?_ cW.out _; (with_reducible repeat (first | refine zj ?_ _ | refine zl ?_ | refine zk ?_ _)); refine zn ?_ cW.out _; (with_reducible repeat (first | refine zj ?_ _ | refine zl ?_ | refine zk ?_ _)); refine zn ?_ cW.out _; (with_reducible repeat (first | refine zj ?_ _ | refine zl ?_ | refine zk ?_ _)); refine zn ?_ cW.out _; (with_reducible repeat (first | refine zj ?_ _ | refine zl ?_ | refine zk ?_ _)); exact ai.out) hb); have cv := zzk (zo (g := aj) (o := .cells #[.int .i64 ck,.int .i64 cm,.slice cI cr.length cJ,.slice cN ct.length cO,.string cz] 26 (0,0)) (by (with_reducible repeat (first | refine zj ?_ _ | refine zl ?_ | refine zk ?_ _)); refine zp (cs := #[.int .i64 ck,.int .i64 cm,.slice cI cr.length cJ,.slice cN ct.length cO,.string (⟨#[]⟩ : ByteArray)]) ?_ 4 _ rfl; (with_reducible repeat (first | refine zj ?_ _ | refine zl ?_ | refine zk ?_ _)); refine zp (cs := #[.int .i64 ck,.int .i64 cm,.slice cI cr.length cJ,.slice none 0 0,.string (⟨#[]⟩ : ByteArray)]) ?_ 3 _ rfl; (with_reducible repeat (first | refine zj ?_ _ | refine zl ?_ | refine zk ?_ _)); refine zp (cs := #[.int .i64 ck,.int .i64 cm,.slice none 0 0,.slice none 0 0,.string (⟨#[]⟩ : ByteArray)]) ?_ 2 _ rfl; (with_reducible repeat (first | refine zj ?_ _ | refine zl ?_ | refine zk ?_ _)); refine zp (cs := #[.int .i64 ck,.int .i64 0,.slice none 0 0,.slice none 0 0,.string (⟨#[]⟩ : ByteArray)]) ?_ 1 _ rfl; (with_reducible repeat (first | refine zj ?_ _ | refine zl ?_ | refine zk ?_ _)); refine zp (cs := #[.int .i64 0,.int .i64 0,.slice none 0 0,.slice none 0 0,.string (⟨#[]⟩ : ByteArray)]) ?_ 0 _ rfl; (with_reducible repeat (first | refine zj ?_ _ | refine zl ?_ | refine zk ?_ _)); exact aF.out) hb); have cF := zzk (Zs (by repeat (first | (with_reducible first | exact HB.out | apply Zq | apply Zp | apply Zo | refine Zn ?_ aS.out | refine Zn ?_ br.out | refine Zn ?_ ca.out | refine Zn ?_ cw.out | refine Zn ?_ cX.out | refine Zn ?_ dA.out) | exact HB.out)) hb); clear ba; clear bb; clear bs; clear bt; clear cb; clear cc; clear cB; clear cC; clear dl; clear dm; clear ab; clear ae; clear af; clear ak; clear ai; clear aF; clear HB; have ba := bR; have bb := bS; have bs := bY; have bt := bZ; have cb := ch; have cc := ci; have cB := cj; have cC := cn; have dl := co; have dm := cx; have ab := cd; have ae := ce; have af := cf; have ak := cl; have ai := cu; have aF := cv; have HB := cF; clear bR bS bY bZ ch ci cj cn co cx cd ce cf cl cu cv cF; (try clear hb); (try clear hb2); (try clear hk); (try clear hi); have kN : er.cell? ⟨ad,0,none⟩ = some (.int .i64 aV) := (zi ai.out 0).trans rfl; have kO : er.cell? ⟨ad,1,none⟩ = some (.int .i64 aZ) := (zi ai.out 1).trans rfl; have kP : er.cell? ⟨ad,2,none⟩ = some (.slice bF bj.length bG) := (zi ai.out 2).trans rfl; have kQ : er.cell? ⟨ad,3,none⟩ = some (.slice bL bl.length bM) := (zi ai.out 3).trans rfl; have kR : er.cell? ⟨ad,4,none⟩ = some (.string bg) := (zi ai.out 4).trans rfl; have kS := zm ai.out 0; have kT := zm ai.out 1; have kU := zm ai.out 2; have kV := zm ai.out 3; have kW := zm ai.out 4; have kX : er.cell? ⟨aj,0,none⟩ = some (.int .i64 ck) := (zi aF.out 0).trans rfl; have kY : er.cell? ⟨aj,1,none⟩ = some (.int .i64 cm) := (zi aF.out 1).trans rfl; have kZ : er.cell? ⟨aj,2,none⟩ = some (.slice cI cr.length cJ) := (zi aF.out 2).trans rfl; have la : er.cell? ⟨aj,3,none⟩ = some (.slice cN ct.length cO) := (zi aF.out 3).trans rfl; have lb : er.cell? ⟨aj,4,none⟩ = some (.string cz) := (zi aF.out 4).trans rfl; have lc := zm aF.out 0; have ld := zm aF.out 1; have lf := zm aF.out 2; have lg := zm aF.out 3; have lh := zm aF.out 4) | (go_at_call 19; (with_reducible refine (r08_SameSnap.calls cg aV aZ _ _ bj _ _ bl bg ck cm _ _ cr _ _ ct cz cA _ ?side1 ?side2 ?side3 ?side4 ?side5 ?side6 ?side7 ?side8 oJ.out).mono ?_); (case side1 => repeat (first | exact (zw cB.out).2.2 | (with_reducible refine Zk ?_ _) | (with_reducible refine Zj ?_ _) | (with_reducible refine Zl ?_))); (case side2 => exact (zw cB.out).2.1); (case side3 => repeat (first | exact (zw cC.out).2.2 | (with_reducible refine Zk ?_ _) | (with_reducible refine Zj ?_ _) | (with_reducible refine Zl ?_))); (case side4 => exact (zw cC.out).2.1); (case side5 => repeat (first | exact (zw dl.out).2.2 | (with_reducible refine Zk ?_ _) | (with_reducible refine Zj ?_ _) | (with_reducible refine Zl ?_))); (case side6 => exact (zw dl.out).2.1); (case side7 => repeat (first | exact (zw dm.out).2.2 | (with_reducible refine Zk ?_ _) | (with_reducible refine Zj ?_ _) | (with_reducible refine Zl ?_))); (case side8 => exact (zw dm.out).2.1); rintro e rn ⟨rfl,hb⟩; have bR := zzk (zv (by (with_reducible repeat (first | apply zu | apply zt | apply zs)); exact ba.out) hb); have bS := zzk (zv (by (with_reducible repeat (first | apply zu | apply zt | apply zs)); exact bb.out) hb); have bY := zzk (zv (by (with_reducible repeat (first | apply zu | apply zt | apply zs)); exact bs.out) hb); have bZ := zzk (zv (by (with_reducible repeat (first | apply zu | apply zt | apply zs)); exact bt.out) hb); have ch := zzk (zv (by (with_reducible repeat (first | apply zu | apply zt | apply zs)); exact cb.out) hb); have ci := zzk (zv (by (with_reducible repeat (first | apply zu | apply zt | apply zs)); exact cc.out) hb); have cj := zzk (zv (by (with_reducible repeat (first | apply zu | apply zt | apply zs)); exact cB.out) hb); have cn := zzk (zv (by (with_reducible repeat (first | apply zu | apply zt | apply zs)); exact cC.out) hb); have co := zzk (zv (by (with_reducible repeat (first | apply zu | apply zt | apply zs)); exact dl.out) hb); have cx := zzk (zv (by (with_reducible repeat (first | apply zu | apply zt | apply zs)); exact dm.out) hb); have cd := zzk (zo (g := ah) (o := .cells #[.int .i64 ay,.int .i64 az,.int .i64 aA,.int .i64 aB,.slice bz aw.length bA,.slice bB ax.length bC,.int .i64 aC,.string av,.bool aD] 34 (0,0)) (by (with_reducible repeat (first | refine zj ?_ _ | refine zl ?_ | refine zk ?_ _)); exact ab.out) hb); have ce := zzk (zo (g := ag) (o := .cells #[.int .i64 aM,.int .i64 aN,.int .i64 aO,.int .i64 aP,.slice bT aX.length bI,.slice bW bc.length bO,.int .i64 aQ,.string aR,.bool aT] 34 (0,0)) (by (with_reducible repeat (first | refine zj ?_ _ | refine zl ?_ | refine zk ?_ _)); exact ae.out) hb); have cf := zzk (zo (g := ac) (o := .cells #[.int .i64 aU,.int .i64 aY,.int .i64 bd,.int .i64 be,.slice bJ bf.length bE,.slice bP bh.length bK,.int .i64 bi,.string bk,.bool bm] 34 (0,0)) (by (with_reducible repeat (first | refine zj ?_ _ | refine zl ?_ | refine zk ?_ _)); exact af.out) hb); have cl := zzk (zo (g := aa) (o := .cells #[.int .i64 bo,.int .i64 bq,.int .i64 bu,.int .i64 bw,.slice bU bv.length bQ,.slice bX bx.length bV,.int .i64 bD,.string bH,.bool bN] 34 (0,0)) (by (with_reducible repeat (first | refine zj ?_ _ | refine zl ?_ | refine zk ?_ _)); exact ak.out) hb); have cu := zzk (zo (g := ad) (o := .cells #[.int .i64 aV,.int .i64 aZ,.slice bF bj.length bG,.slice bL bl.length bM,.string bg] 26 (0,0)) (by (with_reducible repeat (first | refine zj ?_ _ | refine zl ?_ | refine zk ?_ _)); exact ai.out) hb); have cv := zzk (zo (g := aj) (o := .cells #[.int .i64 ck,.int .i64 cm,.slice cI cr.length cJ,.slice cN ct.length cO,.string cz] 26 (0,0)) (by (with_reducible repeat (first | refine zj ?_ _ | refine zl ?_ | refine zk ?_ _)); exact aF.out) hb); have cF := zzk (Zs (by repeat (first | (with_reducible first | exact HB.out | apply Zq | apply Zp | apply Zo | refine Zn ?_ aS.out | refine Zn ?_ br.out | refine Zn ?_ ca.out | refine Zn ?_ cw.out | refine Zn ?_ cX.out | refine Zn ?_ dA.out) | exact HB.out)) hb); clear ba; clear bb; clear bs; clear bt; clear cb; clear cc; clear cB; clear cC; clear dl; clear dm; clear ab; clear ae; clear af; clear ak; clear ai; clear aF; clear HB; have ba := bR; have bb := bS; have bs := bY; have bt := bZ; have cb := ch; have cc := ci; have cB := cj; have cC := cn; have dl := co; have dm := cx; have ab := cd; have ae := ce; have af := cf; have ak := cl; have ai := cu; have aF := cv; have HB := cF; clear bR bS bY bZ ch ci cj cn co cx cd ce cf cl cu cv cF; (try clear hb); (try clear hb2); (try clear hk); (try clear hi)))
        go_loopg [19] cg (fun kq oK w' => ∃ (cQ : Int) (dq : List Int) (dr : List Int) (aH : List Int) (ds : List Int) (dE : List Int) (dF : List Int) (dt : List Int) (du : List Int) (dG : List Int) (dH : List Int) (an : Value) (ao : Value) (aJ : Value) (al : Value) (ap : Value) (aq : Value) (aL : Value) (am : Value) (ar : Value) (au : Value),oK = .int .i64 cQ ∧ Aside0 (L_ChunkTakes.l0 kq cA cQ ay az aA aB aw ax aC av aD aM aN aO aP dq dr aQ aR aT aU aY bd be aH ds bi bk bm aV aZ dt du bg = some r) ∧ Aside0 (kq ≤ cg) ∧ Aside0 (Kd.R (Kd.int .i64) 3 w' w.heap.size (fun k_ => some k_ ≠ (ao : Value).ownBlock ∧ some k_ ≠ (aJ : Value).ownBlock ∧ some k_ ≠ (al : Value).ownBlock ∧ some k_ ≠ (ap : Value).ownBlock ∧ some k_ ≠ (aq : Value).ownBlock ∧ some k_ ≠ (aL : Value).ownBlock ∧ some k_ ≠ (am : Value).ownBlock ∧ some k_ ≠ (ar : Value).ownBlock ∧ some k_ ≠ (au : Value).ownBlock) an dq) ∧ Aside0 (Kd.R (Kd.int .i64) 3 w' w.heap.size (fun k_ => some k_ ≠ (an : Value).ownBlock ∧ some k_ ≠ (aJ : Value).ownBlock ∧ some k_ ≠ (al : Value).ownBlock ∧ some k_ ≠ (ap : Value).ownBlock ∧ some k_ ≠ (aq : Value).ownBlock ∧ some k_ ≠ (aL : Value).ownBlock ∧ some k_ ≠ (am : Value).ownBlock ∧ some k_ ≠ (ar : Value).ownBlock ∧ some k_ ≠ (au : Value).ownBlock) ao dr) ∧ Aside0 (Kd.R (Kd.int .i64) 3 w' w.heap.size (fun k_ => some k_ ≠ (an : Value).ownBlock ∧ some k_ ≠ (ao : Value).ownBlock ∧ some k_ ≠ (al : Value).ownBlock ∧ some k_ ≠ (ap : Value).ownBlock ∧ some k_ ≠ (aq : Value).ownBlock ∧ some k_ ≠ (aL : Value).ownBlock ∧ some k_ ≠ (am : Value).ownBlock ∧ some k_ ≠ (ar : Value).ownBlock ∧ some k_ ≠ (au : Value).ownBlock) aJ aH) ∧ Aside0 (Kd.R (Kd.int .i64) 3 w' w.heap.size (fun k_ => some k_ ≠ (an : Value).ownBlock ∧ some k_ ≠ (ao : Value).ownBlock ∧ some k_ ≠ (aJ : Value).ownBlock ∧ some k_ ≠ (ap : Value).ownBlock ∧ some k_ ≠ (aq : Value).ownBlock ∧ some k_ ≠ (aL : Value).ownBlock ∧ some k_ ≠ (am : Value).ownBlock ∧ some k_ ≠ (ar : Value).ownBlock ∧ some k_ ≠ (au : Value).ownBlock) al ds) ∧ Aside0 (Kd.R (Kd.int .i64) 3 w' w.heap.size (fun k_ => some k_ ≠ (an : Value).ownBlock ∧ some k_ ≠ (ao : Value).ownBlock ∧ some k_ ≠ (aJ : Value).ownBlock ∧ some k_ ≠ (al : Value).ownBlock ∧ some k_ ≠ (aq : Value).ownBlock ∧ some k_ ≠ (aL : Value).ownBlock ∧ some k_ ≠ (am : Value).ownBlock ∧ some k_ ≠ (ar : Value).ownBlock ∧ some k_ ≠ (au : Value).ownBlock) ap dE) ∧ Aside0 (Kd.R (Kd.int .i64) 3 w' w.heap.size (fun k_ => some k_ ≠ (an : Value).ownBlock ∧ some k_ ≠ (ao : Value).ownBlock ∧ some k_ ≠ (aJ : Value).ownBlock ∧ some k_ ≠ (al : Value).ownBlock ∧ some k_ ≠ (ap : Value).ownBlock ∧ some k_ ≠ (aL : Value).ownBlock ∧ some k_ ≠ (am : Value).ownBlock ∧ some k_ ≠ (ar : Value).ownBlock ∧ some k_ ≠ (au : Value).ownBlock) aq dF) ∧ Aside0 (Kd.R (Kd.int .i64) 3 w' w.heap.size (fun k_ => some k_ ≠ (an : Value).ownBlock ∧ some k_ ≠ (ao : Value).ownBlock ∧ some k_ ≠ (aJ : Value).ownBlock ∧ some k_ ≠ (al : Value).ownBlock ∧ some k_ ≠ (ap : Value).ownBlock ∧ some k_ ≠ (aq : Value).ownBlock ∧ some k_ ≠ (am : Value).ownBlock ∧ some k_ ≠ (ar : Value).ownBlock ∧ some k_ ≠ (au : Value).ownBlock) aL dt) ∧ Aside0 (Kd.R (Kd.int .i64) 3 w' w.heap.size (fun k_ => some k_ ≠ (an : Value).ownBlock ∧ some k_ ≠ (ao : Value).ownBlock ∧ some k_ ≠ (aJ : Value).ownBlock ∧ some k_ ≠ (al : Value).ownBlock ∧ some k_ ≠ (ap : Value).ownBlock ∧ some k_ ≠ (aq : Value).ownBlock ∧ some k_ ≠ (aL : Value).ownBlock ∧ some k_ ≠ (ar : Value).ownBlock ∧ some k_ ≠ (au : Value).ownBlock) am du) ∧ Aside0 (Kd.R (Kd.int .i64) 3 w' w.heap.size (fun k_ => some k_ ≠ (an : Value).ownBlock ∧ some k_ ≠ (ao : Value).ownBlock ∧ some k_ ≠ (aJ : Value).ownBlock ∧ some k_ ≠ (al : Value).ownBlock ∧ some k_ ≠ (ap : Value).ownBlock ∧ some k_ ≠ (aq : Value).ownBlock ∧ some k_ ≠ (aL : Value).ownBlock ∧ some k_ ≠ (am : Value).ownBlock ∧ some k_ ≠ (au : Value).ownBlock) ar dG) ∧ Aside0 (Kd.R (Kd.int .i64) 3 w' w.heap.size (fun k_ => some k_ ≠ (an : Value).ownBlock ∧ some k_ ≠ (ao : Value).ownBlock ∧ some k_ ≠ (aJ : Value).ownBlock ∧ some k_ ≠ (al : Value).ownBlock ∧ some k_ ≠ (ap : Value).ownBlock ∧ some k_ ≠ (aq : Value).ownBlock ∧ some k_ ≠ (aL : Value).ownBlock ∧ some k_ ≠ (am : Value).ownBlock ∧ some k_ ≠ (ar : Value).ownBlock) au dH) ∧ Aside0 (w'.heap[ah]? = some (.cells #[.int .i64 ay,.int .i64 az,.int .i64 aA,.int .i64 aB,(.slice bz aw.length bA),(.slice bB ax.length bC),.int .i64 aC,.string av,.bool aD] 34 (0,0))) ∧ Aside0 (w'.heap[ag]? = some (.cells #[.int .i64 aM,.int .i64 aN,.int .i64 aO,.int .i64 aP,an,ao,.int .i64 aQ,.string aR,.bool aT] 34 (0,0))) ∧ Aside0 (w'.heap[ac]? = some (.cells #[.int .i64 aU,.int .i64 aY,.int .i64 bd,.int .i64 be,aJ,al,.int .i64 bi,.string bk,.bool bm] 34 (0,0))) ∧ Aside0 (w'.heap[aa]? = some (.cells #[.int .i64 bo,.int .i64 bq,.int .i64 bu,.int .i64 bw,ap,aq,.int .i64 bD,.string bH,.bool bN] 34 (0,0))) ∧ Aside0 (w'.heap[ad]? = some (.cells #[.int .i64 aV,.int .i64 aZ,aL,am,.string bg] 26 (0,0))) ∧ Aside0 (w'.heap[aj]? = some (.cells #[.int .i64 ck,.int .i64 cm,ar,au,.string cz] 26 (0,0))) ∧ Aside0 (Below w.heap.size w w'))
        case atStart => exact ⟨(0),(aX),(bc),(bf),(bh),(bv),(bx),(bj),(bl),(cr),(ct),(.slice bT aX.length bI),(.slice bW bc.length bO),(.slice bJ bf.length bE),(.slice bP bh.length bK),(.slice bU bv.length bQ),(.slice bX bx.length bV),(.slice bF bj.length bG),(.slice bL bl.length bM),(.slice cI cr.length cJ),(.slice cN ct.length cO),(by first | rfl | (simp; done) | (simp [*]; done)),H',⟨Nat.le_refl _⟩,⟨by (with_reducible repeat (first | apply zu | apply zt | apply zs)); exact zx ba.out (fun _ hk => ⟨hk.1.1.1.1.1.1.1.1,⟨hk.1.1.1.1.1.1.1.2,⟨hk.1.1.1.1.1.1.2,⟨hk.1.1.1.1.1.2,⟨hk.1.1.1.1.2,⟨hk.1.1.1.2,⟨hk.1.1.2,⟨hk.1.2,hk.2⟩⟩⟩⟩⟩⟩⟩⟩)⟩,⟨by (with_reducible repeat (first | apply zu | apply zt | apply zs)); exact zx bb.out (fun _ hk => ⟨hk.1.1.1.1.1.1.1.1,⟨hk.1.1.1.1.1.1.1.2,⟨hk.1.1.1.1.1.1.2,⟨hk.1.1.1.1.1.2,⟨hk.1.1.1.1.2,⟨hk.1.1.1.2,⟨hk.1.1.2,⟨hk.1.2,hk.2⟩⟩⟩⟩⟩⟩⟩⟩)⟩,⟨by (with_reducible repeat (first | apply zu | apply zt | apply zs)); exact zx bs.out (fun _ hk => ⟨hk.1.1.1.1.1.1.1.2,⟨hk.1.1.1.1.1.1.2,⟨hk.1.1.1.1.1.1.1.1,⟨hk.1.1.1.1.1.2,⟨hk.1.1.1.1.2,⟨hk.1.1.1.2,⟨hk.1.1.2,⟨hk.1.2,hk.2⟩⟩⟩⟩⟩⟩⟩⟩)⟩,⟨by (with_reducible repeat (first | apply zu | apply zt | apply zs)); exact zx bt.out (fun _ hk => ⟨hk.1.1.1.1.1.1.1.2,⟨hk.1.1.1.1.1.1.2,⟨hk.1.1.1.1.1.1.1.1,⟨hk.1.1.1.1.1.2,⟨hk.1.1.1.1.2,⟨hk.1.1.1.2,⟨hk.1.1.2,⟨hk.1.2,hk.2⟩⟩⟩⟩⟩⟩⟩⟩)⟩,⟨by (with_reducible repeat (first | apply zu | apply zt | apply zs)); exact zx cb.out (fun _ hk => ⟨hk.1.1.1.1.1.1.1.2,⟨hk.1.1.1.1.1.1.2,⟨hk.1.1.1.1.1.2,⟨hk.1.1.1.1.2,⟨hk.1.1.1.1.1.1.1.1,⟨hk.1.1.1.2,⟨hk.1.1.2,⟨hk.1.2,hk.2⟩⟩⟩⟩⟩⟩⟩⟩)⟩,⟨by (with_reducible repeat (first | apply zu | apply zt | apply zs)); exact zx cc.out (fun _ hk => ⟨hk.1.1.1.1.1.1.1.2,⟨hk.1.1.1.1.1.1.2,⟨hk.1.1.1.1.1.2,⟨hk.1.1.1.1.2,⟨hk.1.1.1.1.1.1.1.1,⟨hk.1.1.1.2,⟨hk.1.1.2,⟨hk.1.2,hk.2⟩⟩⟩⟩⟩⟩⟩⟩)⟩,⟨by (with_reducible repeat (first | apply zu | apply zt | apply zs)); exact zx cB.out (fun _ hk => ⟨hk.1.1.1.1.1.1.1.2,⟨hk.1.1.1.1.1.1.2,⟨hk.1.1.1.1.1.2,⟨hk.1.1.1.1.2,⟨hk.1.1.1.2,⟨hk.1.1.2,⟨hk.1.1.1.1.1.1.1.1,⟨hk.1.2,hk.2⟩⟩⟩⟩⟩⟩⟩⟩)⟩,⟨by (with_reducible repeat (first | apply zu | apply zt | apply zs)); exact zx cC.out (fun _ hk => ⟨hk.1.1.1.1.1.1.1.2,⟨hk.1.1.1.1.1.1.2,⟨hk.1.1.1.1.1.2,⟨hk.1.1.1.1.2,⟨hk.1.1.1.2,⟨hk.1.1.2,⟨hk.1.1.1.1.1.1.1.1,⟨hk.1.2,hk.2⟩⟩⟩⟩⟩⟩⟩⟩)⟩,⟨by (with_reducible repeat (first | apply zu | apply zt | apply zs)); exact zx dl.out (fun _ hk => ⟨hk.1.1.1.1.1.1.1.2,⟨hk.1.1.1.1.1.1.2,⟨hk.1.1.1.1.1.2,⟨hk.1.1.1.1.2,⟨hk.1.1.1.2,⟨hk.1.1.2,⟨hk.1.2,⟨hk.2,hk.1.1.1.1.1.1.1.1⟩⟩⟩⟩⟩⟩⟩⟩)⟩,⟨by (with_reducible repeat (first | apply zu | apply zt | apply zs)); exact zx dm.out (fun _ hk => ⟨hk.1.1.1.1.1.1.1.2,⟨hk.1.1.1.1.1.1.2,⟨hk.1.1.1.1.1.2,⟨hk.1.1.1.1.2,⟨hk.1.1.1.2,⟨hk.1.1.2,⟨hk.1.2,⟨hk.2,hk.1.1.1.1.1.1.1.1⟩⟩⟩⟩⟩⟩⟩⟩)⟩,⟨by (with_reducible repeat (first | refine zj ?_ _ | refine zl ?_ | refine zk ?_ _)); exact ab.out⟩,⟨by (with_reducible repeat (first | refine zj ?_ _ | refine zl ?_ | refine zk ?_ _)); exact ae.out⟩,⟨by (with_reducible repeat (first | refine zj ?_ _ | refine zl ?_ | refine zk ?_ _)); exact af.out⟩,⟨by (with_reducible repeat (first | refine zj ?_ _ | refine zl ?_ | refine zk ?_ _)); exact ak.out⟩,⟨by (with_reducible repeat (first | refine zj ?_ _ | refine zl ?_ | refine zk ?_ _)); exact ai.out⟩,⟨by (with_reducible repeat (first | refine zj ?_ _ | refine zl ?_ | refine zk ?_ _)); exact aF.out⟩,⟨by repeat (first | (with_reducible first | exact HB.out | apply Zq | apply Zp | apply Zo | refine Zn ?_ aS.out | refine Zn ?_ br.out | refine Zn ?_ ca.out | refine Zn ?_ cw.out | refine Zn ?_ cX.out | refine Zn ?_ dA.out) | exact HB.out)⟩⟩
        case round =>
         clear H'
         try clear c1
         try clear c2
         try clear p2
         try clear c3
         try clear c4
         try clear c5
         try clear c6
         try clear dU
         try clear lk
         try clear c8
         try clear ll
         try clear lm
         try clear fT
         try clear fJ
         try clear lD
         try clear lE
         try clear eR
         try clear lF
         try clear lG
         try clear lH
         try clear oL
         try clear fU
         try clear fK
         try clear lI
         try clear lJ
         try clear oM
         try clear oN
         try clear oO
         try clear oP
         try clear oQ
         try clear oR
         try clear oS
         try clear oT
         try clear oU
         try clear oV
         try clear oW
         try clear oX
         try clear oY
         try clear oZ
         try clear pa
         try clear pb
         try clear pc
         try clear ez
         try clear eA
         try clear eB
         try clear eC
         try clear eD
         try clear eE
         try clear eF
         try clear eG
         try clear eH
         try clear fV
         try clear fW
         try clear fX
         try clear fY
         try clear fZ
         try clear ga
         try clear gb
         try clear gc
         try clear gd
         try clear gq
         try clear gr
         try clear gs
         try clear gu
         try clear gv
         try clear gw
         try clear gx
         try clear gy
         try clear gz
         try clear gJ
         try clear gK
         try clear gL
         try clear gM
         try clear gN
         try clear gO
         try clear gP
         try clear gQ
         try clear gR
         try clear hc
         try clear hf
         try clear hh
         try clear hj
         try clear hl
         try clear hm
         try clear hq
         try clear ht
         try clear hu
         try clear ih
         try clear ii
         try clear ij
         try clear ik
         try clear il
         try clear im
         try clear ip
         try clear iq
         try clear ir
         try clear iC
         try clear iD
         try clear iE
         try clear iF
         try clear iG
         try clear iH
         try clear iI
         try clear iJ
         try clear iK
         try clear iU
         try clear iV
         try clear iW
         try clear iX
         try clear iY
         try clear iZ
         try clear ja
         try clear jb
         try clear jc
         try clear jm
         try clear jn
         try clear jo
         try clear jp
         try clear jq
         try clear jw
         try clear jx
         try clear jy
         try clear jz
         try clear jA
         try clear jB
         try clear jC
         try clear jD
         try clear jE
         try clear jO
         try clear jP
         try clear jQ
         try clear jR
         try clear jS
         try clear jY
         try clear jZ
         try clear ka
         try clear kb
         try clear kc
         try clear ke
         try clear kf
         try clear kg
         try clear kh
         try clear ku
         try clear kv
         try clear kw
         try clear ky
         try clear kz
         try clear kA
         try clear kB
         try clear kC
         try clear kD
         try clear kN
         try clear kO
         try clear kP
         try clear kQ
         try clear kR
         try clear kX
         try clear kY
         try clear kZ
         try clear la
         try clear lb
         try clear eY
         try clear eZ
         try clear fa
         try clear fb
         try clear fc
         try clear fd
         try clear fe
         try clear fg
         try clear fh
         try clear fr
         try clear fs
         try clear ft
         try clear fu
         try clear fv
         try clear fw
         try clear fx
         try clear fy
         try clear fz
         try clear eI
         try clear eJ
         try clear eK
         try clear eL
         try clear eM
         try clear eN
         try clear eO
         try clear eP
         try clear eQ
         try clear gf
         try clear gg
         try clear gh
         try clear gi
         try clear gj
         try clear gl
         try clear gm
         try clear gn
         try clear gp
         try clear gA
         try clear gB
         try clear gC
         try clear gD
         try clear gE
         try clear gF
         try clear gG
         try clear gH
         try clear gI
         try clear gS
         try clear gT
         try clear gU
         try clear gV
         try clear gW
         try clear gX
         try clear gY
         try clear gZ
         try clear ha
         try clear hv
         try clear hx
         try clear hy
         try clear hz
         try clear ia
         try clear ib
         try clear ic
         try clear ie
         try clear ig
         try clear it
         try clear iu
         try clear iv
         try clear iw
         try clear ix
         try clear iy
         try clear iz
         try clear iA
         try clear iB
         try clear iL
         try clear iM
         try clear iN
         try clear iO
         try clear iP
         try clear iQ
         try clear iR
         try clear iS
         try clear iT
         try clear jd
         try clear je
         try clear jf
         try clear jg
         try clear jh
         try clear ji
         try clear jj
         try clear jk
         try clear jl
         try clear jr
         try clear js
         try clear jt
         try clear ju
         try clear jv
         try clear jF
         try clear jG
         try clear jH
         try clear jI
         try clear jJ
         try clear jK
         try clear jL
         try clear jM
         try clear jN
         try clear jT
         try clear jU
         try clear jV
         try clear jW
         try clear jX
         try clear ki
         try clear kj
         try clear kk
         try clear kl
         try clear km
         try clear ko
         try clear kp
         try clear kr
         try clear kt
         try clear kE
         try clear kF
         try clear kG
         try clear kH
         try clear kI
         try clear kJ
         try clear kK
         try clear kL
         try clear kM
         try clear kS
         try clear kT
         try clear kU
         try clear kV
         try clear kW
         try clear lc
         try clear ld
         try clear lf
         try clear lg
         try clear lh
         try clear fi
         try clear fj
         try clear fk
         try clear fl
         try clear fm
         try clear fn
         try clear fo
         try clear fp
         try clear fq
         try clear fA
         try clear fB
         try clear fC
         try clear fD
         try clear fE
         try clear fF
         try clear fG
         try clear fH
         try clear fI
         try clear p2
         obtain ⟨cQ,dq,dr,aH,ds,dE,dF,dt,du,dG,dH,an,ao,aJ,al,ap,aq,aL,am,ar,au,rfl,HA,HK2,HO_497004,HO_497005,HO_513004,HO_513005,HO_529004,HO_529005,HO_540002,HO_540003,HO_551002,HO_551003,ab,ae,af,ak,ai,aF,HB⟩ := hrel
         cases gk with
         | zero => exact absurd HA.out (by simp [L_ChunkTakes.l0])
         | succ k2 =>
          have H := HA.out
          clear HA
          simp only [L_ChunkTakes.l0] at H
          by_cases fQ : cQ < (aH.length : Int)
          ·
           rw [if_pos fQ] at H
           have lK : decide (cQ < (aH.length : Int)) = true := zzn fQ
           clear fQ
           by_cases lr : 0 ≤ cQ
           ·
            rw [if_pos lr] at H
            have nf : decide (0 ≤ cQ) = true := zzn lr
            clear lr
            obtain ⟨lu,hy553⟩ : ∃ y_ : List Int,y_ = (aH.set (cQ : Int).toNat 77) := ⟨_,rfl⟩
            replace H : (L_ChunkTakes.l0 k2 cA (wrap64 (cQ + 1)) ay az aA aB aw ax aC av aD aM aN aO aP dq dr aQ aR aT aU aY bd be lu ds bi bk bm aV aZ dt du bg) = some r := by first | (rw [hy553]; with_reducible exact H) | (have fR := (zzi _ _).symm.trans H; rw [hy553]; with_reducible exact fR) | (have fR := (zzi _ _).symm.trans H; with_reducible exact fR) | with_reducible exact H | (rw [hy553]; exact H) | exact H
            have ng := zzk hy553
            clear hy553
            have H' := zzk H
            clear H
            have qs := dB.out
            have qt := cp.out
            have qu := dC.out
            have qv := cq.out
            have qw := cy.out
            have qx := ea.out
            have qy := cK.out
            have qz := dy.out
            have qA := cV.out
            have qB := ee.out
            have lY : wr.cell? ⟨ac,0,none⟩ = some (.int .i64 aU) := (zi af.out 0).trans rfl
            have lZ : wr.cell? ⟨ac,1,none⟩ = some (.int .i64 aY) := (zi af.out 1).trans rfl
            have ma : wr.cell? ⟨ac,2,none⟩ = some (.int .i64 bd) := (zi af.out 2).trans rfl
            have mb : wr.cell? ⟨ac,3,none⟩ = some (.int .i64 be) := (zi af.out 3).trans rfl
            have mc : wr.cell? ⟨ac,4,none⟩ = some (aJ) := (zi af.out 4).trans rfl
            have md : wr.cell? ⟨ac,5,none⟩ = some (al) := (zi af.out 5).trans rfl
            have me : wr.cell? ⟨ac,6,none⟩ = some (.int .i64 bi) := (zi af.out 6).trans rfl
            have mf : wr.cell? ⟨ac,7,none⟩ = some (.string bk) := (zi af.out 7).trans rfl
            have mg : wr.cell? ⟨ac,8,none⟩ = some (.bool bm) := (zi af.out 8).trans rfl
            have mh := zm af.out 0
            have mi := zm af.out 1
            have mj := zm af.out 2
            have ml := zm af.out 3
            have mm := zm af.out 4
            have mo := zm af.out 5
            have mq := zm af.out 6
            have mr := zm af.out 7
            have ms := zm af.out 8
            obtain ⟨rc,cP,eo85⟩ := zz HO_513004.out
            subst eo85
            have p78 : 0 ≤ (cQ : Int) := of_decide_eq_true (by first | (with_reducible assumption) | assumption)
            have ls : (cQ : Int) < ((aH.length : Int) : Int) := of_decide_eq_true (by first | (with_reducible assumption) | assumption)
            obtain ⟨go78,re,eo78,na,gl78,cl78,HG78⟩ := Kd.R_form HO_513004.out (by omega)
            (first | cases eo78 | (injection eo78 with ea_ en_ ec_; (first | subst ea_ | (injection ea_ with ea_; subst ea_)); subst ec_; clear en_))
            have GB78 := zzk na
            have GG78 := zzk HG78
            clear na gl78 HG78
            obtain ⟨hx78_0,hf78_0⟩ := Kd.R_celln 0 HO_513004.out (cQ : Int) p78 ls
            replace p78 := eq_true p78
            replace ls := eq_true ls
            have HP86 := Kd.R_putg HO_513004.out (cQ : Int) 77
            go_wp2_with (first | ((with_reducible refine gate_store (t := 3) (p := 98) rfl ?_); refine store_event (t := 3) (p := 98) (v := ?vo_w87) (w1 := (wr.setCell ⟨go78,(cQ : Int).toNat,none⟩ (.int .i64 77))) ?hg ?ho ?hn ?hr ?_; (case ho => rfl); (case hg => rfl); (case hn => rfl); (case hr => first | (go_simp; done) | (go_simp; rfl)); intro nb hw; have hg : wr.grownBy nb (some go78) := (by rw [hw]; exact HP86.2); have hp_ : Kd.R (Kd.int .i64) 3 nb w.heap.size (fun k_ => some k_ ≠ (an : Value).ownBlock ∧ some k_ ≠ (ao : Value).ownBlock ∧ some k_ ≠ (al : Value).ownBlock ∧ some k_ ≠ (ap : Value).ownBlock ∧ some k_ ≠ (aq : Value).ownBlock ∧ some k_ ≠ (aL : Value).ownBlock ∧ some k_ ≠ (am : Value).ownBlock ∧ some k_ ≠ (ar : Value).ownBlock ∧ some k_ ≠ (au : Value).ownBlock) (.slice (some ⟨go78,0,none⟩) aH.length cP) lu := (by rw [hw,ng.out]; exact HP86.1); clear HP86; have bR := zzk (Kd.R_after (v := (.slice (some ⟨go78,0,none⟩) aH.length cP)) (v1 := (.slice (some ⟨go78,0,none⟩) aH.length cP)) (ok := (fun k_ => some k_ ≠ (ao : Value).ownBlock ∧ some k_ ≠ (al : Value).ownBlock ∧ some k_ ≠ (ap : Value).ownBlock ∧ some k_ ≠ (aq : Value).ownBlock ∧ some k_ ≠ (aL : Value).ownBlock ∧ some k_ ≠ (am : Value).ownBlock ∧ some k_ ≠ (ar : Value).ownBlock ∧ some k_ ≠ (au : Value).ownBlock)) (by (with_reducible repeat (first | apply zu | apply zt | apply zs)); exact zx HO_497004.out (fun _ hk => ⟨⟨hk.1,⟨hk.2.2.1,⟨hk.2.2.2.1,⟨hk.2.2.2.2.1,⟨hk.2.2.2.2.2.1,⟨hk.2.2.2.2.2.2.1,⟨hk.2.2.2.2.2.2.2.1,hk.2.2.2.2.2.2.2.2⟩⟩⟩⟩⟩⟩⟩,hk.2.1⟩)) hg (.inl rfl)); have bS := zzk (Kd.R_after (v := (.slice (some ⟨go78,0,none⟩) aH.length cP)) (v1 := (.slice (some ⟨go78,0,none⟩) aH.length cP)) (ok := (fun k_ => some k_ ≠ (an : Value).ownBlock ∧ some k_ ≠ (al : Value).ownBlock ∧ some k_ ≠ (ap : Value).ownBlock ∧ some k_ ≠ (aq : Value).ownBlock ∧ some k_ ≠ (aL : Value).ownBlock ∧ some k_ ≠ (am : Value).ownBlock ∧ some k_ ≠ (ar : Value).ownBlock ∧ some k_ ≠ (au : Value).ownBlock)) (by (with_reducible repeat (first | apply zu | apply zt | apply zs)); exact zx HO_497005.out (fun _ hk => ⟨⟨hk.1,⟨hk.2.2.1,⟨hk.2.2.2.1,⟨hk.2.2.2.2.1,⟨hk.2.2.2.2.2.1,⟨hk.2.2.2.2.2.2.1,⟨hk.2.2.2.2.2.2.2.1,hk.2.2.2.2.2.2.2.2⟩⟩⟩⟩⟩⟩⟩,hk.2.1⟩)) hg (.inl rfl)); have bY := zzk (hp_); have bZ := zzk (Kd.R_after (v := (.slice (some ⟨go78,0,none⟩) aH.length cP)) (v1 := (.slice (some ⟨go78,0,none⟩) aH.length cP)) (ok := (fun k_ => some k_ ≠ (an : Value).ownBlock ∧ some k_ ≠ (ao : Value).ownBlock ∧ some k_ ≠ (ap : Value).ownBlock ∧ some k_ ≠ (aq : Value).ownBlock ∧ some k_ ≠ (aL : Value).ownBlock ∧ some k_ ≠ (am : Value).ownBlock ∧ some k_ ≠ (ar : Value).ownBlock ∧ some k_ ≠ (au : Value).ownBlock)) (by (with_reducible repeat (first | apply zu | apply zt | apply zs)); exact zx HO_513005.out (fun _ hk => ⟨⟨hk.1,⟨hk.2.1,⟨hk.2.2.2.1,⟨hk.2.2.2.2.1,⟨hk.2.2.2.2.2.1,⟨hk.2.2.2.2.2.2.1,⟨hk.2.2.2.2.2.2.2.1,hk.2.2.2.2.2.2.2.2⟩⟩⟩⟩⟩⟩⟩,hk.2.2.1⟩)) hg (.inl rfl)); have ch := zzk (Kd.R_after (v := (.slice (some ⟨go78,0,none⟩) aH.length cP)) (v1 := (.slice (some ⟨go78,0,none⟩) aH.length cP)) (ok := (fun k_ => some k_ ≠ (an : Value).ownBlock ∧ some k_ ≠ (ao : Value).ownBlock ∧ some k_ ≠ (al : Value).ownBlock ∧ some k_ ≠ (aq : Value).ownBlock ∧ some k_ ≠ (aL : Value).ownBlock ∧ some k_ ≠ (am : Value).ownBlock ∧ some k_ ≠ (ar : Value).ownBlock ∧ some k_ ≠ (au : Value).ownBlock)) (by (with_reducible repeat (first | apply zu | apply zt | apply zs)); exact zx HO_529004.out (fun _ hk => ⟨⟨hk.1,⟨hk.2.1,⟨hk.2.2.2.1,⟨hk.2.2.2.2.1,⟨hk.2.2.2.2.2.1,⟨hk.2.2.2.2.2.2.1,⟨hk.2.2.2.2.2.2.2.1,hk.2.2.2.2.2.2.2.2⟩⟩⟩⟩⟩⟩⟩,hk.2.2.1⟩)) hg (.inl rfl)); have ci := zzk (Kd.R_after (v := (.slice (some ⟨go78,0,none⟩) aH.length cP)) (v1 := (.slice (some ⟨go78,0,none⟩) aH.length cP)) (ok := (fun k_ => some k_ ≠ (an : Value).ownBlock ∧ some k_ ≠ (ao : Value).ownBlock ∧ some k_ ≠ (al : Value).ownBlock ∧ some k_ ≠ (ap : Value).ownBlock ∧ some k_ ≠ (aL : Value).ownBlock ∧ some k_ ≠ (am : Value).ownBlock ∧ some k_ ≠ (ar : Value).ownBlock ∧ some k_ ≠ (au : Value).ownBlock)) (by (with_reducible repeat (first | apply zu | apply zt | apply zs)); exact zx HO_529005.out (fun _ hk => ⟨⟨hk.1,⟨hk.2.1,⟨hk.2.2.2.1,⟨hk.2.2.2.2.1,⟨hk.2.2.2.2.2.1,⟨hk.2.2.2.2.2.2.1,⟨hk.2.2.2.2.2.2.2.1,hk.2.2.2.2.2.2.2.2⟩⟩⟩⟩⟩⟩⟩,hk.2.2.1⟩)) hg (.inl rfl)); have cj := zzk (Kd.R_after (v := (.slice (some ⟨go78,0,none⟩) aH.length cP)) (v1 := (.slice (some ⟨go78,0,none⟩) aH.length cP)) (ok := (fun k_ => some k_ ≠ (an : Value).ownBlock ∧ some k_ ≠ (ao : Value).ownBlock ∧ some k_ ≠ (al : Value).ownBlock ∧ some k_ ≠ (ap : Value).ownBlock ∧ some k_ ≠ (aq : Value).ownBlock ∧ some k_ ≠ (am : Value).ownBlock ∧ some k_ ≠ (ar : Value).ownBlock ∧ some k_ ≠ (au : Value).ownBlock)) (by (with_reducible repeat (first | apply zu | apply zt | apply zs)); exact zx HO_540002.out (fun _ hk => ⟨⟨hk.1,⟨hk.2.1,⟨hk.2.2.2.1,⟨hk.2.2.2.2.1,⟨hk.2.2.2.2.2.1,⟨hk.2.2.2.2.2.2.1,⟨hk.2.2.2.2.2.2.2.1,hk.2.2.2.2.2.2.2.2⟩⟩⟩⟩⟩⟩⟩,hk.2.2.1⟩)) hg (.inl rfl)); have cn := zzk (Kd.R_after (v := (.slice (some ⟨go78,0,none⟩) aH.length cP)) (v1 := (.slice (some ⟨go78,0,none⟩) aH.length cP)) (ok := (fun k_ => some k_ ≠ (an : Value).ownBlock ∧ some k_ ≠ (ao : Value).ownBlock ∧ some k_ ≠ (al : Value).ownBlock ∧ some k_ ≠ (ap : Value).ownBlock ∧ some k_ ≠ (aq : Value).ownBlock ∧ some k_ ≠ (aL : Value).ownBlock ∧ some k_ ≠ (ar : Value).ownBlock ∧ some k_ ≠ (au : Value).ownBlock)) (by (with_reducible repeat (first | apply zu | apply zt | apply zs)); exact zx HO_540003.out (fun _ hk => ⟨⟨hk.1,⟨hk.2.1,⟨hk.2.2.2.1,⟨hk.2.2.2.2.1,⟨hk.2.2.2.2.2.1,⟨hk.2.2.2.2.2.2.1,⟨hk.2.2.2.2.2.2.2.1,hk.2.2.2.2.2.2.2.2⟩⟩⟩⟩⟩⟩⟩,hk.2.2.1⟩)) hg (.inl rfl)); have co := zzk (Kd.R_after (v := (.slice (some ⟨go78,0,none⟩) aH.length cP)) (v1 := (.slice (some ⟨go78,0,none⟩) aH.length cP)) (ok := (fun k_ => some k_ ≠ (an : Value).ownBlock ∧ some k_ ≠ (ao : Value).ownBlock ∧ some k_ ≠ (al : Value).ownBlock ∧ some k_ ≠ (ap : Value).ownBlock ∧ some k_ ≠ (aq : Value).ownBlock ∧ some k_ ≠ (aL : Value).ownBlock ∧ some k_ ≠ (am : Value).ownBlock ∧ some k_ ≠ (au : Value).ownBlock)) (by (with_reducible repeat (first | apply zu | apply zt | apply zs)); exact zx HO_551002.out (fun _ hk => ⟨⟨hk.1,⟨hk.2.1,⟨hk.2.2.2.1,⟨hk.2.2.2.2.1,⟨hk.2.2.2.2.2.1,⟨hk.2.2.2.2.2.2.1,⟨hk.2.2.2.2.2.2.2.1,hk.2.2.2.2.2.2.2.2⟩⟩⟩⟩⟩⟩⟩,hk.2.2.1⟩)) hg (.inl rfl)); have cx := zzk (Kd.R_after (v := (.slice (some ⟨go78,0,none⟩) aH.length cP)) (v1 := (.slice (some ⟨go78,0,none⟩) aH.length cP)) (ok := (fun k_ => some k_ ≠ (an : Value).ownBlock ∧ some k_ ≠ (ao : Value).ownBlock ∧ some k_ ≠ (al : Value).ownBlock ∧ some k_ ≠ (ap : Value).ownBlock ∧ some k_ ≠ (aq : Value).ownBlock ∧ some k_ ≠ (aL : Value).ownBlock ∧ some k_ ≠ (am : Value).ownBlock ∧ some k_ ≠ (ar : Value).ownBlock)) (by (with_reducible repeat (first | apply zu | apply zt | apply zs)); exact zx HO_551003.out (fun _ hk => ⟨⟨hk.1,⟨hk.2.1,⟨hk.2.2.2.1,⟨hk.2.2.2.2.1,⟨hk.2.2.2.2.2.1,⟨hk.2.2.2.2.2.2.1,⟨hk.2.2.2.2.2.2.2.1,hk.2.2.2.2.2.2.2.2⟩⟩⟩⟩⟩⟩⟩,hk.2.2.1⟩)) hg (.inl rfl)); have cd := zzk (blk_grown (g := ah) (o := .cells #[.int .i64 ay,.int .i64 az,.int .i64 aA,.int .i64 aB,.slice bz aw.length bA,.slice bB ax.length bC,.int .i64 aC,.string av,.bool aD] 34 (0,0)) (by (with_reducible repeat (first | refine zj ?_ _ | refine zl ?_ | refine zk ?_ _)); exact ab.out) hg (Kd.R_ne HO_513004.out ab.out (by decide))); have ce := zzk (blk_grown (g := ag) (o := .cells #[.int .i64 aM,.int .i64 aN,.int .i64 aO,.int .i64 aP,an,ao,.int .i64 aQ,.string aR,.bool aT] 34 (0,0)) (by (with_reducible repeat (first | refine zj ?_ _ | refine zl ?_ | refine zk ?_ _)); exact ae.out) hg (Kd.R_ne HO_513004.out ae.out (by decide))); have cf := zzk (blk_grown (g := ac) (o := .cells #[.int .i64 aU,.int .i64 aY,.int .i64 bd,.int .i64 be,.slice (some ⟨go78,0,none⟩) aH.length cP,al,.int .i64 bi,.string bk,.bool bm] 34 (0,0)) (by (with_reducible repeat (first | refine zj ?_ _ | refine zl ?_ | refine zk ?_ _)); exact af.out) hg (Kd.R_ne HO_513004.out af.out (by decide))); have cl := zzk (blk_grown (g := aa) (o := .cells #[.int .i64 bo,.int .i64 bq,.int .i64 bu,.int .i64 bw,ap,aq,.int .i64 bD,.string bH,.bool bN] 34 (0,0)) (by (with_reducible repeat (first | refine zj ?_ _ | refine zl ?_ | refine zk ?_ _)); exact ak.out) hg (Kd.R_ne HO_513004.out ak.out (by decide))); have cu := zzk (blk_grown (g := ad) (o := .cells #[.int .i64 aV,.int .i64 aZ,aL,am,.string bg] 26 (0,0)) (by (with_reducible repeat (first | refine zj ?_ _ | refine zl ?_ | refine zk ?_ _)); exact ai.out) hg (Kd.R_ne HO_513004.out ai.out (by decide))); have cv := zzk (blk_grown (g := aj) (o := .cells #[.int .i64 ck,.int .i64 cm,ar,au,.string cz] 26 (0,0)) (by (with_reducible repeat (first | refine zj ?_ _ | refine zl ?_ | refine zk ?_ _)); exact aF.out) hg (Kd.R_ne HO_513004.out aF.out (by decide))); have cF := zzk ((by rw [hw]; exact Zn (HB.out) GB78.out : Below w.heap.size w nb)); clear HO_497004; clear HO_497005; clear HO_513004; clear HO_513005; clear HO_529004; clear HO_529005; clear HO_540002; clear HO_540003; clear HO_551002; clear HO_551003; clear ab; clear ae; clear af; clear ak; clear ai; clear aF; clear HB; have HO_497004 := bR; have HO_497005 := bS; have HO_513004 := bY; have HO_513005 := bZ; have HO_529004 := ch; have HO_529005 := ci; have HO_540002 := cj; have HO_540003 := cn; have HO_551002 := co; have HO_551003 := cx; have ab := cd; have ae := ce; have af := cf; have ak := cl; have ai := cu; have aF := cv; have HB := cF; clear bR bS bY bZ ch ci cj cn co cx cd ce cf cl cu cv cF; clear hg hw hp_))
            go_roundg k2
            case measure => have := HJ3.out; have := HK2.out; omega
            case rel => exact ⟨(wrap64 (cQ + 1)),(dq),(dr),(lu),(ds),(dE),(dF),(dt),(du),(dG),(dH),(an),(ao),(.slice (some ⟨go78,0,none⟩) aH.length cP),(al),(ap),(aq),(aL),(am),(ar),(au),(by first | rfl | (simp; done) | (simp [*]; done)),H',⟨by have := HJ3.out; have := HK2.out; omega⟩,⟨by (with_reducible repeat (first | apply zu | apply zt | apply zs)); exact zx HO_497004.out (fun _ hk => ⟨hk.1.1,⟨hk.2,⟨hk.1.2.1,⟨hk.1.2.2.1,⟨hk.1.2.2.2.1,⟨hk.1.2.2.2.2.1,⟨hk.1.2.2.2.2.2.1,⟨hk.1.2.2.2.2.2.2.1,hk.1.2.2.2.2.2.2.2⟩⟩⟩⟩⟩⟩⟩⟩)⟩,⟨by (with_reducible repeat (first | apply zu | apply zt | apply zs)); exact zx HO_497005.out (fun _ hk => ⟨hk.1.1,⟨hk.2,⟨hk.1.2.1,⟨hk.1.2.2.1,⟨hk.1.2.2.2.1,⟨hk.1.2.2.2.2.1,⟨hk.1.2.2.2.2.2.1,⟨hk.1.2.2.2.2.2.2.1,hk.1.2.2.2.2.2.2.2⟩⟩⟩⟩⟩⟩⟩⟩)⟩,⟨by (with_reducible repeat (first | apply zu | apply zt | apply zs)); exact HO_513004.out⟩,⟨by (with_reducible repeat (first | apply zu | apply zt | apply zs)); exact zx HO_513005.out (fun _ hk => ⟨hk.1.1,⟨hk.1.2.1,⟨hk.2,⟨hk.1.2.2.1,⟨hk.1.2.2.2.1,⟨hk.1.2.2.2.2.1,⟨hk.1.2.2.2.2.2.1,⟨hk.1.2.2.2.2.2.2.1,hk.1.2.2.2.2.2.2.2⟩⟩⟩⟩⟩⟩⟩⟩)⟩,⟨by (with_reducible repeat (first | apply zu | apply zt | apply zs)); exact zx HO_529004.out (fun _ hk => ⟨hk.1.1,⟨hk.1.2.1,⟨hk.2,⟨hk.1.2.2.1,⟨hk.1.2.2.2.1,⟨hk.1.2.2.2.2.1,⟨hk.1.2.2.2.2.2.1,⟨hk.1.2.2.2.2.2.2.1,hk.1.2.2.2.2.2.2.2⟩⟩⟩⟩⟩⟩⟩⟩)⟩,⟨by (with_reducible repeat (first | apply zu | apply zt | apply zs)); exact zx HO_529005.out (fun _ hk => ⟨hk.1.1,⟨hk.1.2.1,⟨hk.2,⟨hk.1.2.2.1,⟨hk.1.2.2.2.1,⟨hk.1.2.2.2.2.1,⟨hk.1.2.2.2.2.2.1,⟨hk.1.2.2.2.2.2.2.1,hk.1.2.2.2.2.2.2.2⟩⟩⟩⟩⟩⟩⟩⟩)⟩,⟨by (with_reducible repeat (first | apply zu | apply zt | apply zs)); exact zx HO_540002.out (fun _ hk => ⟨hk.1.1,⟨hk.1.2.1,⟨hk.2,⟨hk.1.2.2.1,⟨hk.1.2.2.2.1,⟨hk.1.2.2.2.2.1,⟨hk.1.2.2.2.2.2.1,⟨hk.1.2.2.2.2.2.2.1,hk.1.2.2.2.2.2.2.2⟩⟩⟩⟩⟩⟩⟩⟩)⟩,⟨by (with_reducible repeat (first | apply zu | apply zt | apply zs)); exact zx HO_540003.out (fun _ hk => ⟨hk.1.1,⟨hk.1.2.1,⟨hk.2,⟨hk.1.2.2.1,⟨hk.1.2.2.2.1,⟨hk.1.2.2.2.2.1,⟨hk.1.2.2.2.2.2.1,⟨hk.1.2.2.2.2.2.2.1,hk.1.2.2.2.2.2.2.2⟩⟩⟩⟩⟩⟩⟩⟩)⟩,⟨by (with_reducible repeat (first | apply zu | apply zt | apply zs)); exact zx HO_551002.out (fun _ hk => ⟨hk.1.1,⟨hk.1.2.1,⟨hk.2,⟨hk.1.2.2.1,⟨hk.1.2.2.2.1,⟨hk.1.2.2.2.2.1,⟨hk.1.2.2.2.2.2.1,⟨hk.1.2.2.2.2.2.2.1,hk.1.2.2.2.2.2.2.2⟩⟩⟩⟩⟩⟩⟩⟩)⟩,⟨by (with_reducible repeat (first | apply zu | apply zt | apply zs)); exact zx HO_551003.out (fun _ hk => ⟨hk.1.1,⟨hk.1.2.1,⟨hk.2,⟨hk.1.2.2.1,⟨hk.1.2.2.2.1,⟨hk.1.2.2.2.2.1,⟨hk.1.2.2.2.2.2.1,⟨hk.1.2.2.2.2.2.2.1,hk.1.2.2.2.2.2.2.2⟩⟩⟩⟩⟩⟩⟩⟩)⟩,⟨by (with_reducible repeat (first | refine zj ?_ _ | refine zl ?_ | refine zk ?_ _)); exact ab.out⟩,⟨by (with_reducible repeat (first | refine zj ?_ _ | refine zl ?_ | refine zk ?_ _)); exact ae.out⟩,⟨by (with_reducible repeat (first | refine zj ?_ _ | refine zl ?_ | refine zk ?_ _)); exact af.out⟩,⟨by (with_reducible repeat (first | refine zj ?_ _ | refine zl ?_ | refine zk ?_ _)); exact ak.out⟩,⟨by (with_reducible repeat (first | refine zj ?_ _ | refine zl ?_ | refine zk ?_ _)); exact ai.out⟩,⟨by (with_reducible repeat (first | refine zj ?_ _ | refine zl ?_ | refine zk ?_ _)); exact aF.out⟩,⟨by repeat (first | (with_reducible first | exact HB.out | apply Zq | apply Zp | apply Zo | refine Zn ?_ aS.out | refine Zn ?_ br.out | refine Zn ?_ ca.out | refine Zn ?_ cw.out | refine Zn ?_ cX.out | refine Zn ?_ dA.out) | exact HB.out)⟩⟩
           ·
            rw [if_neg lr] at H
            exact absurd H (by simp)
          ·
           rw [if_neg fQ] at H
           have lK : decide (cQ < (aH.length : Int)) = false := zzo fQ
           clear fQ
           have H' := zzk H
           clear H
           have qC := dB.out
           have qD := cp.out
           have qE := dC.out
           have qF := cq.out
           have qG := cy.out
           have qH := ea.out
           have qI := cK.out
           have qJ := dy.out
           have qK := cV.out
           have qL := ee.out
           have mt : wr.cell? ⟨ac,0,none⟩ = some (.int .i64 aU) := (zi af.out 0).trans rfl
           have mu : wr.cell? ⟨ac,1,none⟩ = some (.int .i64 aY) := (zi af.out 1).trans rfl
           have mv : wr.cell? ⟨ac,2,none⟩ = some (.int .i64 bd) := (zi af.out 2).trans rfl
           have mw : wr.cell? ⟨ac,3,none⟩ = some (.int .i64 be) := (zi af.out 3).trans rfl
           have my : wr.cell? ⟨ac,4,none⟩ = some (aJ) := (zi af.out 4).trans rfl
           have mz : wr.cell? ⟨ac,5,none⟩ = some (al) := (zi af.out 5).trans rfl
           have mA : wr.cell? ⟨ac,6,none⟩ = some (.int .i64 bi) := (zi af.out 6).trans rfl
           have mB : wr.cell? ⟨ac,7,none⟩ = some (.string bk) := (zi af.out 7).trans rfl
           have mC : wr.cell? ⟨ac,8,none⟩ = some (.bool bm) := (zi af.out 8).trans rfl
           have mD := zm af.out 0
           have mE := zm af.out 1
           have mF := zm af.out 2
           have mG := zm af.out 3
           have mH := zm af.out 4
           have mI := zm af.out 5
           have mJ := zm af.out 6
           have mK := zm af.out 7
           have mL := zm af.out 8
           obtain ⟨nn,np,eo94⟩ := zz HO_513004.out
           subst eo94
           go_wp2
           go_loopg [20] k2 (fun kq pd w' => ∃ (cR : Int) (cL : List Int) (cM : List Int) (eg : List Int) (eh : List Int) (ei : List Int) (ej : List Int) (aI : List Int) (dz : List Int) (ek : List Int) (el : List Int) (an : Value) (ao : Value) (aJ : Value) (al : Value) (ap : Value) (aq : Value) (aL : Value) (am : Value) (ar : Value) (au : Value),pd = .int .i64 cR ∧ Aside0 (L_ChunkTakes.l1 kq cA cR ay az aA aB aw ax aC av aD aM aN aO aP cL cM aQ aR aT aV aZ aI dz bg = some r) ∧ Aside0 (kq ≤ k2) ∧ Aside0 (Kd.R (Kd.int .i64) 3 w' w.heap.size (fun k_ => some k_ ≠ (ao : Value).ownBlock ∧ some k_ ≠ (aJ : Value).ownBlock ∧ some k_ ≠ (al : Value).ownBlock ∧ some k_ ≠ (ap : Value).ownBlock ∧ some k_ ≠ (aq : Value).ownBlock ∧ some k_ ≠ (aL : Value).ownBlock ∧ some k_ ≠ (am : Value).ownBlock ∧ some k_ ≠ (ar : Value).ownBlock ∧ some k_ ≠ (au : Value).ownBlock) an cL) ∧ Aside0 (Kd.R (Kd.int .i64) 3 w' w.heap.size (fun k_ => some k_ ≠ (an : Value).ownBlock ∧ some k_ ≠ (aJ : Value).ownBlock ∧ some k_ ≠ (al : Value).ownBlock ∧ some k_ ≠ (ap : Value).ownBlock ∧ some k_ ≠ (aq : Value).ownBlock ∧ some k_ ≠ (aL : Value).ownBlock ∧ some k_ ≠ (am : Value).ownBlock ∧ some k_ ≠ (ar : Value).ownBlock ∧ some k_ ≠ (au : Value).ownBlock) ao cM) ∧ Aside0 (Kd.R (Kd.int .i64) 3 w' w.heap.size (fun k_ => some k_ ≠ (an : Value).ownBlock ∧ some k_ ≠ (ao : Value).ownBlock ∧ some k_ ≠ (al : Value).ownBlock ∧ some k_ ≠ (ap : Value).ownBlock ∧ some k_ ≠ (aq : Value).ownBlock ∧ some k_ ≠ (aL : Value).ownBlock ∧ some k_ ≠ (am : Value).ownBlock ∧ some k_ ≠ (ar : Value).ownBlock ∧ some k_ ≠ (au : Value).ownBlock) aJ eg) ∧ Aside0 (Kd.R (Kd.int .i64) 3 w' w.heap.size (fun k_ => some k_ ≠ (an : Value).ownBlock ∧ some k_ ≠ (ao : Value).ownBlock ∧ some k_ ≠ (aJ : Value).ownBlock ∧ some k_ ≠ (ap : Value).ownBlock ∧ some k_ ≠ (aq : Value).ownBlock ∧ some k_ ≠ (aL : Value).ownBlock ∧ some k_ ≠ (am : Value).ownBlock ∧ some k_ ≠ (ar : Value).ownBlock ∧ some k_ ≠ (au : Value).ownBlock) al eh) ∧ Aside0 (Kd.R (Kd.int .i64) 3 w' w.heap.size (fun k_ => some k_ ≠ (an : Value).ownBlock ∧ some k_ ≠ (ao : Value).ownBlock ∧ some k_ ≠ (aJ : Value).ownBlock ∧ some k_ ≠ (al : Value).ownBlock ∧ some k_ ≠ (aq : Value).ownBlock ∧ some k_ ≠ (aL : Value).ownBlock ∧ some k_ ≠ (am : Value).ownBlock ∧ some k_ ≠ (ar : Value).ownBlock ∧ some k_ ≠ (au : Value).ownBlock) ap ei) ∧ Aside0 (Kd.R (Kd.int .i64) 3 w' w.heap.size (fun k_ => some k_ ≠ (an : Value).ownBlock ∧ some k_ ≠ (ao : Value).ownBlock ∧ some k_ ≠ (aJ : Value).ownBlock ∧ some k_ ≠ (al : Value).ownBlock ∧ some k_ ≠ (ap : Value).ownBlock ∧ some k_ ≠ (aL : Value).ownBlock ∧ some k_ ≠ (am : Value).ownBlock ∧ some k_ ≠ (ar : Value).ownBlock ∧ some k_ ≠ (au : Value).ownBlock) aq ej) ∧ Aside0 (Kd.R (Kd.int .i64) 3 w' w.heap.size (fun k_ => some k_ ≠ (an : Value).ownBlock ∧ some k_ ≠ (ao : Value).ownBlock ∧ some k_ ≠ (aJ : Value).ownBlock ∧ some k_ ≠ (al : Value).ownBlock ∧ some k_ ≠ (ap : Value).ownBlock ∧ some k_ ≠ (aq : Value).ownBlock ∧ some k_ ≠ (am : Value).ownBlock ∧ some k_ ≠ (ar : Value).ownBlock ∧ some k_ ≠ (au : Value).ownBlock) aL aI) ∧ Aside0 (Kd.R (Kd.int .i64) 3 w' w.heap.size (fun k_ => some k_ ≠ (an : Value).ownBlock ∧ some k_ ≠ (ao : Value).ownBlock ∧ some k_ ≠ (aJ : Value).ownBlock ∧ some k_ ≠ (al : Value).ownBlock ∧ some k_ ≠ (ap : Value).ownBlock ∧ some k_ ≠ (aq : Value).ownBlock ∧ some k_ ≠ (aL : Value).ownBlock ∧ some k_ ≠ (ar : Value).ownBlock ∧ some k_ ≠ (au : Value).ownBlock) am dz) ∧ Aside0 (Kd.R (Kd.int .i64) 3 w' w.heap.size (fun k_ => some k_ ≠ (an : Value).ownBlock ∧ some k_ ≠ (ao : Value).ownBlock ∧ some k_ ≠ (aJ : Value).ownBlock ∧ some k_ ≠ (al : Value).ownBlock ∧ some k_ ≠ (ap : Value).ownBlock ∧ some k_ ≠ (aq : Value).ownBlock ∧ some k_ ≠ (aL : Value).ownBlock ∧ some k_ ≠ (am : Value).ownBlock ∧ some k_ ≠ (au : Value).ownBlock) ar ek) ∧ Aside0 (Kd.R (Kd.int .i64) 3 w' w.heap.size (fun k_ => some k_ ≠ (an : Value).ownBlock ∧ some k_ ≠ (ao : Value).ownBlock ∧ some k_ ≠ (aJ : Value).ownBlock ∧ some k_ ≠ (al : Value).ownBlock ∧ some k_ ≠ (ap : Value).ownBlock ∧ some k_ ≠ (aq : Value).ownBlock ∧ some k_ ≠ (aL : Value).ownBlock ∧ some k_ ≠ (am : Value).ownBlock ∧ some k_ ≠ (ar : Value).ownBlock) au el) ∧ Aside0 (w'.heap[ah]? = some (.cells #[.int .i64 ay,.int .i64 az,.int .i64 aA,.int .i64 aB,(.slice bz aw.length bA),(.slice bB ax.length bC),.int .i64 aC,.string av,.bool aD] 34 (0,0))) ∧ Aside0 (w'.heap[ag]? = some (.cells #[.int .i64 aM,.int .i64 aN,.int .i64 aO,.int .i64 aP,an,ao,.int .i64 aQ,.string aR,.bool aT] 34 (0,0))) ∧ Aside0 (w'.heap[ac]? = some (.cells #[.int .i64 aU,.int .i64 aY,.int .i64 bd,.int .i64 be,aJ,al,.int .i64 bi,.string bk,.bool bm] 34 (0,0))) ∧ Aside0 (w'.heap[aa]? = some (.cells #[.int .i64 bo,.int .i64 bq,.int .i64 bu,.int .i64 bw,ap,aq,.int .i64 bD,.string bH,.bool bN] 34 (0,0))) ∧ Aside0 (w'.heap[ad]? = some (.cells #[.int .i64 aV,.int .i64 aZ,aL,am,.string bg] 26 (0,0))) ∧ Aside0 (w'.heap[aj]? = some (.cells #[.int .i64 ck,.int .i64 cm,ar,au,.string cz] 26 (0,0))) ∧ Aside0 (Below w.heap.size w w'))
           case atStart => exact ⟨(0),(dq),(dr),(aH),(ds),(dE),(dF),(dt),(du),(dG),(dH),(an),(ao),(.slice nn aH.length np),(al),(ap),(aq),(aL),(am),(ar),(au),(by first | rfl | (simp; done) | (simp [*]; done)),H',⟨Nat.le_refl _⟩,⟨by (with_reducible repeat (first | apply zu | apply zt | apply zs)); exact HO_497004.out⟩,⟨by (with_reducible repeat (first | apply zu | apply zt | apply zs)); exact HO_497005.out⟩,⟨by (with_reducible repeat (first | apply zu | apply zt | apply zs)); exact HO_513004.out⟩,⟨by (with_reducible repeat (first | apply zu | apply zt | apply zs)); exact HO_513005.out⟩,⟨by (with_reducible repeat (first | apply zu | apply zt | apply zs)); exact HO_529004.out⟩,⟨by (with_reducible repeat (first | apply zu | apply zt | apply zs)); exact HO_529005.out⟩,⟨by (with_reducible repeat (first | apply zu | apply zt | apply zs)); exact HO_540002.out⟩,⟨by (with_reducible repeat (first | apply zu | apply zt | apply zs)); exact HO_540003.out⟩,⟨by (with_reducible repeat (first | apply zu | apply zt | apply zs)); exact HO_551002.out⟩,⟨by (with_reducible repeat (first | apply zu | apply zt | apply zs)); exact HO_551003.out⟩,⟨by (with_reducible repeat (first | refine zj ?_ _ | refine zl ?_ | refine zk ?_ _)); exact ab.out⟩,⟨by (with_reducible repeat (first | refine zj ?_ _ | refine zl ?_ | refine zk ?_ _)); exact ae.out⟩,⟨by (with_reducible repeat (first | refine zj ?_ _ | refine zl ?_ | refine zk ?_ _)); exact af.out⟩,⟨by (with_reducible repeat (first | refine zj ?_ _ | refine zl ?_ | refine zk ?_ _)); exact ak.out⟩,⟨by (with_reducible repeat (first | refine zj ?_ _ | refine zl ?_ | refine zk ?_ _)); exact ai.out⟩,⟨by (with_reducible repeat (first | refine zj ?_ _ | refine zl ?_ | refine zk ?_ _)); exact aF.out⟩,⟨by repeat (first | (with_reducible first | exact HB.out | apply Zq | apply Zp | apply Zo | refine Zn ?_ aS.out | refine Zn ?_ br.out | refine Zn ?_ ca.out | refine Zn ?_ cw.out | refine Zn ?_ cX.out | refine Zn ?_ dA.out) | exact HB.out)⟩⟩
           case round =>
            clear H'
            try clear c1
            try clear c2
            try clear p2
            try clear c3
            try clear c4
            try clear c5
            try clear c6
            try clear dU
            try clear lk
            try clear p6
            try clear c7
            try clear p7
            try clear q7
            try clear hx7
            try clear hf7
            try clear c8
            try clear ll
            try clear lm
            try clear c9
            try clear fT
            try clear fJ
            try clear lD
            try clear lE
            try clear eR
            try clear lF
            try clear lG
            try clear lH
            try clear oL
            try clear fU
            try clear fK
            try clear lI
            try clear lJ
            try clear oM
            try clear oN
            try clear oO
            try clear oP
            try clear oQ
            try clear oR
            try clear oS
            try clear oT
            try clear oU
            try clear oV
            try clear oW
            try clear oX
            try clear oY
            try clear oZ
            try clear pa
            try clear p64
            try clear pb
            try clear pc
            try clear fQ
            try clear lK
            try clear lr
            try clear nf
            try clear p78
            try clear ls
            try clear hx78
            try clear hf78
            try clear ro
            try clear rp
            try clear rq
            try clear rr
            try clear rs
            try clear rt
            try clear ru
            try clear rv
            try clear rx
            try clear ry
            try clear ez
            try clear eA
            try clear eB
            try clear eC
            try clear eD
            try clear eE
            try clear eF
            try clear eG
            try clear eH
            try clear fV
            try clear fW
            try clear fX
            try clear fY
            try clear fZ
            try clear ga
            try clear gb
            try clear gc
            try clear gd
            try clear gq
            try clear gr
            try clear gs
            try clear gu
            try clear gv
            try clear gw
            try clear gx
            try clear gy
            try clear gz
            try clear gJ
            try clear gK
            try clear gL
            try clear gM
            try clear gN
            try clear gO
            try clear gP
            try clear gQ
            try clear gR
            try clear hc
            try clear hf
            try clear hh
            try clear hj
            try clear hl
            try clear hm
            try clear hq
            try clear ht
            try clear hu
            try clear ih
            try clear ii
            try clear ij
            try clear ik
            try clear il
            try clear im
            try clear ip
            try clear iq
            try clear ir
            try clear iC
            try clear iD
            try clear iE
            try clear iF
            try clear iG
            try clear iH
            try clear iI
            try clear iJ
            try clear iK
            try clear iU
            try clear iV
            try clear iW
            try clear iX
            try clear iY
            try clear iZ
            try clear ja
            try clear jb
            try clear jc
            try clear jm
            try clear jn
            try clear jo
            try clear jp
            try clear jq
            try clear jw
            try clear jx
            try clear jy
            try clear jz
            try clear jA
            try clear jB
            try clear jC
            try clear jD
            try clear jE
            try clear jO
            try clear jP
            try clear jQ
            try clear jR
            try clear jS
            try clear jY
            try clear jZ
            try clear ka
            try clear kb
            try clear kc
            try clear ke
            try clear kf
            try clear kg
            try clear kh
            try clear ku
            try clear kv
            try clear kw
            try clear ky
            try clear kz
            try clear kA
            try clear kB
            try clear kC
            try clear kD
            try clear kN
            try clear kO
            try clear kP
            try clear kQ
            try clear kR
            try clear kX
            try clear kY
            try clear kZ
            try clear la
            try clear lb
            try clear eY
            try clear eZ
            try clear fa
            try clear fb
            try clear fc
            try clear fd
            try clear fe
            try clear fg
            try clear fh
            try clear lY
            try clear lZ
            try clear ma
            try clear mb
            try clear mc
            try clear md
            try clear me
            try clear mf
            try clear mg
            try clear mt
            try clear mu
            try clear mv
            try clear mw
            try clear my
            try clear mz
            try clear mA
            try clear mB
            try clear mC
            try clear fr
            try clear fs
            try clear ft
            try clear fu
            try clear fv
            try clear fw
            try clear fx
            try clear fy
            try clear fz
            try clear eI
            try clear eJ
            try clear eK
            try clear eL
            try clear eM
            try clear eN
            try clear eO
            try clear eP
            try clear eQ
            try clear gf
            try clear gg
            try clear gh
            try clear gi
            try clear gj
            try clear gl
            try clear gm
            try clear gn
            try clear gp
            try clear gA
            try clear gB
            try clear gC
            try clear gD
            try clear gE
            try clear gF
            try clear gG
            try clear gH
            try clear gI
            try clear gS
            try clear gT
            try clear gU
            try clear gV
            try clear gW
            try clear gX
            try clear gY
            try clear gZ
            try clear ha
            try clear hv
            try clear hx
            try clear hy
            try clear hz
            try clear ia
            try clear ib
            try clear ic
            try clear ie
            try clear ig
            try clear it
            try clear iu
            try clear iv
            try clear iw
            try clear ix
            try clear iy
            try clear iz
            try clear iA
            try clear iB
            try clear iL
            try clear iM
            try clear iN
            try clear iO
            try clear iP
            try clear iQ
            try clear iR
            try clear iS
            try clear iT
            try clear jd
            try clear je
            try clear jf
            try clear jg
            try clear jh
            try clear ji
            try clear jj
            try clear jk
            try clear jl
            try clear jr
            try clear js
            try clear jt
            try clear ju
            try clear jv
            try clear jF
            try clear jG
            try clear jH
            try clear jI
            try clear jJ
            try clear jK
            try clear jL
            try clear jM
            try clear jN
            try clear jT
            try clear jU
            try clear jV
            try clear jW
            try clear jX
            try clear ki
            try clear kj
            try clear kk
            try clear kl
            try clear km
            try clear ko
            try clear kp
            try clear kr
            try clear kt
            try clear kE
            try clear kF
            try clear kG
            try clear kH
            try clear kI
            try clear kJ
            try clear kK
            try clear kL
            try clear kM
            try clear kS
            try clear kT
            try clear kU
            try clear kV
            try clear kW
            try clear lc
            try clear ld
            try clear lf
            try clear lg
            try clear lh
            try clear fi
            try clear fj
            try clear fk
            try clear fl
            try clear fm
            try clear fn
            try clear fo
            try clear fp
            try clear fq
            try clear mh
            try clear mi
            try clear mj
            try clear ml
            try clear mm
            try clear mo
            try clear mq
            try clear mr
            try clear ms
            try clear mD
            try clear mE
            try clear mF
            try clear mG
            try clear mH
            try clear mI
            try clear mJ
            try clear mK
            try clear mL
            try clear fA
            try clear fB
            try clear fC
            try clear fD
            try clear fE
            try clear fF
            try clear fG
            try clear fH
            try clear fI
            try clear hx78_0
            try clear p2
            try clear p78
            try clear ls
            obtain ⟨cR,cL,cM,eg,eh,ei,ej,aI,dz,ek,el,an,ao,aJ,al,ap,aq,aL,am,ar,au,rfl,HA,HK3,HO_497004,HO_497005,HO_513004,HO_513005,HO_529004,HO_529005,HO_540002,HO_540003,HO_551002,HO_551003,ab,ae,af,ak,ai,aF,HB⟩ := hrel
            cases gk with
            | zero => exact absurd HA.out (by simp [L_ChunkTakes.l1])
            | succ k3 =>
             have H := HA.out
             clear HA
             simp only [L_ChunkTakes.l1] at H
             by_cases li : cR < (aI.length : Int)
             ·
              rw [if_pos li] at H
              have nh : decide (cR < (aI.length : Int)) = true := zzn li
              clear li
              by_cases lL : 0 ≤ cR
              ·
               rw [if_pos lL] at H
               have qM : decide (0 ≤ cR) = true := zzn lL
               clear lL
               obtain ⟨lv,hy554⟩ : ∃ y_ : List Int,y_ = (aI.set (cR : Int).toNat 77) := ⟨_,rfl⟩
               replace H : (L_ChunkTakes.l1 k3 cA (wrap64 (cR + 1)) ay az aA aB aw ax aC av aD aM aN aO aP cL cM aQ aR aT aV aZ lv dz bg) = some r := by first | (rw [hy554]; with_reducible exact H) | (have fR := (zzi _ _).symm.trans H; rw [hy554]; with_reducible exact fR) | (have fR := (zzi _ _).symm.trans H; with_reducible exact fR) | with_reducible exact H | (rw [hy554]; exact H) | exact H
               have ni := zzk hy554
               clear hy554
               have H' := zzk H
               clear H
               have qN := eb.out
               have qO := cS.out
               have qP := ec.out
               have qQ := cT.out
               have pe := dy.out
               have pf := cK.out
               have pg := ed.out
               have ph := cU.out
               have pi := cW.out
               have pj := ef.out
               have nq : wr.cell? ⟨ad,0,none⟩ = some (.int .i64 aV) := (zi ai.out 0).trans rfl
               have nr : wr.cell? ⟨ad,1,none⟩ = some (.int .i64 aZ) := (zi ai.out 1).trans rfl
               have ns : wr.cell? ⟨ad,2,none⟩ = some (aL) := (zi ai.out 2).trans rfl
               have nt : wr.cell? ⟨ad,3,none⟩ = some (am) := (zi ai.out 3).trans rfl
               have nu : wr.cell? ⟨ad,4,none⟩ = some (.string bg) := (zi ai.out 4).trans rfl
               have nv := zm ai.out 0
               have nw := zm ai.out 1
               have nx := zm ai.out 2
               have ny := zm ai.out 3
               have nz := zm ai.out 4
               obtain ⟨qR,cD,eo104⟩ := zz HO_540002.out
               subst eo104
               have p97 : 0 ≤ (cR : Int) := of_decide_eq_true (by first | (with_reducible assumption) | assumption)
               have nc : (cR : Int) < ((aI.length : Int) : Int) := of_decide_eq_true (by first | (with_reducible assumption) | assumption)
               obtain ⟨go97,rf,eo97,nd,gl97,cl97,HG97⟩ := Kd.R_form HO_540002.out (by omega)
               (first | cases eo97 | (injection eo97 with ea_ en_ ec_; (first | subst ea_ | (injection ea_ with ea_; subst ea_)); subst ec_; clear en_))
               have GB97 := zzk nd
               have GG97 := zzk HG97
               clear nd gl97 HG97
               obtain ⟨hx97_0,hf97_0⟩ := Kd.R_celln 0 HO_540002.out (cR : Int) p97 nc
               replace p97 := eq_true p97
               replace nc := eq_true nc
               have HP105 := Kd.R_putg HO_540002.out (cR : Int) 77
               go_wp2_with (first | ((with_reducible refine gate_store (t := 3) (p := 111) rfl ?_); refine store_event (t := 3) (p := 111) (v := ?vo_w106) (w1 := (wr.setCell ⟨go97,(cR : Int).toNat,none⟩ (.int .i64 77))) ?hg ?ho ?hn ?hr ?_; (case ho => rfl); (case hg => rfl); (case hn => rfl); (case hr => first | (go_simp; done) | (go_simp; rfl)); intro lw hw; have hg : wr.grownBy lw (some go97) := (by rw [hw]; exact HP105.2); have hp_ : Kd.R (Kd.int .i64) 3 lw w.heap.size (fun k_ => some k_ ≠ (an : Value).ownBlock ∧ some k_ ≠ (ao : Value).ownBlock ∧ some k_ ≠ (aJ : Value).ownBlock ∧ some k_ ≠ (al : Value).ownBlock ∧ some k_ ≠ (ap : Value).ownBlock ∧ some k_ ≠ (aq : Value).ownBlock ∧ some k_ ≠ (am : Value).ownBlock ∧ some k_ ≠ (ar : Value).ownBlock ∧ some k_ ≠ (au : Value).ownBlock) (.slice (some ⟨go97,0,none⟩) aI.length cD) lv := (by rw [hw,ni.out]; exact HP105.1); clear HP105; have bR := zzk (Kd.R_after (v := (.slice (some ⟨go97,0,none⟩) aI.length cD)) (v1 := (.slice (some ⟨go97,0,none⟩) aI.length cD)) (ok := (fun k_ => some k_ ≠ (ao : Value).ownBlock ∧ some k_ ≠ (aJ : Value).ownBlock ∧ some k_ ≠ (al : Value).ownBlock ∧ some k_ ≠ (ap : Value).ownBlock ∧ some k_ ≠ (aq : Value).ownBlock ∧ some k_ ≠ (am : Value).ownBlock ∧ some k_ ≠ (ar : Value).ownBlock ∧ some k_ ≠ (au : Value).ownBlock)) (by (with_reducible repeat (first | apply zu | apply zt | apply zs)); exact zx HO_497004.out (fun _ hk => ⟨⟨hk.1,⟨hk.2.1,⟨hk.2.2.1,⟨hk.2.2.2.1,⟨hk.2.2.2.2.1,⟨hk.2.2.2.2.2.2.1,⟨hk.2.2.2.2.2.2.2.1,hk.2.2.2.2.2.2.2.2⟩⟩⟩⟩⟩⟩⟩,hk.2.2.2.2.2.1⟩)) hg (.inl rfl)); have bS := zzk (Kd.R_after (v := (.slice (some ⟨go97,0,none⟩) aI.length cD)) (v1 := (.slice (some ⟨go97,0,none⟩) aI.length cD)) (ok := (fun k_ => some k_ ≠ (an : Value).ownBlock ∧ some k_ ≠ (aJ : Value).ownBlock ∧ some k_ ≠ (al : Value).ownBlock ∧ some k_ ≠ (ap : Value).ownBlock ∧ some k_ ≠ (aq : Value).ownBlock ∧ some k_ ≠ (am : Value).ownBlock ∧ some k_ ≠ (ar : Value).ownBlock ∧ some k_ ≠ (au : Value).ownBlock)) (by (with_reducible repeat (first | apply zu | apply zt | apply zs)); exact zx HO_497005.out (fun _ hk => ⟨⟨hk.1,⟨hk.2.1,⟨hk.2.2.1,⟨hk.2.2.2.1,⟨hk.2.2.2.2.1,⟨hk.2.2.2.2.2.2.1,⟨hk.2.2.2.2.2.2.2.1,hk.2.2.2.2.2.2.2.2⟩⟩⟩⟩⟩⟩⟩,hk.2.2.2.2.2.1⟩)) hg (.inl rfl)); have bY := zzk (Kd.R_after (v := (.slice (some ⟨go97,0,none⟩) aI.length cD)) (v1 := (.slice (some ⟨go97,0,none⟩) aI.length cD)) (ok := (fun k_ => some k_ ≠ (an : Value).ownBlock ∧ some k_ ≠ (ao : Value).ownBlock ∧ some k_ ≠ (al : Value).ownBlock ∧ some k_ ≠ (ap : Value).ownBlock ∧ some k_ ≠ (aq : Value).ownBlock ∧ some k_ ≠ (am : Value).ownBlock ∧ some k_ ≠ (ar : Value).ownBlock ∧ some k_ ≠ (au : Value).ownBlock)) (by (with_reducible repeat (first | apply zu | apply zt | apply zs)); exact zx HO_513004.out (fun _ hk => ⟨⟨hk.1,⟨hk.2.1,⟨hk.2.2.1,⟨hk.2.2.2.1,⟨hk.2.2.2.2.1,⟨hk.2.2.2.2.2.2.1,⟨hk.2.2.2.2.2.2.2.1,hk.2.2.2.2.2.2.2.2⟩⟩⟩⟩⟩⟩⟩,hk.2.2.2.2.2.1⟩)) hg (.inl rfl)); have bZ := zzk (Kd.R_after (v := (.slice (some ⟨go97,0,none⟩) aI.length cD)) (v1 := (.slice (some ⟨go97,0,none⟩) aI.length cD)) (ok := (fun k_ => some k_ ≠ (an : Value).ownBlock ∧ some k_ ≠ (ao : Value).ownBlock ∧ some k_ ≠ (aJ : Value).ownBlock ∧ some k_ ≠ (ap : Value).ownBlock ∧ some k_ ≠ (aq : Value).ownBlock ∧ some k_ ≠ (am : Value).ownBlock ∧ some k_ ≠ (ar : Value).ownBlock ∧ some k_ ≠ (au : Value).ownBlock)) (by (with_reducible repeat (first | apply zu | apply zt | apply zs)); exact zx HO_513005.out (fun _ hk => ⟨⟨hk.1,⟨hk.2.1,⟨hk.2.2.1,⟨hk.2.2.2.1,⟨hk.2.2.2.2.1,⟨hk.2.2.2.2.2.2.1,⟨hk.2.2.2.2.2.2.2.1,hk.2.2.2.2.2.2.2.2⟩⟩⟩⟩⟩⟩⟩,hk.2.2.2.2.2.1⟩)) hg (.inl rfl)); have ch := zzk (Kd.R_after (v := (.slice (some ⟨go97,0,none⟩) aI.length cD)) (v1 := (.slice (some ⟨go97,0,none⟩) aI.length cD)) (ok := (fun k_ => some k_ ≠ (an : Value).ownBlock ∧ some k_ ≠ (ao : Value).ownBlock ∧ some k_ ≠ (aJ : Value).ownBlock ∧ some k_ ≠ (al : Value).ownBlock ∧ some k_ ≠ (aq : Value).ownBlock ∧ some k_ ≠ (am : Value).ownBlock ∧ some k_ ≠ (ar : Value).ownBlock ∧ some k_ ≠ (au : Value).ownBlock)) (by (with_reducible repeat (first | apply zu | apply zt | apply zs)); exact zx HO_529004.out (fun _ hk => ⟨⟨hk.1,⟨hk.2.1,⟨hk.2.2.1,⟨hk.2.2.2.1,⟨hk.2.2.2.2.1,⟨hk.2.2.2.2.2.2.1,⟨hk.2.2.2.2.2.2.2.1,hk.2.2.2.2.2.2.2.2⟩⟩⟩⟩⟩⟩⟩,hk.2.2.2.2.2.1⟩)) hg (.inl rfl)); have ci := zzk (Kd.R_after (v := (.slice (some ⟨go97,0,none⟩) aI.length cD)) (v1 := (.slice (some ⟨go97,0,none⟩) aI.length cD)) (ok := (fun k_ => some k_ ≠ (an : Value).ownBlock ∧ some k_ ≠ (ao : Value).ownBlock ∧ some k_ ≠ (aJ : Value).ownBlock ∧ some k_ ≠ (al : Value).ownBlock ∧ some k_ ≠ (ap : Value).ownBlock ∧ some k_ ≠ (am : Value).ownBlock ∧ some k_ ≠ (ar : Value).ownBlock ∧ some k_ ≠ (au : Value).ownBlock)) (by (with_reducible repeat (first | apply zu | apply zt | apply zs)); exact zx HO_529005.out (fun _ hk => ⟨⟨hk.1,⟨hk.2.1,⟨hk.2.2.1,⟨hk.2.2.2.1,⟨hk.2.2.2.2.1,⟨hk.2.2.2.2.2.2.1,⟨hk.2.2.2.2.2.2.2.1,hk.2.2.2.2.2.2.2.2⟩⟩⟩⟩⟩⟩⟩,hk.2.2.2.2.2.1⟩)) hg (.inl rfl)); have cj := zzk (hp_); have cn := zzk (Kd.R_after (v := (.slice (some ⟨go97,0,none⟩) aI.length cD)) (v1 := (.slice (some ⟨go97,0,none⟩) aI.length cD)) (ok := (fun k_ => some k_ ≠ (an : Value).ownBlock ∧ some k_ ≠ (ao : Value).ownBlock ∧ some k_ ≠ (aJ : Value).ownBlock ∧ some k_ ≠ (al : Value).ownBlock ∧ some k_ ≠ (ap : Value).ownBlock ∧ some k_ ≠ (aq : Value).ownBlock ∧ some k_ ≠ (ar : Value).ownBlock ∧ some k_ ≠ (au : Value).ownBlock)) (by (with_reducible repeat (first | apply zu | apply zt | apply zs)); exact zx HO_540003.out (fun _ hk => ⟨⟨hk.1,⟨hk.2.1,⟨hk.2.2.1,⟨hk.2.2.2.1,⟨hk.2.2.2.2.1,⟨hk.2.2.2.2.2.1,⟨hk.2.2.2.2.2.2.2.1,hk.2.2.2.2.2.2.2.2⟩⟩⟩⟩⟩⟩⟩,hk.2.2.2.2.2.2.1⟩)) hg (.inl rfl)); have co := zzk (Kd.R_after (v := (.slice (some ⟨go97,0,none⟩) aI.length cD)) (v1 := (.slice (some ⟨go97,0,none⟩) aI.length cD)) (ok := (fun k_ => some k_ ≠ (an : Value).ownBlock ∧ some k_ ≠ (ao : Value).ownBlock ∧ some k_ ≠ (aJ : Value).ownBlock ∧ some k_ ≠ (al : Value).ownBlock ∧ some k_ ≠ (ap : Value).ownBlock ∧ some k_ ≠ (aq : Value).ownBlock ∧ some k_ ≠ (am : Value).ownBlock ∧ some k_ ≠ (au : Value).ownBlock)) (by (with_reducible repeat (first | apply zu | apply zt | apply zs)); exact zx HO_551002.out (fun _ hk => ⟨⟨hk.1,⟨hk.2.1,⟨hk.2.2.1,⟨hk.2.2.2.1,⟨hk.2.2.2.2.1,⟨hk.2.2.2.2.2.1,⟨hk.2.2.2.2.2.2.2.1,hk.2.2.2.2.2.2.2.2⟩⟩⟩⟩⟩⟩⟩,hk.2.2.2.2.2.2.1⟩)) hg (.inl rfl)); have cx := zzk (Kd.R_after (v := (.slice (some ⟨go97,0,none⟩) aI.length cD)) (v1 := (.slice (some ⟨go97,0,none⟩) aI.length cD)) (ok := (fun k_ => some k_ ≠ (an : Value).ownBlock ∧ some k_ ≠ (ao : Value).ownBlock ∧ some k_ ≠ (aJ : Value).ownBlock ∧ some k_ ≠ (al : Value).ownBlock ∧ some k_ ≠ (ap : Value).ownBlock ∧ some k_ ≠ (aq : Value).ownBlock ∧ some k_ ≠ (am : Value).ownBlock ∧ some k_ ≠ (ar : Value).ownBlock)) (by (with_reducible repeat (first | apply zu | apply zt | apply zs)); exact zx HO_551003.out (fun _ hk => ⟨⟨hk.1,⟨hk.2.1,⟨hk.2.2.1,⟨hk.2.2.2.1,⟨hk.2.2.2.2.1,⟨hk.2.2.2.2.2.1,⟨hk.2.2.2.2.2.2.2.1,hk.2.2.2.2.2.2.2.2⟩⟩⟩⟩⟩⟩⟩,hk.2.2.2.2.2.2.1⟩)) hg (.inl rfl)); have cd := zzk (blk_grown (g := ah) (o := .cells #[.int .i64 ay,.int .i64 az,.int .i64 aA,.int .i64 aB,.slice bz aw.length bA,.slice bB ax.length bC,.int .i64 aC,.string av,.bool aD] 34 (0,0)) (by (with_reducible repeat (first | refine zj ?_ _ | refine zl ?_ | refine zk ?_ _)); exact ab.out) hg (Kd.R_ne HO_540002.out ab.out (by decide))); have ce := zzk (blk_grown (g := ag) (o := .cells #[.int .i64 aM,.int .i64 aN,.int .i64 aO,.int .i64 aP,an,ao,.int .i64 aQ,.string aR,.bool aT] 34 (0,0)) (by (with_reducible repeat (first | refine zj ?_ _ | refine zl ?_ | refine zk ?_ _)); exact ae.out) hg (Kd.R_ne HO_540002.out ae.out (by decide))); have cf := zzk (blk_grown (g := ac) (o := .cells #[.int .i64 aU,.int .i64 aY,.int .i64 bd,.int .i64 be,aJ,al,.int .i64 bi,.string bk,.bool bm] 34 (0,0)) (by (with_reducible repeat (first | refine zj ?_ _ | refine zl ?_ | refine zk ?_ _)); exact af.out) hg (Kd.R_ne HO_540002.out af.out (by decide))); have cl := zzk (blk_grown (g := aa) (o := .cells #[.int .i64 bo,.int .i64 bq,.int .i64 bu,.int .i64 bw,ap,aq,.int .i64 bD,.string bH,.bool bN] 34 (0,0)) (by (with_reducible repeat (first | refine zj ?_ _ | refine zl ?_ | refine zk ?_ _)); exact ak.out) hg (Kd.R_ne HO_540002.out ak.out (by decide))); have cu := zzk (blk_grown (g := ad) (o := .cells #[.int .i64 aV,.int .i64 aZ,.slice (some ⟨go97,0,none⟩) aI.length cD,am,.string bg] 26 (0,0)) (by (with_reducible repeat (first | refine zj ?_ _ | refine zl ?_ | refine zk ?_ _)); exact ai.out) hg (Kd.R_ne HO_540002.out ai.out (by decide))); have cv := zzk (blk_grown (g := aj) (o := .cells #[.int .i64 ck,.int .i64 cm,ar,au,.string cz] 26 (0,0)) (by (with_reducible repeat (first | refine zj ?_ _ | refine zl ?_ | refine zk ?_ _)); exact aF.out) hg (Kd.R_ne HO_540002.out aF.out (by decide))); have cF := zzk ((by rw [hw]; exact Zn (HB.out) GB97.out : Below w.heap.size w lw)); clear HO_497004; clear HO_497005; clear HO_513004; clear HO_513005; clear HO_529004; clear HO_529005; clear HO_540002; clear HO_540003; clear HO_551002; clear HO_551003; clear ab; clear ae; clear af; clear ak; clear ai; clear aF; clear HB; have HO_497004 := bR; have HO_497005 := bS; have HO_513004 := bY; have HO_513005 := bZ; have HO_529004 := ch; have HO_529005 := ci; have HO_540002 := cj; have HO_540003 := cn; have HO_551002 := co; have HO_551003 := cx; have ab := cd; have ae := ce; have af := cf; have ak := cl; have ai := cu; have aF := cv; have HB := cF; clear bR bS bY bZ ch ci cj cn co cx cd ce cf cl cu cv cF; clear hg hw hp_))
               go_roundg k3
               case measure => have := HJ3.out; have := HK2.out; have := HK3.out; omega
               case rel => exact ⟨(wrap64 (cR + 1)),(cL),(cM),(eg),(eh),(ei),(ej),(lv),(dz),(ek),(el),(an),(ao),(aJ),(al),(ap),(aq),(.slice (some ⟨go97,0,none⟩) aI.length cD),(am),(ar),(au),(by first | rfl | (simp; done) | (simp [*]; done)),H',⟨by have := HJ3.out; have := HK2.out; have := HK3.out; omega⟩,⟨by (with_reducible repeat (first | apply zu | apply zt | apply zs)); exact zx HO_497004.out (fun _ hk => ⟨hk.1.1,⟨hk.1.2.1,⟨hk.1.2.2.1,⟨hk.1.2.2.2.1,⟨hk.1.2.2.2.2.1,⟨hk.2,⟨hk.1.2.2.2.2.2.1,⟨hk.1.2.2.2.2.2.2.1,hk.1.2.2.2.2.2.2.2⟩⟩⟩⟩⟩⟩⟩⟩)⟩,⟨by (with_reducible repeat (first | apply zu | apply zt | apply zs)); exact zx HO_497005.out (fun _ hk => ⟨hk.1.1,⟨hk.1.2.1,⟨hk.1.2.2.1,⟨hk.1.2.2.2.1,⟨hk.1.2.2.2.2.1,⟨hk.2,⟨hk.1.2.2.2.2.2.1,⟨hk.1.2.2.2.2.2.2.1,hk.1.2.2.2.2.2.2.2⟩⟩⟩⟩⟩⟩⟩⟩)⟩,⟨by (with_reducible repeat (first | apply zu | apply zt | apply zs)); exact zx HO_513004.out (fun _ hk => ⟨hk.1.1,⟨hk.1.2.1,⟨hk.1.2.2.1,⟨hk.1.2.2.2.1,⟨hk.1.2.2.2.2.1,⟨hk.2,⟨hk.1.2.2.2.2.2.1,⟨hk.1.2.2.2.2.2.2.1,hk.1.2.2.2.2.2.2.2⟩⟩⟩⟩⟩⟩⟩⟩)⟩,⟨by (with_reducible repeat (first | apply zu | apply zt | apply zs)); exact zx HO_513005.out (fun _ hk => ⟨hk.1.1,⟨hk.1.2.1,⟨hk.1.2.2.1,⟨hk.1.2.2.2.1,⟨hk.1.2.2.2.2.1,⟨hk.2,⟨hk.1.2.2.2.2.2.1,⟨hk.1.2.2.2.2.2.2.1,hk.1.2.2.2.2.2.2.2⟩⟩⟩⟩⟩⟩⟩⟩)⟩,⟨by (with_reducible repeat (first | apply zu | apply zt | apply zs)); exact zx HO_529004.out (fun _ hk => ⟨hk.1.1,⟨hk.1.2.1,⟨hk.1.2.2.1,⟨hk.1.2.2.2.1,⟨hk.1.2.2.2.2.1,⟨hk.2,⟨hk.1.2.2.2.2.2.1,⟨hk.1.2.2.2.2.2.2.1,hk.1.2.2.2.2.2.2.2⟩⟩⟩⟩⟩⟩⟩⟩)⟩,⟨by (with_reducible repeat (first | apply zu | apply zt | apply zs)); exact zx HO_529005.out (fun _ hk => ⟨hk.1.1,⟨hk.1.2.1,⟨hk.1.2.2.1,⟨hk.1.2.2.2.1,⟨hk.1.2.2.2.2.1,⟨hk.2,⟨hk.1.2.2.2.2.2.1,⟨hk.1.2.2.2.2.2.2.1,hk.1.2.2.2.2.2.2.2⟩⟩⟩⟩⟩⟩⟩⟩)⟩,⟨by (with_reducible repeat (first | apply zu | apply zt | apply zs)); exact HO_540002.out⟩,⟨by (with_reducible repeat (first | apply zu | apply zt | apply zs)); exact zx HO_540003.out (fun _ hk => ⟨hk.1.1,⟨hk.1.2.1,⟨hk.1.2.2.1,⟨hk.1.2.2.2.1,⟨hk.1.2.2.2.2.1,⟨hk.1.2.2.2.2.2.1,⟨hk.2,⟨hk.1.2.2.2.2.2.2.1,hk.1.2.2.2.2.2.2.2⟩⟩⟩⟩⟩⟩⟩⟩)⟩,⟨by (with_reducible repeat (first | apply zu | apply zt | apply zs)); exact zx HO_551002.out (fun _ hk => ⟨hk.1.1,⟨hk.1.2.1,⟨hk.1.2.2.1,⟨hk.1.2.2.2.1,⟨hk.1.2.2.2.2.1,⟨hk.1.2.2.2.2.2.1,⟨hk.2,⟨hk.1.2.2.2.2.2.2.1,hk.1.2.2.2.2.2.2.2⟩⟩⟩⟩⟩⟩⟩⟩)⟩,⟨by (with_reducible repeat (first | apply zu | apply zt | apply zs)); exact zx HO_551003.out (fun _ hk => ⟨hk.1.1,⟨hk.1.2.1,⟨hk.1.2.2.1,⟨hk.1.2.2.2.1,⟨hk.1.2.2.2.2.1,⟨hk.1.2.2.2.2.2.1,⟨hk.2,⟨hk.1.2.2.2.2.2.2.1,hk.1.2.2.2.2.2.2.2⟩⟩⟩⟩⟩⟩⟩⟩)⟩,⟨by (with_reducible repeat (first | refine zj ?_ _ | refine zl ?_ | refine zk ?_ _)); exact ab.out⟩,⟨by (with_reducible repeat (first | refine zj ?_ _ | refine zl ?_ | refine zk ?_ _)); exact ae.out⟩,⟨by (with_reducible repeat (first | refine zj ?_ _ | refine zl ?_ | refine zk ?_ _)); exact af.out⟩,⟨by (with_reducible repeat (first | refine zj ?_ _ | refine zl ?_ | refine zk ?_ _)); exact ak.out⟩,⟨by (with_reducible repeat (first | refine zj ?_ _ | refine zl ?_ | refine zk ?_ _)); exact ai.out⟩,⟨by (with_reducible repeat (first | refine zj ?_ _ | refine zl ?_ | refine zk ?_ _)); exact aF.out⟩,⟨by repeat (first | (with_reducible first | exact HB.out | apply Zq | apply Zp | apply Zo | refine Zn ?_ aS.out | refine Zn ?_ br.out | refine Zn ?_ ca.out | refine Zn ?_ cw.out | refine Zn ?_ cX.out | refine Zn ?_ dA.out) | exact HB.out)⟩⟩
              ·
               rw [if_neg lL] at H
               exact absurd H (by simp)
             ·
              rw [if_neg li] at H
              have nh : decide (cR < (aI.length : Int)) = false := zzo li
              clear li
              replace H := Option.bind_eq_some_iff.mp H
              obtain ⟨lj,lM,H⟩ := H
              replace H : (if lj = true then (if cA = true then ((r16_Same.f k3 ay az aA aB aw ax aC av aD aM aN aO aP cL cM aQ aR aT).bind fun dI => (some dI)) else (none)) else (none)) = some r := H
              have nA := zzk lM
              clear lM
              by_cases ln : lj = true
              ·
               subst ln
               have H1 : (if cA = true then ((r16_Same.f k3 ay az aA aB aw ax aC av aD aM aN aO aP cL cM aQ aR aT).bind fun dI => (some dI)) else (none)) = some r := by rw [if_pos rfl] at H; exact H
               clear H
               have H := H1
               clear H1
               by_cases lo : cA = true
               ·
                subst lo
                have H1 : ((r16_Same.f k3 ay az aA aB aw ax aC av aD aM aN aO aP cL cM aQ aR aT).bind fun dI => (some dI)) = some r := by rw [if_pos rfl] at H; exact H
                clear H
                have H := H1
                clear H1
                replace H := Option.bind_eq_some_iff.mp H
                obtain ⟨dI,lN,H⟩ := H
                replace H : (some dI) = some r := H
                have nB := zzk lN
                clear lN
                obtain rfl := zzu H
                have pk := eb.out
                have pl := cS.out
                have pm := ec.out
                have pn := cT.out
                have po := dy.out
                have pp := cK.out
                have pq := ed.out
                have pr := cU.out
                have ps := cW.out
                have pt := ef.out
                have nC : wr.cell? ⟨ad,0,none⟩ = some (.int .i64 aV) := (zi ai.out 0).trans rfl
                have nD : wr.cell? ⟨ad,1,none⟩ = some (.int .i64 aZ) := (zi ai.out 1).trans rfl
                have nE : wr.cell? ⟨ad,2,none⟩ = some (aL) := (zi ai.out 2).trans rfl
                have nF : wr.cell? ⟨ad,3,none⟩ = some (am) := (zi ai.out 3).trans rfl
                have nG : wr.cell? ⟨ad,4,none⟩ = some (.string bg) := (zi ai.out 4).trans rfl
                have nH := zm ai.out 0
                have nI := zm ai.out 1
                have nJ := zm ai.out 2
                have nK := zm ai.out 3
                have nL := zm ai.out 4
                obtain ⟨lO,lP,eo117⟩ := zz HO_540002.out
                subst eo117
                go_wp2_with (first | ((with_reducible refine zza (f := 26) rfl ?_); refine zzd (some 112) rfl rfl Try.func26 (by kernel_rfl) rfl #[] rfl (by (try simp only [zd,ze,zf]); first | done | rfl | (simp only [zg,zh]; rfl)) ?_; (with_reducible refine (L_takes.calls k3  true _ nA.out).mono ?_); rintro e dh ⟨rfl,hb⟩; refine ⟨_,rfl,?_⟩; have bR := zzk (zv (by (with_reducible repeat (first | apply zu | apply zt | apply zs)); exact HO_497004.out) hb); have bS := zzk (zv (by (with_reducible repeat (first | apply zu | apply zt | apply zs)); exact HO_497005.out) hb); have bY := zzk (zv (by (with_reducible repeat (first | apply zu | apply zt | apply zs)); exact HO_513004.out) hb); have bZ := zzk (zv (by (with_reducible repeat (first | apply zu | apply zt | apply zs)); exact HO_513005.out) hb); have ch := zzk (zv (by (with_reducible repeat (first | apply zu | apply zt | apply zs)); exact HO_529004.out) hb); have ci := zzk (zv (by (with_reducible repeat (first | apply zu | apply zt | apply zs)); exact HO_529005.out) hb); have cj := zzk (zv (by (with_reducible repeat (first | apply zu | apply zt | apply zs)); exact HO_540002.out) hb); have cn := zzk (zv (by (with_reducible repeat (first | apply zu | apply zt | apply zs)); exact HO_540003.out) hb); have co := zzk (zv (by (with_reducible repeat (first | apply zu | apply zt | apply zs)); exact HO_551002.out) hb); have cx := zzk (zv (by (with_reducible repeat (first | apply zu | apply zt | apply zs)); exact HO_551003.out) hb); have cd := zzk (zo (g := ah) (o := .cells #[.int .i64 ay,.int .i64 az,.int .i64 aA,.int .i64 aB,.slice bz aw.length bA,.slice bB ax.length bC,.int .i64 aC,.string av,.bool aD] 34 (0,0)) (by (with_reducible repeat (first | refine zj ?_ _ | refine zl ?_ | refine zk ?_ _)); exact ab.out) hb); have ce := zzk (zo (g := ag) (o := .cells #[.int .i64 aM,.int .i64 aN,.int .i64 aO,.int .i64 aP,an,ao,.int .i64 aQ,.string aR,.bool aT] 34 (0,0)) (by (with_reducible repeat (first | refine zj ?_ _ | refine zl ?_ | refine zk ?_ _)); exact ae.out) hb); have cf := zzk (zo (g := ac) (o := .cells #[.int .i64 aU,.int .i64 aY,.int .i64 bd,.int .i64 be,aJ,al,.int .i64 bi,.string bk,.bool bm] 34 (0,0)) (by (with_reducible repeat (first | refine zj ?_ _ | refine zl ?_ | refine zk ?_ _)); exact af.out) hb); have cl := zzk (zo (g := aa) (o := .cells #[.int .i64 bo,.int .i64 bq,.int .i64 bu,.int .i64 bw,ap,aq,.int .i64 bD,.string bH,.bool bN] 34 (0,0)) (by (with_reducible repeat (first | refine zj ?_ _ | refine zl ?_ | refine zk ?_ _)); exact ak.out) hb); have cu := zzk (zo (g := ad) (o := .cells #[.int .i64 aV,.int .i64 aZ,.slice lO aI.length lP,am,.string bg] 26 (0,0)) (by (with_reducible repeat (first | refine zj ?_ _ | refine zl ?_ | refine zk ?_ _)); exact ai.out) hb); have cv := zzk (zo (g := aj) (o := .cells #[.int .i64 ck,.int .i64 cm,ar,au,.string cz] 26 (0,0)) (by (with_reducible repeat (first | refine zj ?_ _ | refine zl ?_ | refine zk ?_ _)); exact aF.out) hb); have cF := zzk (Zs (by repeat (first | (with_reducible first | exact HB.out | apply Zq | apply Zp | apply Zo | refine Zn ?_ aS.out | refine Zn ?_ br.out | refine Zn ?_ ca.out | refine Zn ?_ cw.out | refine Zn ?_ cX.out | refine Zn ?_ dA.out) | exact HB.out)) hb); clear HO_497004; clear HO_497005; clear HO_513004; clear HO_513005; clear HO_529004; clear HO_529005; clear HO_540002; clear HO_540003; clear HO_551002; clear HO_551003; clear ab; clear ae; clear af; clear ak; clear ai; clear aF; clear HB; have HO_497004 := bR; have HO_497005 := bS; have HO_513004 := bY; have HO_513005 := bZ; have HO_529004 := ch; have HO_529005 := ci; have HO_540002 := cj; have HO_540003 := cn; have HO_551002 := co; have HO_551003 := cx; have ab := cd; have ae := ce; have af := cf; have ak := cl; have ai := cu; have aF := cv; have HB := cF; clear bR bS bY bZ ch ci cj cn co cx cd ce cf cl cu cv cF; (try clear hb); (try clear hb2); (try clear hk); (try clear hi); have pu := cE.out; have pv := eS.out; have pw := cp.out; have px := dB.out; have py := cG.out; have pz := eT.out; have pA := dj.out; have pB := eV.out; have nM : dh.cell? ⟨ah,0,none⟩ = some (.int .i64 ay) := (zi ab.out 0).trans rfl; have nN : dh.cell? ⟨ah,1,none⟩ = some (.int .i64 az) := (zi ab.out 1).trans rfl; have nO : dh.cell? ⟨ah,2,none⟩ = some (.int .i64 aA) := (zi ab.out 2).trans rfl; have nP : dh.cell? ⟨ah,3,none⟩ = some (.int .i64 aB) := (zi ab.out 3).trans rfl; have nQ : dh.cell? ⟨ah,4,none⟩ = some (.slice bz aw.length bA) := (zi ab.out 4).trans rfl; have nR : dh.cell? ⟨ah,5,none⟩ = some (.slice bB ax.length bC) := (zi ab.out 5).trans rfl; have nS : dh.cell? ⟨ah,6,none⟩ = some (.int .i64 aC) := (zi ab.out 6).trans rfl; have nT : dh.cell? ⟨ah,7,none⟩ = some (.string av) := (zi ab.out 7).trans rfl; have nU : dh.cell? ⟨ah,8,none⟩ = some (.bool aD) := (zi ab.out 8).trans rfl; have nV := zm ab.out 0; have nW := zm ab.out 1; have nX := zm ab.out 2; have nY := zm ab.out 3; have nZ := zm ab.out 4; have oa := zm ab.out 5; have ob := zm ab.out 6; have oc := zm ab.out 7; have od := zm ab.out 8; have pC := cq.out; have pD := dC.out; have pE := cH.out; have pF := eU.out; have pG := dk.out; have pH := eW.out; have oe : dh.cell? ⟨ag,0,none⟩ = some (.int .i64 aM) := (zi ae.out 0).trans rfl; have og : dh.cell? ⟨ag,1,none⟩ = some (.int .i64 aN) := (zi ae.out 1).trans rfl; have oh : dh.cell? ⟨ag,2,none⟩ = some (.int .i64 aO) := (zi ae.out 2).trans rfl; have oi : dh.cell? ⟨ag,3,none⟩ = some (.int .i64 aP) := (zi ae.out 3).trans rfl; have oj : dh.cell? ⟨ag,4,none⟩ = some (an) := (zi ae.out 4).trans rfl; have ol : dh.cell? ⟨ag,5,none⟩ = some (ao) := (zi ae.out 5).trans rfl; have om : dh.cell? ⟨ag,6,none⟩ = some (.int .i64 aQ) := (zi ae.out 6).trans rfl; have oo : dh.cell? ⟨ag,7,none⟩ = some (.string aR) := (zi ae.out 7).trans rfl; have op : dh.cell? ⟨ag,8,none⟩ = some (.bool aT) := (zi ae.out 8).trans rfl; have oq := zm ae.out 0; have os := zm ae.out 1; have ot := zm ae.out 2; have ou := zm ae.out 3; have ov := zm ae.out 4; have ow := zm ae.out 5; have ox := zm ae.out 6; have oy := zm ae.out 7; have oz := zm ae.out 8; obtain ⟨nj,nk,eo128⟩ := zz HO_497004.out; subst eo128; obtain ⟨nl,nm,eo129⟩ := zz HO_497005.out; subst eo129) | (go_at_call 16; (with_reducible refine (r16_Same.calls k3 ay az aA aB _ _ aw _ _ ax aC av aD aM aN aO aP _ _ cL _ _ cM aQ aR aT dI _ ?side1 ?side2 ?side3 ?side4 ?side5 ?side6 ?side7 ?side8 nB.out).mono ?_); (case side1 => repeat (first | exact (Zm ev.out HB.out) | (with_reducible refine Zk ?_ _) | (with_reducible refine Zj ?_ _) | (with_reducible refine Zl ?_))); (case side2 => exact ew.out); (case side3 => repeat (first | exact (Zm ex.out HB.out) | (with_reducible refine Zk ?_ _) | (with_reducible refine Zj ?_ _) | (with_reducible refine Zl ?_))); (case side4 => exact ey.out); (case side5 => repeat (first | exact (zw HO_497004.out).2.2 | (with_reducible refine Zk ?_ _) | (with_reducible refine Zj ?_ _) | (with_reducible refine Zl ?_))); (case side6 => exact (zw HO_497004.out).2.1); (case side7 => repeat (first | exact (zw HO_497005.out).2.2 | (with_reducible refine Zk ?_ _) | (with_reducible refine Zj ?_ _) | (with_reducible refine Zl ?_))); (case side8 => exact (zw HO_497005.out).2.1); rintro e rg ⟨rfl,hb⟩; have bR := zzk (zv (by (with_reducible repeat (first | apply zu | apply zt | apply zs)); exact HO_497004.out) hb); have bS := zzk (zv (by (with_reducible repeat (first | apply zu | apply zt | apply zs)); exact HO_497005.out) hb); have bY := zzk (zv (by (with_reducible repeat (first | apply zu | apply zt | apply zs)); exact HO_513004.out) hb); have bZ := zzk (zv (by (with_reducible repeat (first | apply zu | apply zt | apply zs)); exact HO_513005.out) hb); have ch := zzk (zv (by (with_reducible repeat (first | apply zu | apply zt | apply zs)); exact HO_529004.out) hb); have ci := zzk (zv (by (with_reducible repeat (first | apply zu | apply zt | apply zs)); exact HO_529005.out) hb); have cj := zzk (zv (by (with_reducible repeat (first | apply zu | apply zt | apply zs)); exact HO_540002.out) hb); have cn := zzk (zv (by (with_reducible repeat (first | apply zu | apply zt | apply zs)); exact HO_540003.out) hb); have co := zzk (zv (by (with_reducible repeat (first | apply zu | apply zt | apply zs)); exact HO_551002.out) hb); have cx := zzk (zv (by (with_reducible repeat (first | apply zu | apply zt | apply zs)); exact HO_551003.out) hb); have cd := zzk (zo (g := ah) (o := .cells #[.int .i64 ay,.int .i64 az,.int .i64 aA,.int .i64 aB,.slice bz aw.length bA,.slice bB ax.length bC,.int .i64 aC,.string av,.bool aD] 34 (0,0)) (by (with_reducible repeat (first | refine zj ?_ _ | refine zl ?_ | refine zk ?_ _)); exact ab.out) hb); have ce := zzk (zo (g := ag) (o := .cells #[.int .i64 aM,.int .i64 aN,.int .i64 aO,.int .i64 aP,.slice nj cL.length nk,.slice nl cM.length nm,.int .i64 aQ,.string aR,.bool aT] 34 (0,0)) (by (with_reducible repeat (first | refine zj ?_ _ | refine zl ?_ | refine zk ?_ _)); exact ae.out) hb); have cf := zzk (zo (g := ac) (o := .cells #[.int .i64 aU,.int .i64 aY,.int .i64 bd,.int .i64 be,aJ,al,.int .i64 bi,.string bk,.bool bm] 34 (0,0)) (by (with_reducible repeat (first | refine zj ?_ _ | refine zl ?_ | refine zk ?_ _)); exact af.out) hb); have cl := zzk (zo (g := aa) (o := .cells #[.int .i64 bo,.int .i64 bq,.int .i64 bu,.int .i64 bw,ap,aq,.int .i64 bD,.string bH,.bool bN] 34 (0,0)) (by (with_reducible repeat (first | refine zj ?_ _ | refine zl ?_ | refine zk ?_ _)); exact ak.out) hb); have cu := zzk (zo (g := ad) (o := .cells #[.int .i64 aV,.int .i64 aZ,.slice lO aI.length lP,am,.string bg] 26 (0,0)) (by (with_reducible repeat (first | refine zj ?_ _ | refine zl ?_ | refine zk ?_ _)); exact ai.out) hb); have cv := zzk (zo (g := aj) (o := .cells #[.int .i64 ck,.int .i64 cm,ar,au,.string cz] 26 (0,0)) (by (with_reducible repeat (first | refine zj ?_ _ | refine zl ?_ | refine zk ?_ _)); exact aF.out) hb); have cF := zzk (Zs (by repeat (first | (with_reducible first | exact HB.out | apply Zq | apply Zp | apply Zo | refine Zn ?_ aS.out | refine Zn ?_ br.out | refine Zn ?_ ca.out | refine Zn ?_ cw.out | refine Zn ?_ cX.out | refine Zn ?_ dA.out) | exact HB.out)) hb); clear HO_497004; clear HO_497005; clear HO_513004; clear HO_513005; clear HO_529004; clear HO_529005; clear HO_540002; clear HO_540003; clear HO_551002; clear HO_551003; clear ab; clear ae; clear af; clear ak; clear ai; clear aF; clear HB; have HO_497004 := bR; have HO_497005 := bS; have HO_513004 := bY; have HO_513005 := bZ; have HO_529004 := ch; have HO_529005 := ci; have HO_540002 := cj; have HO_540003 := cn; have HO_551002 := co; have HO_551003 := cx; have ab := cd; have ae := ce; have af := cf; have ak := cl; have ai := cu; have aF := cv; have HB := cF; clear bR bS bY bZ ch ci cj cn co cx cd ce cf cl cu cv cF; (try clear hb); (try clear hb2); (try clear hk); (try clear hi)))
                go_ret
                exact ⟨by first | rfl | (simp [zzl,zzm] <;> rfl) | (simp [*,zzl,zzm] <;> rfl),by repeat (first | (with_reducible first | exact HB.out | apply Zq | apply Zp | apply Zo | refine Zn ?_ aS.out | refine Zn ?_ br.out | refine Zn ?_ ca.out | refine Zn ?_ cw.out | refine Zn ?_ cX.out | refine Zn ?_ dA.out) | exact HB.out)⟩
               ·
                replace lo := Bool.eq_false_iff.mpr lo
                subst lo
                have H1 : (none) = some r := by rw [if_neg (show ¬ (false = true) by decide)] at H; exact H
                clear H
                have H := H1
                clear H1
                exact absurd H (by simp)
              ·
               replace ln := Bool.eq_false_iff.mpr ln
               subst ln
               have H1 : (none) = some r := by rw [if_neg (show ¬ (false = true) by decide)] at H; exact H
               clear H
               have H := H1
               clear H1
               exact absurd H (by simp)
       ·
        rw [if_neg fK] at H
        exact absurd H (by simp)
      ·
       replace fU := Bool.eq_false_iff.mpr fU
       subst fU
       have H1 : (none) = some r := by rw [if_neg (show ¬ (false = true) by decide)] at H; exact H
       clear H
       have H := H1
       clear H1
       exact absurd H (by simp)
     ·
      rw [if_neg eR] at H
      exact absurd H (by simp)
    ·
     rw [if_neg fJ] at H
     exact absurd H (by simp)
end Go.Proofs.Ytpagkmdlmhdenaa.PAll
