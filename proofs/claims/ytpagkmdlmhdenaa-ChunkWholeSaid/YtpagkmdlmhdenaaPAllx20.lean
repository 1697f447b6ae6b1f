-- Written by a program of the session.
import Derived.Test.YtpagkmdlmhdenaaAlAll
import Derived.Test.YtpagkmdlmhdenaaPAllx0
import Derived.Test.YtpagkmdlmhdenaaPAllx11
import Derived.Test.YtpagkmdlmhdenaaPAllx18
import Derived.Test.YtpagkmdlmhdenaaPAllx19
namespace Go.Proofs.Ytpagkmdlmhdenaa.PAll
open Go.RowKit Go.Proofs.YtpagkmdlmhdenaaW.PrintWords Go.Proofs.YtpagkmdlmhdenaaW.PrintLast Go.Proofs.YtpagkmdlmhdenaaW.PrintMore
attribute [local go_sem] max2_int min2_int max_two min_two max_three min_three max_four min_four   -- for this text's walks alone
set_option linter.unusedVariables false
set_option linter.unusedSimpArgs false
/-! ### r16_Begin: function 15 -/
def r16_Begin.j0 : Nat → Int → Int → Bool → Int → Int → List Int → List Int → ByteArray → Option (Int × Int × Int × Int × List Int × List Int × Int × ByteArray × Bool × Int)
 | 0,_,_,_,_,_,_,_,_ => none
 | k + 1,x0,x1,co,aV,aW,aX,aY,aZ => if co = true then (some (0,0,0,0,([] : List Int),([] : List Int),0,(⟨#[]⟩ : ByteArray),false,150)) else ((r08_OwnCouncil.f aX aY).bind fun aD => (some (x0,x1,aV,aW,aD.1,aD.2,(aZ.size : Int),(⟨#[]⟩ : ByteArray),true,0)))
def r16_Begin.f (k : Nat) (a0 : Int) (a1 : Int) (ad : Int) (ae : Int) (ah : List Int) (ai : List Int) (af : ByteArray) : Option (Int × Int × Int × Int × List Int × List Int × Int × ByteArray × Bool × Int) := (r16_node.f a0).bind fun aF => (if aF = true then ((r16_number.f a1).bind fun av => (if av = true then ((r16_number.f ad).bind fun an => (if an = true then ((r16_number.f ae).bind fun al => (if al = true then (r16_Begin.j0 k a0 a1 (decide ((af.size : Int) > 65536)) ad ae ah ai af) else (r16_Begin.j0 k a0 a1 true ad ae ah ai af))) else (r16_Begin.j0 k a0 a1 true ad ae ah ai af))) else (r16_Begin.j0 k a0 a1 true ad ae ah ai af))) else (r16_Begin.j0 k a0 a1 true ad ae ah ai af))
def r16_Begin.T3 : Bool × List (List Nat × List Nat) := (true,[([],[]),([],[]),([],[]),([2],[2]),([],[]),([4],[4]),([],[]),([6],[6]),([7],[7]),([],[]),([9],[9]),([10],[10]),([0,1,3,5,8,11],[0,1,3,5,8,11]),([12,8,0,1,2,3,4,5,6,7,8,9,10,11,12],[12]),([13,0,1,2,3,4,5,6,7,8,9,10,11,12,13],[])])
def r16_Begin.B3 : List Nat := [0,0,0,4,0,16,0,64,192,0,512,1536,4095,8191,16383]
theorem r16_Begin.tab3 : rtab .any (opsOf Try.f15 3) = r16_Begin.T3 := by kernel_rfl
theorem r16_Begin.bits3 : waitsOk r16_Begin.T3.2 r16_Begin.B3 = true := by kernel_rfl
set_option maxHeartbeats 8000000 in
set_option maxRecDepth 100000 in
theorem r16_Begin.calls (k : Nat) (a0 : Int) (a1 : Int) (ad : Int) (ae : Int) (ao : Option Addr) (ap : Nat) (ah : List Int) (aq : Option Addr) (ar : Nat) (ai : List Int) (af : ByteArray) (r1 : Int) (r2 : Int) (r3 : Int) (r4 : Int) (r5 : List Int) (r6 : List Int) (r7 : Int) (r8 : ByteArray) (r9 : Bool) (r10 : Int) (w : World) (aO : Kd.C (Kd.int .i64) w ao ah.length ah) (aP : ah.length ≤ ap) (aQ : Kd.C (Kd.int .i64) w aq ai.length ai) (aR : ai.length ≤ ar) (h : r16_Begin.f k a0 a1 ad ae ah ai af = some (r1,r2,r3,r4,r5,r6,r7,r8,r9,r10)) :
 Calls Try.prog 15 #[.int .i64 a0,.int .i64 a1,.agg #[.int .i64 ad,.int .i64 ae,.slice ao ah.length ap,.slice aq ai.length ar,.string af]] w fun e w' => ∃ bG bH : Value,e = .returned (.tuple #[.agg #[.int .i64 r1,.int .i64 r2,.int .i64 r3,.int .i64 r4,bG,bH,.int .i64 r7,.string r8,.bool r9],.int .i64 r10]) ∧ Kd.R (Kd.int .i64) 3 w' w.heap.size (fun k_ => some k_ ≠ (bH : Value).ownBlock) bG r5 ∧ Kd.R (Kd.int .i64) 3 w' w.heap.size (fun k_ => some k_ ≠ (bG : Value).ownBlock) bH r6 ∧ Below w.heap.size w w' := by
 have hu26 := Try.underlying26
 have hu34 := Try.underlying34
 have hu24 := Try.underlying24
 have bN := zzk aO
 have bO := zzk aP
 clear aO aP
 have bP := zzk aQ
 have bQ := zzk aR
 clear aQ aR
 have HB := zzk (Below.refl w.heap.size w)
 have H : ((r16_node.f a0).bind fun aF => (if aF = true then ((r16_number.f a1).bind fun av => (if av = true then ((r16_number.f ad).bind fun an => (if an = true then ((r16_number.f ae).bind fun al => (if al = true then (r16_Begin.j0 k a0 a1 (decide ((af.size : Int) > 65536)) ad ae ah ai af) else (r16_Begin.j0 k a0 a1 true ad ae ah ai af))) else (r16_Begin.j0 k a0 a1 true ad ae ah ai af))) else (r16_Begin.j0 k a0 a1 true ad ae ah ai af))) else (r16_Begin.j0 k a0 a1 true ad ae ah ai af))) = some (r1,r2,r3,r4,r5,r6,r7,r8,r9,r10) := h
 clear h
 have bI := zzk H
 clear H
 go_enter Try.func15,Try.ntmps15
 go_upto_region 1 with (first | ((with_reducible refine Zy (N := 5) rfl ?_); (try (refine Zz (by rfl) ?_; dsimp only)); refine zzc ?hg (N := 5) ?hd (cs := #[.int .i64 ad,.int .i64 ae,.slice ao ah.length ap,.slice aq ai.length ar,.string af]) (t := 26) ?hr ?_; (case hd => rfl); (case hg => rfl); (case hr => first | (go_simp; done) | (go_simp; rfl)); intro aj hg w5 hbox hb; have ax := zzk (Zs (by repeat (first | (with_reducible first | exact HB.out | apply Zq | apply Zp | apply Zo) | exact HB.out)) hb); have ay := zzk (hbox); have az := zzk ((by rw [hg]; exact (Zr (by repeat (first | (with_reducible first | exact HB.out | apply Zq | apply Zp | apply Zo) | exact HB.out))) : w.heap.size ≤ aj)); have aI := zzk ((by rw [hg]; exact (Zr (by repeat (first | (with_reducible first | exact HB.out | apply Zq | apply Zp | apply Zo) | exact HB.out))) : w.heap.size ≤ aj)); clear HB; have HB := ax; have ac := ay; have cr := az; have am := aI; clear ax ay az aI; clear hb hbox hg) | ((with_reducible refine Zy (N := 6) rfl ?_); (try (refine Zz (by rfl) ?_; dsimp only)); refine zzc ?hg (N := 6) ?hd (cs := #[.int .i64 0,.int .i64 0,.int .i64 0,.int .i64 0,.slice none 0 0,.slice none 0 0,.int .i64 0,.string (⟨#[]⟩ : ByteArray),.bool false]) (t := 34) ?hr ?_; (case hd => rfl); (case hg => rfl); (case hr => first | (go_simp; done) | (go_simp; rfl)); intro ab hg w6 hbox hb; have ax := zzk (zo (g := aj) (o := .cells #[.int .i64 ad,.int .i64 ae,.slice ao ah.length ap,.slice aq ai.length ar,.string af] 26 (0,0)) (by (with_reducible repeat (first | refine zj ?_ _ | refine zl ?_ | refine zk ?_ _)); exact ac.out) hb); have ay := zzk (Zs (by repeat (first | (with_reducible first | exact HB.out | apply Zq | apply Zp | apply Zo | refine Zn ?_ am.out) | exact HB.out)) hb); have az := zzk (hbox); have aI := zzk ((by rw [hg]; exact (Zr (by repeat (first | (with_reducible first | exact HB.out | apply Zq | apply Zp | apply Zo | refine Zn ?_ am.out) | exact HB.out))) : w.heap.size ≤ ab)); have aK := zzk ((by rw [hg]; exact (Zr (by repeat (first | (with_reducible first | exact HB.out | apply Zq | apply Zp | apply Zo | refine Zn ?_ am.out) | exact HB.out))) : w.heap.size ≤ ab)); have bR := zzk ((by rw [hg]; exact Nat.ne_of_lt (zq (g := aj) (o := .cells #[.int .i64 ad,.int .i64 ae,.slice ao ah.length ap,.slice aq ai.length ar,.string af] 26 (0,0)) (by (with_reducible repeat (first | refine zj ?_ _ | refine zl ?_ | refine zk ?_ _)); exact ac.out)) : aj ≠ ab)); have bS := zzk ((by rw [hg]; exact Nat.ne_of_gt (zq (g := aj) (o := .cells #[.int .i64 ad,.int .i64 ae,.slice ao ah.length ap,.slice aq ai.length ar,.string af] 26 (0,0)) (by (with_reducible repeat (first | refine zj ?_ _ | refine zl ?_ | refine zk ?_ _)); exact ac.out)) : ab ≠ aj)); clear ac; clear HB; have ac := ax; have HB := ay; have ag := az; have ct := aI; have au := aK; have aa := bR; have ak := bS; clear ax ay az aI aK bR bS; clear hb hbox hg))
 (try simp only [Act.put,za,zb,zc])
 go_cut [33] (fun cp wc => ∃ (kq : Nat) (aJ : Bool),cp = .bool aJ ∧ Aside0 (r16_Begin.j0 kq a0 a1 aJ ad ae ah ai af = some (r1,r2,r3,r4,r5,r6,r7,r8,r9,r10)) ∧ Aside0 (kq ≤ k) ∧ Aside0 (wc.heap[aj]? = some (.cells #[.int .i64 ad,.int .i64 ae,(.slice ao ah.length ap),(.slice aq ai.length ar),.string af] 26 (0,0))) ∧ Aside0 (wc.heap[ab]? = some (.cells #[.int .i64 0,.int .i64 0,.int .i64 0,.int .i64 0,(.slice none 0 0),(.slice none 0 0),.int .i64 0,.string (⟨#[]⟩ : ByteArray),.bool false] 34 (0,0))) ∧ Aside0 (Below w.heap.size w wc))
 case first =>
  have H := bI.out
  clear bI
  replace H := Option.bind_eq_some_iff.mp H
  obtain ⟨aF,bT,H⟩ := H
  replace H : (if aF = true then ((r16_number.f a1).bind fun av => (if av = true then ((r16_number.f ad).bind fun an => (if an = true then ((r16_number.f ae).bind fun al => (if al = true then (r16_Begin.j0 k a0 a1 (decide ((af.size : Int) > 65536)) ad ae ah ai af) else (r16_Begin.j0 k a0 a1 true ad ae ah ai af))) else (r16_Begin.j0 k a0 a1 true ad ae ah ai af))) else (r16_Begin.j0 k a0 a1 true ad ae ah ai af))) else (r16_Begin.j0 k a0 a1 true ad ae ah ai af)) = some (r1,r2,r3,r4,r5,r6,r7,r8,r9,r10) := H
  have A7 := zzk bT
  clear bT
  by_cases c8 : aF = true
  ·
   subst c8
   have H1 : ((r16_number.f a1).bind fun av => (if av = true then ((r16_number.f ad).bind fun an => (if an = true then ((r16_number.f ae).bind fun al => (if al = true then (r16_Begin.j0 k a0 a1 (decide ((af.size : Int) > 65536)) ad ae ah ai af) else (r16_Begin.j0 k a0 a1 true ad ae ah ai af))) else (r16_Begin.j0 k a0 a1 true ad ae ah ai af))) else (r16_Begin.j0 k a0 a1 true ad ae ah ai af))) = some (r1,r2,r3,r4,r5,r6,r7,r8,r9,r10) := by rw [if_pos rfl] at H; exact H
   clear H
   have H := H1
   clear H1
   replace H := Option.bind_eq_some_iff.mp H
   obtain ⟨av,bU,H⟩ := H
   replace H : (if av = true then ((r16_number.f ad).bind fun an => (if an = true then ((r16_number.f ae).bind fun al => (if al = true then (r16_Begin.j0 k a0 a1 (decide ((af.size : Int) > 65536)) ad ae ah ai af) else (r16_Begin.j0 k a0 a1 true ad ae ah ai af))) else (r16_Begin.j0 k a0 a1 true ad ae ah ai af))) else (r16_Begin.j0 k a0 a1 true ad ae ah ai af)) = some (r1,r2,r3,r4,r5,r6,r7,r8,r9,r10) := H
   have A9 := zzk bU
   clear bU
   by_cases aL : av = true
   ·
    subst aL
    have H1 : ((r16_number.f ad).bind fun an => (if an = true then ((r16_number.f ae).bind fun al => (if al = true then (r16_Begin.j0 k a0 a1 (decide ((af.size : Int) > 65536)) ad ae ah ai af) else (r16_Begin.j0 k a0 a1 true ad ae ah ai af))) else (r16_Begin.j0 k a0 a1 true ad ae ah ai af))) = some (r1,r2,r3,r4,r5,r6,r7,r8,r9,r10) := by rw [if_pos rfl] at H; exact H
    clear H
    have H := H1
    clear H1
    replace H := Option.bind_eq_some_iff.mp H
    obtain ⟨an,bJ,H⟩ := H
    replace H : (if an = true then ((r16_number.f ae).bind fun al => (if al = true then (r16_Begin.j0 k a0 a1 (decide ((af.size : Int) > 65536)) ad ae ah ai af) else (r16_Begin.j0 k a0 a1 true ad ae ah ai af))) else (r16_Begin.j0 k a0 a1 true ad ae ah ai af)) = some (r1,r2,r3,r4,r5,r6,r7,r8,r9,r10) := H
    have bK := zzk bJ
    clear bJ
    by_cases aM : an = true
    ·
     subst aM
     have H1 : ((r16_number.f ae).bind fun al => (if al = true then (r16_Begin.j0 k a0 a1 (decide ((af.size : Int) > 65536)) ad ae ah ai af) else (r16_Begin.j0 k a0 a1 true ad ae ah ai af))) = some (r1,r2,r3,r4,r5,r6,r7,r8,r9,r10) := by rw [if_pos rfl] at H; exact H
     clear H
     have H := H1
     clear H1
     replace H := Option.bind_eq_some_iff.mp H
     obtain ⟨al,bL,H⟩ := H
     replace H : (if al = true then (r16_Begin.j0 k a0 a1 (decide ((af.size : Int) > 65536)) ad ae ah ai af) else (r16_Begin.j0 k a0 a1 true ad ae ah ai af)) = some (r1,r2,r3,r4,r5,r6,r7,r8,r9,r10) := H
     have bV := zzk bL
     clear bL
     by_cases aN : al = true
     ·
      subst aN
      have H1 : (r16_Begin.j0 k a0 a1 (decide ((af.size : Int) > 65536)) ad ae ah ai af) = some (r1,r2,r3,r4,r5,r6,r7,r8,r9,r10) := by rw [if_pos rfl] at H; exact H
      clear H
      have H := H1
      clear H1
      have H' := zzk H
      clear H
      go_wp2_with (first | ((with_reducible refine zza (f := 32) rfl ?_); refine zzd (some 9) rfl rfl Try.func32 (by kernel_rfl) rfl #[.int .i64 a0] rfl (by (try simp only [zd,ze,zf]); first | done | rfl | (simp only [zg,zh]; rfl)) ?_; (with_reducible refine (r16_node.calls a0 true _ A7.out).mono ?_); rintro e w' ⟨rfl,⟨nd,rfl⟩⟩; refine ⟨_,rfl,?_⟩) | (go_at_call 33; (with_reducible refine (r16_number.calls a1 true _ A9.out).mono ?_); rintro e w' ⟨rfl,⟨nd,rfl⟩⟩; have cu := aa.out; have cv := ak.out; have ba : w6.cell? ⟨aj,0,none⟩ = some (.int .i64 ad) := (zi ac.out 0).trans rfl; have bb : w6.cell? ⟨aj,1,none⟩ = some (.int .i64 ae) := (zi ac.out 1).trans rfl; have bc : w6.cell? ⟨aj,2,none⟩ = some (.slice ao ah.length ap) := (zi ac.out 2).trans rfl; have bd : w6.cell? ⟨aj,3,none⟩ = some (.slice aq ai.length ar) := (zi ac.out 3).trans rfl; have be : w6.cell? ⟨aj,4,none⟩ = some (.string af) := (zi ac.out 4).trans rfl; have bf := zm ac.out 0; have bg := zm ac.out 1; have bh := zm ac.out 2; have bi := zm ac.out 3; have bj := zm ac.out 4) | (go_at_call 33; (with_reducible refine (r16_number.calls ad true _ bK.out).mono ?_); rintro e w' ⟨rfl,⟨nd,rfl⟩⟩) | (go_at_call 33; (with_reducible refine (r16_number.calls ae true _ bV.out).mono ?_); rintro e w' ⟨rfl,⟨nd,rfl⟩⟩))
      go_meet
      case rel => exact ⟨_,(decide ((af.size : Int) > 65536)),(by first | rfl | (simp; done) | (simp [*]; done)),H',⟨by first | omega | exact Nat.le_refl _⟩,⟨by (with_reducible repeat (first | refine zj ?_ _ | refine zl ?_ | refine zk ?_ _)); exact ac.out⟩,⟨by (with_reducible repeat (first | refine zj ?_ _ | refine zl ?_ | refine zk ?_ _)); exact ag.out⟩,⟨by repeat (first | (with_reducible first | exact HB.out | apply Zq | apply Zp | apply Zo | refine Zn ?_ am.out | refine Zn ?_ au.out) | exact HB.out)⟩⟩
     ·
      replace aN := Bool.eq_false_iff.mpr aN
      subst aN
      have H1 : (r16_Begin.j0 k a0 a1 true ad ae ah ai af) = some (r1,r2,r3,r4,r5,r6,r7,r8,r9,r10) := by rw [if_neg (show ¬ (false = true) by decide)] at H; exact H
      clear H
      have H := H1
      clear H1
      have H' := zzk H
      clear H
      go_wp2_with (first | ((with_reducible refine zza (f := 32) rfl ?_); refine zzd (some 9) rfl rfl Try.func32 (by kernel_rfl) rfl #[.int .i64 a0] rfl (by (try simp only [zd,ze,zf]); first | done | rfl | (simp only [zg,zh]; rfl)) ?_; (with_reducible refine (r16_node.calls a0 true _ A7.out).mono ?_); rintro e w' ⟨rfl,⟨nd,rfl⟩⟩; refine ⟨_,rfl,?_⟩) | (go_at_call 33; (with_reducible refine (r16_number.calls a1 true _ A9.out).mono ?_); rintro e w' ⟨rfl,⟨nd,rfl⟩⟩; have cw := aa.out; have cx := ak.out; have bk : w6.cell? ⟨aj,0,none⟩ = some (.int .i64 ad) := (zi ac.out 0).trans rfl; have bl : w6.cell? ⟨aj,1,none⟩ = some (.int .i64 ae) := (zi ac.out 1).trans rfl; have bm : w6.cell? ⟨aj,2,none⟩ = some (.slice ao ah.length ap) := (zi ac.out 2).trans rfl; have bn : w6.cell? ⟨aj,3,none⟩ = some (.slice aq ai.length ar) := (zi ac.out 3).trans rfl; have bo : w6.cell? ⟨aj,4,none⟩ = some (.string af) := (zi ac.out 4).trans rfl; have bq := zm ac.out 0; have br := zm ac.out 1; have bs := zm ac.out 2; have bt := zm ac.out 3; have bu := zm ac.out 4) | (go_at_call 33; (with_reducible refine (r16_number.calls ad true _ bK.out).mono ?_); rintro e w' ⟨rfl,⟨nd,rfl⟩⟩) | (go_at_call 33; (with_reducible refine (r16_number.calls ae false _ bV.out).mono ?_); rintro e w' ⟨rfl,⟨nd,rfl⟩⟩))
      go_meet
      case rel => exact ⟨_,(true),(by first | rfl | (simp; done) | (simp [*]; done)),H',⟨by first | omega | exact Nat.le_refl _⟩,⟨by (with_reducible repeat (first | refine zj ?_ _ | refine zl ?_ | refine zk ?_ _)); exact ac.out⟩,⟨by (with_reducible repeat (first | refine zj ?_ _ | refine zl ?_ | refine zk ?_ _)); exact ag.out⟩,⟨by repeat (first | (with_reducible first | exact HB.out | apply Zq | apply Zp | apply Zo | refine Zn ?_ am.out | refine Zn ?_ au.out) | exact HB.out)⟩⟩
    ·
     replace aM := Bool.eq_false_iff.mpr aM
     subst aM
     have H1 : (r16_Begin.j0 k a0 a1 true ad ae ah ai af) = some (r1,r2,r3,r4,r5,r6,r7,r8,r9,r10) := by rw [if_neg (show ¬ (false = true) by decide)] at H; exact H
     clear H
     have H := H1
     clear H1
     have H' := zzk H
     clear H
     go_wp2_with (first | ((with_reducible refine zza (f := 32) rfl ?_); refine zzd (some 9) rfl rfl Try.func32 (by kernel_rfl) rfl #[.int .i64 a0] rfl (by (try simp only [zd,ze,zf]); first | done | rfl | (simp only [zg,zh]; rfl)) ?_; (with_reducible refine (r16_node.calls a0 true _ A7.out).mono ?_); rintro e w' ⟨rfl,⟨nd,rfl⟩⟩; refine ⟨_,rfl,?_⟩) | (go_at_call 33; (with_reducible refine (r16_number.calls a1 true _ A9.out).mono ?_); rintro e w' ⟨rfl,⟨nd,rfl⟩⟩; have cy := aa.out; have cz := ak.out; have bv : w6.cell? ⟨aj,0,none⟩ = some (.int .i64 ad) := (zi ac.out 0).trans rfl; have bw : w6.cell? ⟨aj,1,none⟩ = some (.int .i64 ae) := (zi ac.out 1).trans rfl; have bx : w6.cell? ⟨aj,2,none⟩ = some (.slice ao ah.length ap) := (zi ac.out 2).trans rfl; have bz : w6.cell? ⟨aj,3,none⟩ = some (.slice aq ai.length ar) := (zi ac.out 3).trans rfl; have bA : w6.cell? ⟨aj,4,none⟩ = some (.string af) := (zi ac.out 4).trans rfl; have bB := zm ac.out 0; have bC := zm ac.out 1; have bD := zm ac.out 2; have bE := zm ac.out 3; have bF := zm ac.out 4) | (go_at_call 33; (with_reducible refine (r16_number.calls ad false _ bK.out).mono ?_); rintro e w' ⟨rfl,⟨nd,rfl⟩⟩))
     go_meet
     case rel => exact ⟨_,(true),(by first | rfl | (simp; done) | (simp [*]; done)),H',⟨by first | omega | exact Nat.le_refl _⟩,⟨by (with_reducible repeat (first | refine zj ?_ _ | refine zl ?_ | refine zk ?_ _)); exact ac.out⟩,⟨by (with_reducible repeat (first | refine zj ?_ _ | refine zl ?_ | refine zk ?_ _)); exact ag.out⟩,⟨by repeat (first | (with_reducible first | exact HB.out | apply Zq | apply Zp | apply Zo | refine Zn ?_ am.out | refine Zn ?_ au.out) | exact HB.out)⟩⟩
   ·
    replace aL := Bool.eq_false_iff.mpr aL
    subst aL
    have H1 : (r16_Begin.j0 k a0 a1 true ad ae ah ai af) = some (r1,r2,r3,r4,r5,r6,r7,r8,r9,r10) := by rw [if_neg (show ¬ (false = true) by decide)] at H; exact H
    clear H
    have H := H1
    clear H1
    have H' := zzk H
    clear H
    go_wp2_with (first | ((with_reducible refine zza (f := 32) rfl ?_); refine zzd (some 9) rfl rfl Try.func32 (by kernel_rfl) rfl #[.int .i64 a0] rfl (by (try simp only [zd,ze,zf]); first | done | rfl | (simp only [zg,zh]; rfl)) ?_; (with_reducible refine (r16_node.calls a0 true _ A7.out).mono ?_); rintro e w' ⟨rfl,⟨nd,rfl⟩⟩; refine ⟨_,rfl,?_⟩) | (go_at_call 33; (with_reducible refine (r16_number.calls a1 false _ A9.out).mono ?_); rintro e w' ⟨rfl,⟨nd,rfl⟩⟩))
    go_meet
    case rel => exact ⟨_,(true),(by first | rfl | (simp; done) | (simp [*]; done)),H',⟨by first | omega | exact Nat.le_refl _⟩,⟨by (with_reducible repeat (first | refine zj ?_ _ | refine zl ?_ | refine zk ?_ _)); exact ac.out⟩,⟨by (with_reducible repeat (first | refine zj ?_ _ | refine zl ?_ | refine zk ?_ _)); exact ag.out⟩,⟨by repeat (first | (with_reducible first | exact HB.out | apply Zq | apply Zp | apply Zo | refine Zn ?_ am.out | refine Zn ?_ au.out) | exact HB.out)⟩⟩
  ·
   replace c8 := Bool.eq_false_iff.mpr c8
   subst c8
   have H1 : (r16_Begin.j0 k a0 a1 true ad ae ah ai af) = some (r1,r2,r3,r4,r5,r6,r7,r8,r9,r10) := by rw [if_neg (show ¬ (false = true) by decide)] at H; exact H
   clear H
   have H := H1
   clear H1
   have H' := zzk H
   clear H
   go_wp2_with (first | ((with_reducible refine zza (f := 32) rfl ?_); refine zzd (some 9) rfl rfl Try.func32 (by kernel_rfl) rfl #[.int .i64 a0] rfl (by (try simp only [zd,ze,zf]); first | done | rfl | (simp only [zg,zh]; rfl)) ?_; (with_reducible refine (r16_node.calls a0 false _ A7.out).mono ?_); rintro e w' ⟨rfl,⟨nd,rfl⟩⟩; refine ⟨_,rfl,?_⟩))
   go_meet
   case rel => exact ⟨_,(true),(by first | rfl | (simp; done) | (simp [*]; done)),H',⟨by first | omega | exact Nat.le_refl _⟩,⟨by (with_reducible repeat (first | refine zj ?_ _ | refine zl ?_ | refine zk ?_ _)); exact ac.out⟩,⟨by (with_reducible repeat (first | refine zj ?_ _ | refine zl ?_ | refine zk ?_ _)); exact ag.out⟩,⟨by repeat (first | (with_reducible first | exact HB.out | apply Zq | apply Zp | apply Zo | refine Zn ?_ am.out | refine Zn ?_ au.out) | exact HB.out)⟩⟩
 case rest =>
  clear bI
  try clear c1
  try clear c2
  try clear p2
  try clear c3
  try clear c8
  try clear aL
  try clear aM
  try clear aN
  try clear cE
  try clear cF
  try clear cG
  try clear ba
  try clear bb
  try clear bc
  try clear bd
  try clear be
  try clear bk
  try clear bl
  try clear bm
  try clear bn
  try clear bo
  try clear bv
  try clear bw
  try clear bx
  try clear bz
  try clear bA
  try clear bf
  try clear bg
  try clear bh
  try clear bi
  try clear bj
  try clear bq
  try clear br
  try clear bs
  try clear bt
  try clear bu
  try clear bB
  try clear bC
  try clear bD
  try clear bE
  try clear bF
  obtain ⟨kq,aJ,rfl,HA,HJ3,ac,ag,HB⟩ := hcut
  cases kq with
  | zero => exact absurd HA.out (by simp [r16_Begin.j0])
  | succ cH =>
   have H := HA.out
   clear HA
   simp only [r16_Begin.j0] at H
   by_cases aS : aJ = true
   ·
    subst aS
    have H1 : (some (0,0,0,0,([] : List Int),([] : List Int),0,(⟨#[]⟩ : ByteArray),false,150)) = some (r1,r2,r3,r4,r5,r6,r7,r8,r9,r10) := by rw [if_pos rfl] at H; exact H
    clear H
    have H := H1
    clear H1
    simp only [zzg,zzh] at H
    obtain ⟨rfl,rfl,rfl,rfl,rfl,rfl,rfl,rfl,rfl,rfl⟩ := H
    have cA := ak.out
    have cB := aa.out
    have bW : wc.cell? ⟨ab,0,none⟩ = some (.int .i64 0) := (zi ag.out 0).trans rfl
    have bX : wc.cell? ⟨ab,1,none⟩ = some (.int .i64 0) := (zi ag.out 1).trans rfl
    have bY : wc.cell? ⟨ab,2,none⟩ = some (.int .i64 0) := (zi ag.out 2).trans rfl
    have bZ : wc.cell? ⟨ab,3,none⟩ = some (.int .i64 0) := (zi ag.out 3).trans rfl
    have ca : wc.cell? ⟨ab,4,none⟩ = some (.slice none 0 0) := (zi ag.out 4).trans rfl
    have cb : wc.cell? ⟨ab,5,none⟩ = some (.slice none 0 0) := (zi ag.out 5).trans rfl
    have cc : wc.cell? ⟨ab,6,none⟩ = some (.int .i64 0) := (zi ag.out 6).trans rfl
    have cd : wc.cell? ⟨ab,7,none⟩ = some (.string (⟨#[]⟩ : ByteArray)) := (zi ag.out 7).trans rfl
    have ce : wc.cell? ⟨ab,8,none⟩ = some (.bool false) := (zi ag.out 8).trans rfl
    have cf := zm ag.out 0
    have cg := zm ag.out 1
    have ch := zm ag.out 2
    have ci := zm ag.out 3
    have cj := zm ag.out 4
    have ck := zm ag.out 5
    have cl := zm ag.out 6
    have cm := zm ag.out 7
    have cn := zm ag.out 8
    go_wp2
    refine zzf (results_ct rfl _ _ ab 34 #[.int .i64 0,.int .i64 0,.int .i64 0,.int .i64 0,.slice none 0 0,.slice none 0 0,.int .i64 0,.string (⟨#[]⟩ : ByteArray),.bool false] (0,0) _ rfl (by (with_reducible repeat (first | refine zj ?_ _ | refine zl ?_ | refine zk ?_ _)); refine zp (cs := #[.int .i64 0,.int .i64 0,.int .i64 0,.int .i64 0,.slice none 0 0,.slice none 0 0,.int .i64 0,.string (⟨#[]⟩ : ByteArray),.bool false]) ?_ 8 _ rfl; (with_reducible repeat (first | refine zj ?_ _ | refine zl ?_ | refine zk ?_ _)); refine zp (cs := #[.int .i64 0,.int .i64 0,.int .i64 0,.int .i64 0,.slice none 0 0,.slice none 0 0,.int .i64 0,.string (⟨#[]⟩ : ByteArray),.bool false]) ?_ 7 _ rfl; (with_reducible repeat (first | refine zj ?_ _ | refine zl ?_ | refine zk ?_ _)); refine zp (cs := #[.int .i64 0,.int .i64 0,.int .i64 0,.int .i64 0,.slice none 0 0,.slice none 0 0,.int .i64 0,.string (⟨#[]⟩ : ByteArray),.bool false]) ?_ 6 _ rfl; (with_reducible repeat (first | refine zj ?_ _ | refine zl ?_ | refine zk ?_ _)); refine zp (cs := #[.int .i64 0,.int .i64 0,.int .i64 0,.int .i64 0,.slice none 0 0,.slice none 0 0,.int .i64 0,.string (⟨#[]⟩ : ByteArray),.bool false]) ?_ 5 _ rfl; (with_reducible repeat (first | refine zj ?_ _ | refine zl ?_ | refine zk ?_ _)); refine zp (cs := #[.int .i64 0,.int .i64 0,.int .i64 0,.int .i64 0,.slice none 0 0,.slice none 0 0,.int .i64 0,.string (⟨#[]⟩ : ByteArray),.bool false]) ?_ 4 _ rfl; (with_reducible repeat (first | refine zj ?_ _ | refine zl ?_ | refine zk ?_ _)); refine zp (cs := #[.int .i64 0,.int .i64 0,.int .i64 0,.int .i64 0,.slice none 0 0,.slice none 0 0,.int .i64 0,.string (⟨#[]⟩ : ByteArray),.bool false]) ?_ 3 _ rfl; (with_reducible repeat (first | refine zj ?_ _ | refine zl ?_ | refine zk ?_ _)); refine zp (cs := #[.int .i64 0,.int .i64 0,.int .i64 0,.int .i64 0,.slice none 0 0,.slice none 0 0,.int .i64 0,.string (⟨#[]⟩ : ByteArray),.bool false]) ?_ 2 _ rfl; (with_reducible repeat (first | refine zj ?_ _ | refine zl ?_ | refine zk ?_ _)); refine zp (cs := #[.int .i64 0,.int .i64 0,.int .i64 0,.int .i64 0,.slice none 0 0,.slice none 0 0,.int .i64 0,.string (⟨#[]⟩ : ByteArray),.bool false]) ?_ 1 _ rfl; (with_reducible repeat (first | refine zj ?_ _ | refine zl ?_ | refine zk ?_ _)); refine zp (cs := #[.int .i64 0,.int .i64 0,.int .i64 0,.int .i64 0,.slice none 0 0,.slice none 0 0,.int .i64 0,.string (⟨#[]⟩ : ByteArray),.bool false]) ?_ 0 _ rfl; (with_reducible repeat (first | refine zj ?_ _ | refine zl ?_ | refine zk ?_ _)); exact ag.out) Try.underlying34 rfl (by kernel_rfl)) rfl ?_
    exact ⟨_,_,by first | rfl | (simp [zzl,zzm] <;> rfl) | (simp [*,zzl,zzm] <;> rfl),by first | exact Ze _ _ _ _ _ | exact Zf _ _ _ _ _ | exact Zg _ _ _ _ _ | exact Zh _ _ _ _ _ | exact Zi _ _ _ _ _,by first | exact Ze _ _ _ _ _ | exact Zf _ _ _ _ _ | exact Zg _ _ _ _ _ | exact Zh _ _ _ _ _ | exact Zi _ _ _ _ _,by repeat (first | (with_reducible first | exact HB.out | apply Zq | apply Zp | apply Zo | refine Zn ?_ am.out | refine Zn ?_ au.out) | exact HB.out)⟩
   ·
    replace aS := Bool.eq_false_iff.mpr aS
    subst aS
    have H1 : ((r08_OwnCouncil.f ah ai).bind fun aD => (some (a0,a1,ad,ae,aD.1,aD.2,(af.size : Int),(⟨#[]⟩ : ByteArray),true,0))) = some (r1,r2,r3,r4,r5,r6,r7,r8,r9,r10) := by rw [if_neg (show ¬ (false = true) by decide)] at H; exact H
    clear H
    have H := H1
    clear H1
    replace H := Option.bind_eq_some_iff.mp H
    obtain ⟨⟨aw,aA⟩,bM,H⟩ := H
    replace H : (some (a0,a1,ad,ae,aw,aA,(af.size : Int),(⟨#[]⟩ : ByteArray),true,0)) = some (r1,r2,r3,r4,r5,r6,r7,r8,r9,r10) := H
    have cq := zzk bM
    clear bM
    simp only [zzg,zzh] at H
    obtain ⟨rfl,rfl,rfl,rfl,rfl,rfl,rfl,rfl,rfl,rfl⟩ := H
    try go_wp2
    have ax := zzk (zl ac.out)
    have ay := zzk (zl ag.out)
    have az := zzk (Zo HB.out)
    clear ac
    clear ag
    clear HB
    have ac := ax
    have ag := ay
    have HB := az
    clear ax ay az
    refine start_ (n := 15) (S := fun w' => w'.cell? ⟨aj,0,none⟩ = some (.int .i64 ad) ∧ w'.cell? ⟨aj,1,none⟩ = some (.int .i64 ae) ∧ w'.cell? ⟨aj,2,none⟩ = some (.slice ao ah.length ap) ∧ w'.cell? ⟨aj,3,none⟩ = some (.slice aq ai.length ar) ∧ w'.cell? ⟨aj,4,none⟩ = some (.string af)) (ds := []) #[false,false,false,false,false,false,false,false,false,false,false,false,false,false,false] (by kernel_rfl) rfl rfl ⟨(zi ac.out 0).trans rfl,(zi ac.out 1).trans rfl,(zi ac.out 2).trans rfl,(zi ac.out 3).trans rfl,(zi ac.out 4).trans rfl⟩ (fun hHeld => ?_); refine with_tabW r16_Begin.tab3 r16_Begin.bits3 (fun HT_ HW_ => ?_)
    generalize wc.drew = cI at ac ag HB hHeld ⊢
    refine pure_ (i := 0) (N := some 35) (v := ?_) (a' := ?_) #[true,false,false,false,false,false,false,false,false,false,false,false,false,false,false] rfl rfl (Zu HT_.out (by kernel_rfl)) (fun _ _ _ h => h) (Or.inl ⟨by rfl,?_⟩) ?_ ?_
    rotate_left
    ·
     intro w'
     go_simp
     with_reducible rfl
    rotate_left
    ·
     simp only [Act.put,za,zb,zc,Zv,Zw]
     rfl
    refine pure_ (i := 1) (N := some 36) (v := ?_) (a' := ?_) #[true,true,false,false,false,false,false,false,false,false,false,false,false,false,false] rfl rfl (Zu HT_.out (by kernel_rfl)) (fun _ _ _ h => h) (Or.inl ⟨by rfl,?_⟩) ?_ ?_
    rotate_left
    ·
     intro w'
     go_simp
     with_reducible rfl
    rotate_left
    ·
     simp only [Act.put,za,zb,zc,Zv,Zw]
     rfl
    refine pure_ (i := 2) (N := some 37) (v := ?_) (a' := ?_) #[true,true,true,false,false,false,false,false,false,false,false,false,false,false,false] rfl rfl (Zu HT_.out (by kernel_rfl)) (fun _ _ _ h => h) (Or.inl ⟨by rfl,?_⟩) ?_ ?_
    rotate_left
    ·
     intro w'
     go_simp
     with_reducible rfl
    rotate_left
    ·
     simp only [Act.put,za,zb,zc,Zv,Zw]
     rfl
    refine pure_ (i := 4) (N := some 39) (v := ?_) (a' := ?_) #[true,true,true,false,true,false,false,false,false,false,false,false,false,false,false] rfl rfl (Zu HT_.out (by kernel_rfl)) (fun _ _ _ h => h) (Or.inl ⟨by rfl,?_⟩) ?_ ?_
    rotate_left
    ·
     intro w'
     go_simp
     with_reducible rfl
    rotate_left
    ·
     simp only [Act.put,za,zb,zc,Zv,Zw]
     rfl
    refine pure_ (i := 6) (N := some 41) (v := ?_) (a' := ?_) #[true,true,true,false,true,false,true,false,false,false,false,false,false,false,false] rfl rfl (Zu HT_.out (by kernel_rfl)) (fun _ _ _ h => h) (Or.inl ⟨by rfl,?_⟩) ?_ ?_
    rotate_left
    ·
     intro w'
     go_simp
     with_reducible rfl
    rotate_left
    ·
     simp only [Act.put,za,zb,zc,Zv,Zw]
     rfl
    refine pure_ (i := 9) (N := some 44) (v := ?_) (a' := ?_) #[true,true,true,false,true,false,true,false,false,true,false,false,false,false,false] rfl rfl (Zu HT_.out (by kernel_rfl)) (fun _ _ _ h => h) (Or.inl ⟨by rfl,?_⟩) ?_ ?_
    rotate_left
    ·
     intro w'
     go_simp
     with_reducible rfl
    rotate_left
    ·
     simp only [Act.put,za,zb,zc,Zv,Zw]
     rfl
    refine take_ (i := 3) (N := some 38) (v := ?_) (a' := ?_) #[true,true,true,true,true,false,true,false,false,true,false,false,false,false,false] rfl rfl (take_ofW HT_.out HW_.out (by kernel_rfl)) (fun _ _ _ h => h) (Or.inl ⟨by rfl,?_⟩) hHeld ?_ ?_
    rotate_left
    ·
     rintro w' ⟨s0,s1,s2,s3,s4⟩
     go_simp
     with_reducible rfl
    rotate_left
    ·
     simp only [Act.put,za,zb,zc,Zv,Zw]
     rfl
    refine take_ (i := 5) (N := some 40) (v := ?_) (a' := ?_) #[true,true,true,true,true,true,true,false,false,true,false,false,false,false,false] rfl rfl (take_ofW HT_.out HW_.out (by kernel_rfl)) (fun _ _ _ h => h) (Or.inl ⟨by rfl,?_⟩) hHeld ?_ ?_
    rotate_left
    ·
     rintro w' ⟨s0,s1,s2,s3,s4⟩
     go_simp
     with_reducible rfl
    rotate_left
    ·
     simp only [Act.put,za,zb,zc,Zv,Zw]
     rfl
    refine take_ (i := 7) (N := some 42) (v := ?_) (a' := ?_) #[true,true,true,true,true,true,true,true,false,true,false,false,false,false,false] rfl rfl (take_ofW HT_.out HW_.out (by kernel_rfl)) (fun _ _ _ h => h) (Or.inl ⟨by rfl,?_⟩) hHeld ?_ ?_
    rotate_left
    ·
     rintro w' ⟨s0,s1,s2,s3,s4⟩
     go_simp
     with_reducible rfl
    rotate_left
    ·
     simp only [Act.put,za,zb,zc,Zv,Zw]
     rfl
    refine take_ (i := 10) (N := some 45) (v := ?_) (a' := ?_) #[true,true,true,true,true,true,true,true,false,true,true,false,false,false,false] rfl rfl (take_ofW HT_.out HW_.out (by kernel_rfl)) (fun _ _ _ h => h) (Or.inl ⟨by rfl,?_⟩) hHeld ?_ ?_
    rotate_left
    ·
     rintro w' ⟨s0,s1,s2,s3,s4⟩
     go_simp
     with_reducible rfl
    rotate_left
    ·
     simp only [Act.put,za,zb,zc,Zv,Zw]
     rfl
    refine pure_ (i := 11) (N := some 46) (v := ?_) (a' := ?_) #[true,true,true,true,true,true,true,true,false,true,true,true,false,false,false] rfl rfl (Zu HT_.out (by kernel_rfl)) (fun _ _ _ h => h) (Or.inl ⟨by rfl,?_⟩) ?_ ?_
    rotate_left
    ·
     intro w'
     go_simp
     with_reducible rfl
    rotate_left
    ·
     simp only [Act.put,za,zb,zc,Zv,Zw]
     rfl
    refine one_ (i := 8) (N := some 43) #[true,true,true,true,true,true,true,true,true,true,true,true,false,false,false] rfl rfl (one_of HT_.out (by kernel_rfl)) (by decide) (fun K hK => ?_)
    refine goes_ Try.func30 (by kernel_rfl) rfl #[.agg #[.slice ao ah.length ap,.slice aq ai.length ar]] (by rfl) rfl rfl (by (try simp only [zd,ze,zf]); first | done | rfl | (simp only [zg,zh]; rfl)) ?_
    with_reducible refine (r08_OwnCouncil.calls _ _ ah _ _ ai aw aA _ ?side1 ?side2 ?side3 ?side4 cq.out).mono ?_
    (case side1 => repeat (first | exact (Zm bN.out HB.out) | (with_reducible refine Zk ?_ _) | (with_reducible refine Zj ?_ _) | (with_reducible refine Zl ?_)))
    (case side2 => exact bO.out)
    (case side3 => repeat (first | exact (Zm bP.out HB.out) | (with_reducible refine Zk ?_ _) | (with_reducible refine Zj ?_ _) | (with_reducible refine Zl ?_)))
    (case side4 => exact bQ.out)
    rintro e aE ⟨cC,cD,rfl,ho0,ho1,hb⟩
    refine ⟨_,rfl,?_⟩
    have ax := zzk (Za ho0 (Zr (by repeat (first | (with_reducible first | exact HB.out | apply Zq | apply Zp | apply Zo | refine Zn ?_ am.out | refine Zn ?_ au.out) | exact HB.out))))
    have ay := zzk (Za ho1 (Zr (by repeat (first | (with_reducible first | exact HB.out | apply Zq | apply Zp | apply Zo | refine Zn ?_ am.out | refine Zn ?_ au.out) | exact HB.out))))
    have az := zzk (zo (g := aj) (o := .cells #[.int .i64 ad,.int .i64 ae,.slice ao ah.length ap,.slice aq ai.length ar,.string af] 26 (0,0)) (by (with_reducible repeat (first | refine zj ?_ _ | refine zl ?_ | refine zk ?_ _)); exact ac.out) hb)
    have aI := zzk (zo (g := ab) (o := .cells #[.int .i64 0,.int .i64 0,.int .i64 0,.int .i64 0,.slice none 0 0,.slice none 0 0,.int .i64 0,.string (⟨#[]⟩ : ByteArray),.bool false] 34 (0,0)) (by (with_reducible repeat (first | refine zj ?_ _ | refine zl ?_ | refine zk ?_ _)); exact ag.out) hb)
    have aK := zzk (Zs (by repeat (first | (with_reducible first | exact HB.out | apply Zq | apply Zp | apply Zo | refine Zn ?_ am.out | refine Zn ?_ au.out) | exact HB.out)) hb)
    clear ac
    clear ag
    clear HB
    have aT := ax
    have aU := ay
    have ac := az
    have ag := aI
    have HB := aK
    clear ax ay az aI aK
    (try clear hb)
    (try clear hb2)
    (try clear hk)
    (try clear hi)
    (try clear ho0)
    (try clear ho1)
    obtain ⟨aG,aH,eo27⟩ := zz aU.out
    (first | subst eo27 | (injection eo27 with f1_ f2_ f3_; have f4_ := f1_.symm; have f5_ := f3_.symm; clear f1_ f2_ f3_; subst f4_; subst f5_))
    obtain ⟨aB,aC,eo28⟩ := zz aT.out
    (first | subst eo28 | (injection eo28 with f1_ f2_ f3_; have f4_ := f1_.symm; have f5_ := f3_.symm; clear f1_ f2_ f3_; subst f4_; subst f5_))
    refine hK.out _ _ ⟨(zi ac.out 0).trans rfl,(zi ac.out 1).trans rfl,(zi ac.out 2).trans rfl,(zi ac.out 3).trans rfl,(zi ac.out 4).trans rfl⟩ (fun hHeld => ?_)
    clear hK K
    refine norm_ (a' := ?_) ?_ ?_
    rotate_left
    ·
     show Act.put _ (some 43) _ = _
     simp only [Act.put,za,zb,zc,Zv,Zw]
     rfl
    refine pure_ (i := 12) (N := some 47) (v := ?_) (a' := ?_) #[true,true,true,true,true,true,true,true,true,true,true,true,true,false,false] rfl rfl (Zu HT_.out (by kernel_rfl)) (fun _ _ _ h => h) (Or.inl ⟨by rfl,?_⟩) ?_ ?_
    rotate_left
    ·
     intro w'
     go_simp
     with_reducible rfl
    rotate_left
    ·
     simp only [Act.put,za,zb,zc,Zv,Zw]
     rfl
    refine one_ (i := 13) (N := none) #[true,true,true,true,true,true,true,true,true,true,true,true,true,true,false] rfl rfl (one_of HT_.out (by kernel_rfl)) (by decide) (fun K hK => ?_)
    have hs29 : aE.cell? ⟨ab,0,none⟩ = some (.int .i64 0) := (zi ag.out 0).trans rfl
    have hfs29 := zm ag.out 0
    have hns29_0 := aa.out
    have hms29_0 := ak.out
    have hs30 : aE.cell? ⟨ab,1,none⟩ = some (.int .i64 0) := (zi ag.out 1).trans rfl
    have hfs30 := zm ag.out 1
    have hns30_0 := aa.out
    have hms30_0 := ak.out
    have hs31 : aE.cell? ⟨ab,2,none⟩ = some (.int .i64 0) := (zi ag.out 2).trans rfl
    have hfs31 := zm ag.out 2
    have hns31_0 := aa.out
    have hms31_0 := ak.out
    have hs32 : aE.cell? ⟨ab,3,none⟩ = some (.int .i64 0) := (zi ag.out 3).trans rfl
    have hfs32 := zm ag.out 3
    have hns32_0 := aa.out
    have hms32_0 := ak.out
    have hs33 : aE.cell? ⟨ab,4,none⟩ = some (.slice none 0 0) := (zi ag.out 4).trans rfl
    have hfs33 := zm ag.out 4
    have hns33_0 := aa.out
    have hms33_0 := ak.out
    have hs34 : aE.cell? ⟨ab,5,none⟩ = some (.slice none 0 0) := (zi ag.out 5).trans rfl
    have hfs34 := zm ag.out 5
    have hns34_0 := aa.out
    have hms34_0 := ak.out
    have hs35 : aE.cell? ⟨ab,6,none⟩ = some (.int .i64 0) := (zi ag.out 6).trans rfl
    have hfs35 := zm ag.out 6
    have hns35_0 := aa.out
    have hms35_0 := ak.out
    have hs36 : aE.cell? ⟨ab,7,none⟩ = some (.string (⟨#[]⟩ : ByteArray)) := (zi ag.out 7).trans rfl
    have hfs36 := zm ag.out 7
    have hns36_0 := aa.out
    have hms36_0 := ak.out
    have hs37 : aE.cell? ⟨ab,8,none⟩ = some (.bool false) := (zi ag.out 8).trans rfl
    have hfs37 := zm ag.out 8
    have hns37_0 := aa.out
    have hms37_0 := ak.out
    refine skip_ (w1 := ?_) (by rfl) rfl ?_ ?_
    rotate_left
    ·
     go_simp
     rfl
    refine hK.out _ _ ⟨((Zx (p := ⟨ab,_,none⟩) aa.out _).trans (((Zx (p := ⟨ab,_,none⟩) aa.out _).trans (((Zx (p := ⟨ab,_,none⟩) aa.out _).trans (((Zx (p := ⟨ab,_,none⟩) aa.out _).trans (((Zx (p := ⟨ab,_,none⟩) aa.out _).trans (((Zx (p := ⟨ab,_,none⟩) aa.out _).trans (((Zx (p := ⟨ab,_,none⟩) aa.out _).trans (((Zx (p := ⟨ab,_,none⟩) aa.out _).trans (((Zx (p := ⟨ab,_,none⟩) aa.out _).trans (hHeld.1)))))))))))))))))),((Zx (p := ⟨ab,_,none⟩) aa.out _).trans (((Zx (p := ⟨ab,_,none⟩) aa.out _).trans (((Zx (p := ⟨ab,_,none⟩) aa.out _).trans (((Zx (p := ⟨ab,_,none⟩) aa.out _).trans (((Zx (p := ⟨ab,_,none⟩) aa.out _).trans (((Zx (p := ⟨ab,_,none⟩) aa.out _).trans (((Zx (p := ⟨ab,_,none⟩) aa.out _).trans (((Zx (p := ⟨ab,_,none⟩) aa.out _).trans (((Zx (p := ⟨ab,_,none⟩) aa.out _).trans (hHeld.2.1)))))))))))))))))),((Zx (p := ⟨ab,_,none⟩) aa.out _).trans (((Zx (p := ⟨ab,_,none⟩) aa.out _).trans (((Zx (p := ⟨ab,_,none⟩) aa.out _).trans (((Zx (p := ⟨ab,_,none⟩) aa.out _).trans (((Zx (p := ⟨ab,_,none⟩) aa.out _).trans (((Zx (p := ⟨ab,_,none⟩) aa.out _).trans (((Zx (p := ⟨ab,_,none⟩) aa.out _).trans (((Zx (p := ⟨ab,_,none⟩) aa.out _).trans (((Zx (p := ⟨ab,_,none⟩) aa.out _).trans (hHeld.2.2.1)))))))))))))))))),((Zx (p := ⟨ab,_,none⟩) aa.out _).trans (((Zx (p := ⟨ab,_,none⟩) aa.out _).trans (((Zx (p := ⟨ab,_,none⟩) aa.out _).trans (((Zx (p := ⟨ab,_,none⟩) aa.out _).trans (((Zx (p := ⟨ab,_,none⟩) aa.out _).trans (((Zx (p := ⟨ab,_,none⟩) aa.out _).trans (((Zx (p := ⟨ab,_,none⟩) aa.out _).trans (((Zx (p := ⟨ab,_,none⟩) aa.out _).trans (((Zx (p := ⟨ab,_,none⟩) aa.out _).trans (hHeld.2.2.2.1)))))))))))))))))),((Zx (p := ⟨ab,_,none⟩) aa.out _).trans (((Zx (p := ⟨ab,_,none⟩) aa.out _).trans (((Zx (p := ⟨ab,_,none⟩) aa.out _).trans (((Zx (p := ⟨ab,_,none⟩) aa.out _).trans (((Zx (p := ⟨ab,_,none⟩) aa.out _).trans (((Zx (p := ⟨ab,_,none⟩) aa.out _).trans (((Zx (p := ⟨ab,_,none⟩) aa.out _).trans (((Zx (p := ⟨ab,_,none⟩) aa.out _).trans (((Zx (p := ⟨ab,_,none⟩) aa.out _).trans (hHeld.2.2.2.2))))))))))))))))))⟩ (fun hHeld => ?_)
    clear hK K
    refine pure_ (i := 14) (N := some 7) (v := ?_) (a' := ?_) #[true,true,true,true,true,true,true,true,true,true,true,true,true,true,true] rfl rfl (Zu HT_.out (by kernel_rfl)) (fun _ _ _ h => h) (Or.inl ⟨by rfl,?_⟩) ?_ ?_
    rotate_left
    ·
     intro w'
     go_simp
     with_reducible rfl
    rotate_left
    ·
     simp only [Act.put,za,zb,zc,Zv,Zw]
     rfl
    refine done_ (done_of HT_.out (by kernel_rfl)) ?_
    try go_wp2
    refine zzf (results_ct rfl _ _ ab 34 #[.int .i64 a0,.int .i64 a1,.int .i64 ad,.int .i64 ae,.slice aB aw.length aC,.slice aG aA.length aH,.int .i64 (af.size : Int),.string (⟨#[]⟩ : ByteArray),.bool true] (0,0) _ rfl (by (with_reducible repeat (first | refine zj ?_ _ | refine zl ?_ | refine zk ?_ _)); refine zp (cs := #[.int .i64 a0,.int .i64 a1,.int .i64 ad,.int .i64 ae,.slice aB aw.length aC,.slice aG aA.length aH,.int .i64 (af.size : Int),.string (⟨#[]⟩ : ByteArray),.bool false]) ?_ 8 _ rfl; (with_reducible repeat (first | refine zj ?_ _ | refine zl ?_ | refine zk ?_ _)); refine zp (cs := #[.int .i64 a0,.int .i64 a1,.int .i64 ad,.int .i64 ae,.slice aB aw.length aC,.slice aG aA.length aH,.int .i64 (af.size : Int),.string (⟨#[]⟩ : ByteArray),.bool false]) ?_ 7 _ rfl; (with_reducible repeat (first | refine zj ?_ _ | refine zl ?_ | refine zk ?_ _)); refine zp (cs := #[.int .i64 a0,.int .i64 a1,.int .i64 ad,.int .i64 ae,.slice aB aw.length aC,.slice aG aA.length aH,.int .i64 0,.string (⟨#[]⟩ : ByteArray),.bool false]) ?_ 6 _ rfl; (with_reducible repeat (first | refine zj ?_ _ | refine zl ?_ | refine zk ?_ _)); refine zp (cs := #[.int .i64 a0,.int .i64 a1,.int .i64 ad,.int .i64 ae,.slice aB aw.length aC,.slice none 0 0,.int .i64 0,.string (⟨#[]⟩ : ByteArray),.bool false]) ?_ 5 _ rfl; (with_reducible repeat (first | refine zj ?_ _ | refine zl ?_ | refine zk ?_ _)); refine zp (cs := #[.int .i64 a0,.int .i64 a1,.int .i64 ad,.int .i64 ae,.slice none 0 0,.slice none 0 0,.int .i64 0,.string (⟨#[]⟩ : ByteArray),.bool false]) ?_ 4 _ rfl; (with_reducible repeat (first | refine zj ?_ _ | refine zl ?_ | refine zk ?_ _)); refine zp (cs := #[.int .i64 a0,.int .i64 a1,.int .i64 ad,.int .i64 0,.slice none 0 0,.slice none 0 0,.int .i64 0,.string (⟨#[]⟩ : ByteArray),.bool false]) ?_ 3 _ rfl; (with_reducible repeat (first | refine zj ?_ _ | refine zl ?_ | refine zk ?_ _)); refine zp (cs := #[.int .i64 a0,.int .i64 a1,.int .i64 0,.int .i64 0,.slice none 0 0,.slice none 0 0,.int .i64 0,.string (⟨#[]⟩ : ByteArray),.bool false]) ?_ 2 _ rfl; (with_reducible repeat (first | refine zj ?_ _ | refine zl ?_ | refine zk ?_ _)); refine zp (cs := #[.int .i64 a0,.int .i64 0,.int .i64 0,.int .i64 0,.slice none 0 0,.slice none 0 0,.int .i64 0,.string (⟨#[]⟩ : ByteArray),.bool false]) ?_ 1 _ rfl; (with_reducible repeat (first | refine zj ?_ _ | refine zl ?_ | refine zk ?_ _)); refine zp (cs := #[.int .i64 0,.int .i64 0,.int .i64 0,.int .i64 0,.slice none 0 0,.slice none 0 0,.int .i64 0,.string (⟨#[]⟩ : ByteArray),.bool false]) ?_ 0 _ rfl; (with_reducible repeat (first | refine zj ?_ _ | refine zl ?_ | refine zk ?_ _)); exact ag.out) Try.underlying34 rfl (by kernel_rfl)) rfl ?_
    exact ⟨_,_,by first | rfl | (simp [zzl,zzm] <;> rfl) | (simp [*,zzl,zzm] <;> rfl),by (with_reducible repeat (first | apply zu | apply zt | apply zs)); exact zx (zr (p := ⟨ab,8,none⟩) (zr (p := ⟨ab,7,none⟩) (zr (p := ⟨ab,6,none⟩) (zr (p := ⟨ab,5,none⟩) (zr (p := ⟨ab,4,none⟩) (zr (p := ⟨ab,3,none⟩) (zr (p := ⟨ab,2,none⟩) (zr (p := ⟨ab,1,none⟩) (zr (p := ⟨ab,0,none⟩) (zy aT.out ag.out (by decide)) (fun _ hk => hk.2) (.int .i64 a0)) (fun _ hk => hk.2) (.int .i64 a1)) (fun _ hk => hk.2) (.int .i64 ad)) (fun _ hk => hk.2) (.int .i64 ae)) (fun _ hk => hk.2) (.slice aB aw.length aC)) (fun _ hk => hk.2) (.slice aG aA.length aH)) (fun _ hk => hk.2) (.int .i64 (af.size : Int))) (fun _ hk => hk.2) (.string (⟨#[]⟩ : ByteArray))) (fun _ hk => hk.2) (.bool true)) (fun _ hk => hk.1),by (with_reducible repeat (first | apply zu | apply zt | apply zs)); exact zx (zr (p := ⟨ab,8,none⟩) (zr (p := ⟨ab,7,none⟩) (zr (p := ⟨ab,6,none⟩) (zr (p := ⟨ab,5,none⟩) (zr (p := ⟨ab,4,none⟩) (zr (p := ⟨ab,3,none⟩) (zr (p := ⟨ab,2,none⟩) (zr (p := ⟨ab,1,none⟩) (zr (p := ⟨ab,0,none⟩) (zy aU.out ag.out (by decide)) (fun _ hk => hk.2) (.int .i64 a0)) (fun _ hk => hk.2) (.int .i64 a1)) (fun _ hk => hk.2) (.int .i64 ad)) (fun _ hk => hk.2) (.int .i64 ae)) (fun _ hk => hk.2) (.slice aB aw.length aC)) (fun _ hk => hk.2) (.slice aG aA.length aH)) (fun _ hk => hk.2) (.int .i64 (af.size : Int))) (fun _ hk => hk.2) (.string (⟨#[]⟩ : ByteArray))) (fun _ hk => hk.2) (.bool true)) (fun _ hk => hk.1),by repeat (first | (with_reducible first | exact HB.out | apply Zq | apply Zp | apply Zo | refine Zn ?_ am.out | refine Zn ?_ au.out) | exact HB.out)⟩
end Go.Proofs.Ytpagkmdlmhdenaa.PAll
