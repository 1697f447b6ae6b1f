-- Written by a program of the session.
import Derived.Test.YtpagkmdlmhdenaaAlAll
import Derived.Test.YtpagkmdlmhdenaaPAllx0
import Derived.Test.YtpagkmdlmhdenaaPAllx5
import Derived.Test.YtpagkmdlmhdenaaPAllx26
import Derived.Test.YtpagkmdlmhdenaaPAllx27
import Derived.Test.YtpagkmdlmhdenaaPAllx29
namespace Go.Proofs.Ytpagkmdlmhdenaa.PAll
open Go.RowKit Go.Proofs.YtpagkmdlmhdenaaW.PrintWords Go.Proofs.YtpagkmdlmhdenaaW.PrintLast Go.Proofs.YtpagkmdlmhdenaaW.PrintMore
attribute [local go_sem] max2_int min2_int max_two min_two max_three min_three max_four min_four   -- for this text's walks alone
set_option linter.unusedVariables false
set_option linter.unusedSimpArgs false
/-! ### r16_Take: function 23 -/
mutual
def r16_Take.j0 : Nat → Int → ByteArray → Bool → Int → Int → Int → Int → List Int → List Int → Int → ByteArray → Bool → Option (Int × Int × Int × Int × List Int × List Int × Int × ByteArray × Bool × Bool × Int)
 | 0,_,_,_,_,_,_,_,_,_,_,_,_ => none
 | k + 1,x1,x2,im,bd,be,bf,bg,bh,bi,aW,aQ,ba => if im = true then (some (0,0,0,0,([] : List Int),([] : List Int),0,(⟨#[]⟩ : ByteArray),false,false,150)) else ((r16_Own.f bd be bf bg bh bi aW aQ ba).bind fun ai => ((r16_Part.f k aW (aQ.size : Int)).bind fun bn => (if ba = true then (if x1 = (aQ.size : Int) then (r16_Take.j1 k x2 ((x2.size : Int) != bn.1) bd be bf bg bh bi aW aQ ba ai.1 ai.2.1 ai.2.2.1 ai.2.2.2.1 ai.2.2.2.2.1 ai.2.2.2.2.2.1 ai.2.2.2.2.2.2.1 ai.2.2.2.2.2.2.2.1 ai.2.2.2.2.2.2.2.2) else (r16_Take.j1 k x2 true bd be bf bg bh bi aW aQ ba ai.1 ai.2.1 ai.2.2.1 ai.2.2.2.1 ai.2.2.2.2.1 ai.2.2.2.2.2.1 ai.2.2.2.2.2.2.1 ai.2.2.2.2.2.2.2.1 ai.2.2.2.2.2.2.2.2)) else (r16_Take.j1 k x2 true bd be bf bg bh bi aW aQ ba ai.1 ai.2.1 ai.2.2.1 ai.2.2.2.1 ai.2.2.2.2.1 ai.2.2.2.2.2.1 ai.2.2.2.2.2.2.1 ai.2.2.2.2.2.2.2.1 ai.2.2.2.2.2.2.2.2))))
def r16_Take.j1 : Nat → ByteArray → Bool → Int → Int → Int → Int → List Int → List Int → Int → ByteArray → Bool → Int → Int → Int → Int → List Int → List Int → Int → ByteArray → Bool → Option (Int × Int × Int × Int × List Int × List Int × Int × ByteArray × Bool × Bool × Int)
 | 0,_,_,_,_,_,_,_,_,_,_,_,_,_,_,_,_,_,_,_,_ => none
 | k + 1,x2,ip,bd,be,bf,bg,bh,bi,aW,aQ,ba,bA,bB,bC,bD,bE,bF,bG,cW,cX => if ip = true then (some (bA,bB,bC,bD,bE,bF,bG,cW,cX,false,0)) else (if aQ.size + x2.size ≤ 9223372036854775807 then (some (bA,bB,bC,bD,bE,bF,bG,aQ ++ x2,decide (((aQ.size : Int) + (x2.size : Int)) < aW),true,0)) else (none))
end
def r16_Take.f (k : Nat) (al : Int) (am : Int) (an : Int) (ao : Int) (aj : List Int) (ak : List Int) (ag : Int) (ae : ByteArray) (ap : Bool) (a1 : Int) (a2 : ByteArray) : Option (Int × Int × Int × Int × List Int × List Int × Int × ByteArray × Bool × Bool × Int) := (r16_Right.f k al am an ao aj ak ag ae ap).bind fun br => (if br = true then ((r16_Zero.f al am an ao aj ak ag ae ap).bind fun bb => (r16_Take.j0 k a1 a2 bb al am an ao aj ak ag ae ap)) else (r16_Take.j0 k a1 a2 true al am an ao aj ak ag ae ap))
set_option maxHeartbeats 8000000 in
set_option maxRecDepth 100000 in
theorem r16_Take.calls (k : Nat) (al : Int) (am : Int) (an : Int) (ao : Int) (aB : Option Addr) (aC : Nat) (aj : List Int) (aD : Option Addr) (aE : Nat) (ak : List Int) (ag : Int) (ae : ByteArray) (ap : Bool) (a1 : Int) (a2 : ByteArray) (r1 : Int) (r2 : Int) (r3 : Int) (r4 : Int) (r5 : List Int) (r6 : List Int) (r7 : Int) (r8 : ByteArray) (r9 : Bool) (r10 : Bool) (r11 : Int) (w : World) (cQ : Kd.C (Kd.int .i64) w aB aj.length aj) (cR : aj.length ≤ aC) (cS : Kd.C (Kd.int .i64) w aD ak.length ak) (cT : ak.length ≤ aE) (h : r16_Take.f k al am an ao aj ak ag ae ap a1 a2 = some (r1,r2,r3,r4,r5,r6,r7,r8,r9,r10,r11)) :
 Calls Try.prog 23 #[.agg #[.int .i64 al,.int .i64 am,.int .i64 an,.int .i64 ao,.slice aB aj.length aC,.slice aD ak.length aE,.int .i64 ag,.string ae,.bool ap],.int .i64 a1,.string a2] w fun e w' => ∃ fx fy : Value,e = .returned (.tuple #[.agg #[.int .i64 r1,.int .i64 r2,.int .i64 r3,.int .i64 r4,fx,fy,.int .i64 r7,.string r8,.bool r9],.bool r10,.int .i64 r11]) ∧ Kd.R (Kd.int .i64) 3 w' w.heap.size (fun k_ => some k_ ≠ (fy : Value).ownBlock) fx r5 ∧ Kd.R (Kd.int .i64) 3 w' w.heap.size (fun k_ => some k_ ≠ (fx : Value).ownBlock) fy r6 ∧ Below w.heap.size w w' := by
 have hu34 := Try.underlying34
 have bu := zzk cQ
 have bv := zzk cR
 clear cQ cR
 have bw := zzk cS
 have bx := zzk cT
 clear cS cT
 have HB := zzk (Below.refl w.heap.size w)
 have H : ((r16_Right.f k al am an ao aj ak ag ae ap).bind fun br => (if br = true then ((r16_Zero.f al am an ao aj ak ag ae ap).bind fun bb => (r16_Take.j0 k a1 a2 bb al am an ao aj ak ag ae ap)) else (r16_Take.j0 k a1 a2 true al am an ao aj ak ag ae ap))) = some (r1,r2,r3,r4,r5,r6,r7,r8,r9,r10,r11) := h
 clear h
 have fz := zzk H
 clear H
 go_enter Try.func23,Try.ntmps23
 go_upto_region 1 with (first | ((with_reducible refine Zy (N := 3) rfl ?_); (try (refine Zz (by rfl) ?_; dsimp only)); refine zzc ?hg (N := 3) ?hd (cs := #[.int .i64 al,.int .i64 am,.int .i64 an,.int .i64 ao,.slice aB aj.length aC,.slice aD ak.length aE,.int .i64 ag,.string ae,.bool ap]) (t := 34) ?hr ?_; (case hd => rfl); (case hg => rfl); (case hr => first | (go_simp; done) | (go_simp; rfl)); intro ab hg w5 hbox hb; have aR := zzk (Zs (by repeat (first | (with_reducible first | exact HB.out | apply Zq | apply Zp | apply Zo) | exact HB.out)) hb); have aS := zzk (hbox); have aT := zzk ((by rw [hg]; exact (Zr (by repeat (first | (with_reducible first | exact HB.out | apply Zq | apply Zp | apply Zo) | exact HB.out))) : w.heap.size ≤ ab)); have bc := zzk ((by rw [hg]; exact (Zr (by repeat (first | (with_reducible first | exact HB.out | apply Zq | apply Zp | apply Zo) | exact HB.out))) : w.heap.size ≤ ab)); clear HB; have HB := aR; have aa := aS; have ix := aT; have aF := bc; clear aR aS aT bc; clear hb hbox hg) | ((with_reducible refine Zy (N := 6) rfl ?_); (try (refine Zz (by rfl) ?_; dsimp only)); refine zzc ?hg (N := 6) ?hd (cs := #[.int .i64 0,.int .i64 0,.int .i64 0,.int .i64 0,.slice none 0 0,.slice none 0 0,.int .i64 0,.string (⟨#[]⟩ : ByteArray),.bool false]) (t := 34) ?hr ?_; (case hd => rfl); (case hg => rfl); (case hr => first | (go_simp; done) | (go_simp; rfl)); intro ad hg w6 hbox hb; have aR := zzk (zo (g := ab) (o := .cells #[.int .i64 al,.int .i64 am,.int .i64 an,.int .i64 ao,.slice aB aj.length aC,.slice aD ak.length aE,.int .i64 ag,.string ae,.bool ap] 34 (0,0)) (by (with_reducible repeat (first | refine zj ?_ _ | refine zl ?_ | refine zk ?_ _)); exact aa.out) hb); have aS := zzk (Zs (by repeat (first | (with_reducible first | exact HB.out | apply Zq | apply Zp | apply Zo | refine Zn ?_ aF.out) | exact HB.out)) hb); have aT := zzk (hbox); have bc := zzk ((by rw [hg]; exact (Zr (by repeat (first | (with_reducible first | exact HB.out | apply Zq | apply Zp | apply Zo | refine Zn ?_ aF.out) | exact HB.out))) : w.heap.size ≤ ad)); have bj := zzk ((by rw [hg]; exact (Zr (by repeat (first | (with_reducible first | exact HB.out | apply Zq | apply Zp | apply Zo | refine Zn ?_ aF.out) | exact HB.out))) : w.heap.size ≤ ad)); have bs := zzk ((by rw [hg]; exact Nat.ne_of_lt (zq (g := ab) (o := .cells #[.int .i64 al,.int .i64 am,.int .i64 an,.int .i64 ao,.slice aB aj.length aC,.slice aD ak.length aE,.int .i64 ag,.string ae,.bool ap] 34 (0,0)) (by (with_reducible repeat (first | refine zj ?_ _ | refine zl ?_ | refine zk ?_ _)); exact aa.out)) : ab ≠ ad)); have cL := zzk ((by rw [hg]; exact Nat.ne_of_gt (zq (g := ab) (o := .cells #[.int .i64 al,.int .i64 am,.int .i64 an,.int .i64 ao,.slice aB aj.length aC,.slice aD ak.length aE,.int .i64 ag,.string ae,.bool ap] 34 (0,0)) (by (with_reducible repeat (first | refine zj ?_ _ | refine zl ?_ | refine zk ?_ _)); exact aa.out)) : ad ≠ ab)); clear aa; clear HB; have aa := aR; have HB := aS; have ac := aT; have iy := bc; have aL := bj; have aM := bs; have aN := cL; clear aR aS aT bc bj bs cL; clear hb hbox hg))
 (try simp only [Act.put,za,zb,zc])
 go_cut [18] (fun iq wc => ∃ (kq : Nat) (bz : Bool),iq = .bool bz ∧ Aside0 (r16_Take.j0 kq a1 a2 bz al am an ao aj ak ag ae ap = some (r1,r2,r3,r4,r5,r6,r7,r8,r9,r10,r11)) ∧ Aside0 (kq ≤ k) ∧ Aside0 (wc.heap[ab]? = some (.cells #[.int .i64 al,.int .i64 am,.int .i64 an,.int .i64 ao,(.slice aB aj.length aC),(.slice aD ak.length aE),.int .i64 ag,.string ae,.bool ap] 34 (0,0))) ∧ Aside0 (wc.heap[ad]? = some (.cells #[.int .i64 0,.int .i64 0,.int .i64 0,.int .i64 0,(.slice none 0 0),(.slice none 0 0),.int .i64 0,.string (⟨#[]⟩ : ByteArray),.bool false] 34 (0,0))) ∧ Aside0 (Below w.heap.size w wc))
 case first =>
  have H := fz.out
  clear fz
  replace H := Option.bind_eq_some_iff.mp H
  obtain ⟨br,fE,H⟩ := H
  replace H : (if br = true then ((r16_Zero.f al am an ao aj ak ag ae ap).bind fun bb => (r16_Take.j0 k a1 a2 bb al am an ao aj ak ag ae ap)) else (r16_Take.j0 k a1 a2 true al am an ao aj ak ag ae ap)) = some (r1,r2,r3,r4,r5,r6,r7,r8,r9,r10,r11) := H
  have A7 := zzk fE
  clear fE
  by_cases c8 : br = true
  ·
   subst c8
   have H1 : ((r16_Zero.f al am an ao aj ak ag ae ap).bind fun bb => (r16_Take.j0 k a1 a2 bb al am an ao aj ak ag ae ap)) = some (r1,r2,r3,r4,r5,r6,r7,r8,r9,r10,r11) := by rw [if_pos rfl] at H; exact H
   clear H
   have H := H1
   clear H1
   replace H := Option.bind_eq_some_iff.mp H
   obtain ⟨bb,fF,H⟩ := H
   replace H : (r16_Take.j0 k a1 a2 bb al am an ao aj ak ag ae ap) = some (r1,r2,r3,r4,r5,r6,r7,r8,r9,r10,r11) := H
   have A9 := zzk fF
   clear fF
   have H' := zzk H
   clear H
   have iz := aM.out
   have iA := aN.out
   have bH : w6.cell? ⟨ab,0,none⟩ = some (.int .i64 al) := (zi aa.out 0).trans rfl
   have bI : w6.cell? ⟨ab,1,none⟩ = some (.int .i64 am) := (zi aa.out 1).trans rfl
   have bJ : w6.cell? ⟨ab,2,none⟩ = some (.int .i64 an) := (zi aa.out 2).trans rfl
   have bK : w6.cell? ⟨ab,3,none⟩ = some (.int .i64 ao) := (zi aa.out 3).trans rfl
   have bL : w6.cell? ⟨ab,4,none⟩ = some (.slice aB aj.length aC) := (zi aa.out 4).trans rfl
   have bM : w6.cell? ⟨ab,5,none⟩ = some (.slice aD ak.length aE) := (zi aa.out 5).trans rfl
   have bN : w6.cell? ⟨ab,6,none⟩ = some (.int .i64 ag) := (zi aa.out 6).trans rfl
   have bO : w6.cell? ⟨ab,7,none⟩ = some (.string ae) := (zi aa.out 7).trans rfl
   have bP : w6.cell? ⟨ab,8,none⟩ = some (.bool ap) := (zi aa.out 8).trans rfl
   have bQ := zm aa.out 0
   have bR := zm aa.out 1
   have bS := zm aa.out 2
   have bT := zm aa.out 3
   have bU := zm aa.out 4
   have bV := zm aa.out 5
   have bW := zm aa.out 6
   have bX := zm aa.out 7
   have bY := zm aa.out 8
   go_wp2_with (first | ((with_reducible refine zza (f := 20) rfl ?_); refine zzd (some 13) rfl rfl Try.func20 (by kernel_rfl) rfl #[.agg #[.int .i64 al,.int .i64 am,.int .i64 an,.int .i64 ao,.slice aB aj.length aC,.slice aD ak.length aE,.int .i64 ag,.string ae,.bool ap]] rfl (by (try simp only [zd,ze,zf]); first | done | rfl | (simp only [zg,zh]; rfl)) ?_; (with_reducible refine (r16_Right.calls k al am an ao _ _ aj _ _ ak ag ae ap true _ ?side1 ?side2 ?side3 ?side4 A7.out).mono ?_); (case side1 => repeat (first | exact (Zm bu.out HB.out) | (with_reducible refine Zk ?_ _) | (with_reducible refine Zj ?_ _) | (with_reducible refine Zl ?_))); (case side2 => exact bv.out); (case side3 => repeat (first | exact (Zm bw.out HB.out) | (with_reducible refine Zk ?_ _) | (with_reducible refine Zj ?_ _) | (with_reducible refine Zl ?_))); (case side4 => exact bx.out); rintro e bo ⟨rfl,hb⟩; refine ⟨_,rfl,?_⟩; have aR := zzk (zo (g := ab) (o := .cells #[.int .i64 al,.int .i64 am,.int .i64 an,.int .i64 ao,.slice aB aj.length aC,.slice aD ak.length aE,.int .i64 ag,.string ae,.bool ap] 34 (0,0)) (by (with_reducible repeat (first | refine zj ?_ _ | refine zl ?_ | refine zk ?_ _)); exact aa.out) hb); have aS := zzk (zo (g := ad) (o := .cells #[.int .i64 0,.int .i64 0,.int .i64 0,.int .i64 0,.slice none 0 0,.slice none 0 0,.int .i64 0,.string (⟨#[]⟩ : ByteArray),.bool false] 34 (0,0)) (by (with_reducible repeat (first | refine zj ?_ _ | refine zl ?_ | refine zk ?_ _)); exact ac.out) hb); have aT := zzk (Zs (by repeat (first | (with_reducible first | exact HB.out | apply Zq | apply Zp | apply Zo | refine Zn ?_ aF.out | refine Zn ?_ aL.out) | exact HB.out)) hb); clear aa; clear ac; clear HB; have aa := aR; have ac := aS; have HB := aT; clear aR aS aT; (try clear hb); (try clear hb2); (try clear hk); (try clear hi); have bZ : bo.cell? ⟨ab,0,none⟩ = some (.int .i64 al) := (zi aa.out 0).trans rfl; have ca : bo.cell? ⟨ab,1,none⟩ = some (.int .i64 am) := (zi aa.out 1).trans rfl; have cb : bo.cell? ⟨ab,2,none⟩ = some (.int .i64 an) := (zi aa.out 2).trans rfl; have cc : bo.cell? ⟨ab,3,none⟩ = some (.int .i64 ao) := (zi aa.out 3).trans rfl; have cd : bo.cell? ⟨ab,4,none⟩ = some (.slice aB aj.length aC) := (zi aa.out 4).trans rfl; have ce : bo.cell? ⟨ab,5,none⟩ = some (.slice aD ak.length aE) := (zi aa.out 5).trans rfl; have cf : bo.cell? ⟨ab,6,none⟩ = some (.int .i64 ag) := (zi aa.out 6).trans rfl; have cg : bo.cell? ⟨ab,7,none⟩ = some (.string ae) := (zi aa.out 7).trans rfl; have ch : bo.cell? ⟨ab,8,none⟩ = some (.bool ap) := (zi aa.out 8).trans rfl; have ci := zm aa.out 0; have cj := zm aa.out 1; have ck := zm aa.out 2; have cl := zm aa.out 3; have cm := zm aa.out 4; have cn := zm aa.out 5; have co := zm aa.out 6; have cp := zm aa.out 7; have cq := zm aa.out 8) | (go_at_call 37; (with_reducible refine (r16_Zero.calls al am an ao _ _ aj _ _ ak ag ae ap bb _ ?side1 ?side2 ?side3 ?side4 A9.out).mono ?_); (case side1 => repeat (first | exact (Zm bu.out HB.out) | (with_reducible refine Zk ?_ _) | (with_reducible refine Zj ?_ _) | (with_reducible refine Zl ?_))); (case side2 => exact bv.out); (case side3 => repeat (first | exact (Zm bw.out HB.out) | (with_reducible refine Zk ?_ _) | (with_reducible refine Zj ?_ _) | (with_reducible refine Zl ?_))); (case side4 => exact bx.out); rintro e jq ⟨rfl,hb⟩; have aR := zzk (zo (g := ab) (o := .cells #[.int .i64 al,.int .i64 am,.int .i64 an,.int .i64 ao,.slice aB aj.length aC,.slice aD ak.length aE,.int .i64 ag,.string ae,.bool ap] 34 (0,0)) (by (with_reducible repeat (first | refine zj ?_ _ | refine zl ?_ | refine zk ?_ _)); exact aa.out) hb); have aS := zzk (zo (g := ad) (o := .cells #[.int .i64 0,.int .i64 0,.int .i64 0,.int .i64 0,.slice none 0 0,.slice none 0 0,.int .i64 0,.string (⟨#[]⟩ : ByteArray),.bool false] 34 (0,0)) (by (with_reducible repeat (first | refine zj ?_ _ | refine zl ?_ | refine zk ?_ _)); exact ac.out) hb); have aT := zzk (Zs (by repeat (first | (with_reducible first | exact HB.out | apply Zq | apply Zp | apply Zo | refine Zn ?_ aF.out | refine Zn ?_ aL.out) | exact HB.out)) hb); clear aa; clear ac; clear HB; have aa := aR; have ac := aS; have HB := aT; clear aR aS aT; (try clear hb); (try clear hb2); (try clear hk); (try clear hi)))
   go_meet
   case rel => exact ⟨_,(bb),(by first | rfl | (simp; done) | (simp [*]; done)),H',⟨by first | omega | exact Nat.le_refl _⟩,⟨by (with_reducible repeat (first | refine zj ?_ _ | refine zl ?_ | refine zk ?_ _)); exact aa.out⟩,⟨by (with_reducible repeat (first | refine zj ?_ _ | refine zl ?_ | refine zk ?_ _)); exact ac.out⟩,⟨by repeat (first | (with_reducible first | exact HB.out | apply Zq | apply Zp | apply Zo | refine Zn ?_ aF.out | refine Zn ?_ aL.out) | exact HB.out)⟩⟩
  ·
   replace c8 := Bool.eq_false_iff.mpr c8
   subst c8
   have H1 : (r16_Take.j0 k a1 a2 true al am an ao aj ak ag ae ap) = some (r1,r2,r3,r4,r5,r6,r7,r8,r9,r10,r11) := by rw [if_neg (show ¬ (false = true) by decide)] at H; exact H
   clear H
   have H := H1
   clear H1
   have H' := zzk H
   clear H
   have iB := aM.out
   have iC := aN.out
   have cr : w6.cell? ⟨ab,0,none⟩ = some (.int .i64 al) := (zi aa.out 0).trans rfl
   have ct : w6.cell? ⟨ab,1,none⟩ = some (.int .i64 am) := (zi aa.out 1).trans rfl
   have cu : w6.cell? ⟨ab,2,none⟩ = some (.int .i64 an) := (zi aa.out 2).trans rfl
   have cv : w6.cell? ⟨ab,3,none⟩ = some (.int .i64 ao) := (zi aa.out 3).trans rfl
   have cw : w6.cell? ⟨ab,4,none⟩ = some (.slice aB aj.length aC) := (zi aa.out 4).trans rfl
   have cx : w6.cell? ⟨ab,5,none⟩ = some (.slice aD ak.length aE) := (zi aa.out 5).trans rfl
   have cy : w6.cell? ⟨ab,6,none⟩ = some (.int .i64 ag) := (zi aa.out 6).trans rfl
   have cz : w6.cell? ⟨ab,7,none⟩ = some (.string ae) := (zi aa.out 7).trans rfl
   have cA : w6.cell? ⟨ab,8,none⟩ = some (.bool ap) := (zi aa.out 8).trans rfl
   have cB := zm aa.out 0
   have cC := zm aa.out 1
   have cD := zm aa.out 2
   have cE := zm aa.out 3
   have cF := zm aa.out 4
   have cG := zm aa.out 5
   have cH := zm aa.out 6
   have cI := zm aa.out 7
   have cJ := zm aa.out 8
   go_wp2_with (first | ((with_reducible refine zza (f := 20) rfl ?_); refine zzd (some 13) rfl rfl Try.func20 (by kernel_rfl) rfl #[.agg #[.int .i64 al,.int .i64 am,.int .i64 an,.int .i64 ao,.slice aB aj.length aC,.slice aD ak.length aE,.int .i64 ag,.string ae,.bool ap]] rfl (by (try simp only [zd,ze,zf]); first | done | rfl | (simp only [zg,zh]; rfl)) ?_; (with_reducible refine (r16_Right.calls k al am an ao _ _ aj _ _ ak ag ae ap false _ ?side1 ?side2 ?side3 ?side4 A7.out).mono ?_); (case side1 => repeat (first | exact (Zm bu.out HB.out) | (with_reducible refine Zk ?_ _) | (with_reducible refine Zj ?_ _) | (with_reducible refine Zl ?_))); (case side2 => exact bv.out); (case side3 => repeat (first | exact (Zm bw.out HB.out) | (with_reducible refine Zk ?_ _) | (with_reducible refine Zj ?_ _) | (with_reducible refine Zl ?_))); (case side4 => exact bx.out); rintro e jr ⟨rfl,hb⟩; refine ⟨_,rfl,?_⟩; have aR := zzk (zo (g := ab) (o := .cells #[.int .i64 al,.int .i64 am,.int .i64 an,.int .i64 ao,.slice aB aj.length aC,.slice aD ak.length aE,.int .i64 ag,.string ae,.bool ap] 34 (0,0)) (by (with_reducible repeat (first | refine zj ?_ _ | refine zl ?_ | refine zk ?_ _)); exact aa.out) hb); have aS := zzk (zo (g := ad) (o := .cells #[.int .i64 0,.int .i64 0,.int .i64 0,.int .i64 0,.slice none 0 0,.slice none 0 0,.int .i64 0,.string (⟨#[]⟩ : ByteArray),.bool false] 34 (0,0)) (by (with_reducible repeat (first | refine zj ?_ _ | refine zl ?_ | refine zk ?_ _)); exact ac.out) hb); have aT := zzk (Zs (by repeat (first | (with_reducible first | exact HB.out | apply Zq | apply Zp | apply Zo | refine Zn ?_ aF.out | refine Zn ?_ aL.out) | exact HB.out)) hb); clear aa; clear ac; clear HB; have aa := aR; have ac := aS; have HB := aT; clear aR aS aT; (try clear hb); (try clear hb2); (try clear hk); (try clear hi)))
   go_meet
   case rel => exact ⟨_,(true),(by first | rfl | (simp; done) | (simp [*]; done)),H',⟨by first | omega | exact Nat.le_refl _⟩,⟨by (with_reducible repeat (first | refine zj ?_ _ | refine zl ?_ | refine zk ?_ _)); exact aa.out⟩,⟨by (with_reducible repeat (first | refine zj ?_ _ | refine zl ?_ | refine zk ?_ _)); exact ac.out⟩,⟨by repeat (first | (with_reducible first | exact HB.out | apply Zq | apply Zp | apply Zo | refine Zn ?_ aF.out | refine Zn ?_ aL.out) | exact HB.out)⟩⟩
 case rest =>
  clear fz
  try clear c1
  try clear c2
  try clear p2
  try clear c8
  try clear ir
  try clear it
  try clear bH
  try clear bI
  try clear bJ
  try clear bK
  try clear bL
  try clear bM
  try clear bN
  try clear bO
  try clear bP
  try clear bZ
  try clear ca
  try clear cb
  try clear cc
  try clear cd
  try clear ce
  try clear cf
  try clear cg
  try clear ch
  try clear cr
  try clear ct
  try clear cu
  try clear cv
  try clear cw
  try clear cx
  try clear cy
  try clear cz
  try clear cA
  try clear bQ
  try clear bR
  try clear bS
  try clear bT
  try clear bU
  try clear bV
  try clear bW
  try clear bX
  try clear bY
  try clear ci
  try clear cj
  try clear ck
  try clear cl
  try clear cm
  try clear cn
  try clear co
  try clear cp
  try clear cq
  try clear cB
  try clear cC
  try clear cD
  try clear cE
  try clear cF
  try clear cG
  try clear cH
  try clear cI
  try clear cJ
  obtain ⟨kq,bz,rfl,HA,HJ3,aa,ac,HB⟩ := hcut
  cases kq with
  | zero => exact absurd HA.out (by simp [r16_Take.j0])
  | succ aZ =>
   have H := HA.out
   clear HA
   simp only [r16_Take.j0] at H
   by_cases cM : bz = true
   ·
    subst cM
    have H1 : (some (0,0,0,0,([] : List Int),([] : List Int),0,(⟨#[]⟩ : ByteArray),false,false,150)) = some (r1,r2,r3,r4,r5,r6,r7,r8,r9,r10,r11) := by rw [if_pos rfl] at H; exact H
    clear H
    have H := H1
    clear H1
    simp only [zzg,zzh] at H
    obtain ⟨rfl,rfl,rfl,rfl,rfl,rfl,rfl,rfl,rfl,rfl,rfl⟩ := H
    have iD := aN.out
    have iE := aM.out
    have cY : wc.cell? ⟨ad,0,none⟩ = some (.int .i64 0) := (zi ac.out 0).trans rfl
    have cZ : wc.cell? ⟨ad,1,none⟩ = some (.int .i64 0) := (zi ac.out 1).trans rfl
    have da : wc.cell? ⟨ad,2,none⟩ = some (.int .i64 0) := (zi ac.out 2).trans rfl
    have db : wc.cell? ⟨ad,3,none⟩ = some (.int .i64 0) := (zi ac.out 3).trans rfl
    have dc : wc.cell? ⟨ad,4,none⟩ = some (.slice none 0 0) := (zi ac.out 4).trans rfl
    have dd : wc.cell? ⟨ad,5,none⟩ = some (.slice none 0 0) := (zi ac.out 5).trans rfl
    have de : wc.cell? ⟨ad,6,none⟩ = some (.int .i64 0) := (zi ac.out 6).trans rfl
    have df : wc.cell? ⟨ad,7,none⟩ = some (.string (⟨#[]⟩ : ByteArray)) := (zi ac.out 7).trans rfl
    have dg : wc.cell? ⟨ad,8,none⟩ = some (.bool false) := (zi ac.out 8).trans rfl
    have dh := zm ac.out 0
    have di := zm ac.out 1
    have dj := zm ac.out 2
    have dk := zm ac.out 3
    have dl := zm ac.out 4
    have dm := zm ac.out 5
    have dn := zm ac.out 6
    have dp := zm ac.out 7
    have dq := zm ac.out 8
    go_wp2
    refine zzf (results_ctt rfl _ _ ad 34 #[.int .i64 0,.int .i64 0,.int .i64 0,.int .i64 0,.slice none 0 0,.slice none 0 0,.int .i64 0,.string (⟨#[]⟩ : ByteArray),.bool false] (0,0) _ rfl (by (with_reducible repeat (first | refine zj ?_ _ | refine zl ?_ | refine zk ?_ _)); refine zp (cs := #[.int .i64 0,.int .i64 0,.int .i64 0,.int .i64 0,.slice none 0 0,.slice none 0 0,.int .i64 0,.string (⟨#[]⟩ : ByteArray),.bool false]) ?_ 8 _ rfl; (with_reducible repeat (first | refine zj ?_ _ | refine zl ?_ | refine zk ?_ _)); refine zp (cs := #[.int .i64 0,.int .i64 0,.int .i64 0,.int .i64 0,.slice none 0 0,.slice none 0 0,.int .i64 0,.string (⟨#[]⟩ : ByteArray),.bool false]) ?_ 7 _ rfl; (with_reducible repeat (first | refine zj ?_ _ | refine zl ?_ | refine zk ?_ _)); refine zp (cs := #[.int .i64 0,.int .i64 0,.int .i64 0,.int .i64 0,.slice none 0 0,.slice none 0 0,.int .i64 0,.string (⟨#[]⟩ : ByteArray),.bool false]) ?_ 6 _ rfl; (with_reducible repeat (first | refine zj ?_ _ | refine zl ?_ | refine zk ?_ _)); refine zp (cs := #[.int .i64 0,.int .i64 0,.int .i64 0,.int .i64 0,.slice none 0 0,.slice none 0 0,.int .i64 0,.string (⟨#[]⟩ : ByteArray),.bool false]) ?_ 5 _ rfl; (with_reducible repeat (first | refine zj ?_ _ | refine zl ?_ | refine zk ?_ _)); refine zp (cs := #[.int .i64 0,.int .i64 0,.int .i64 0,.int .i64 0,.slice none 0 0,.slice none 0 0,.int .i64 0,.string (⟨#[]⟩ : ByteArray),.bool false]) ?_ 4 _ rfl; (with_reducible repeat (first | refine zj ?_ _ | refine zl ?_ | refine zk ?_ _)); refine zp (cs := #[.int .i64 0,.int .i64 0,.int .i64 0,.int .i64 0,.slice none 0 0,.slice none 0 0,.int .i64 0,.string (⟨#[]⟩ : ByteArray),.bool false]) ?_ 3 _ rfl; (with_reducible repeat (first | refine zj ?_ _ | refine zl ?_ | refine zk ?_ _)); refine zp (cs := #[.int .i64 0,.int .i64 0,.int .i64 0,.int .i64 0,.slice none 0 0,.slice none 0 0,.int .i64 0,.string (⟨#[]⟩ : ByteArray),.bool false]) ?_ 2 _ rfl; (with_reducible repeat (first | refine zj ?_ _ | refine zl ?_ | refine zk ?_ _)); refine zp (cs := #[.int .i64 0,.int .i64 0,.int .i64 0,.int .i64 0,.slice none 0 0,.slice none 0 0,.int .i64 0,.string (⟨#[]⟩ : ByteArray),.bool false]) ?_ 1 _ rfl; (with_reducible repeat (first | refine zj ?_ _ | refine zl ?_ | refine zk ?_ _)); refine zp (cs := #[.int .i64 0,.int .i64 0,.int .i64 0,.int .i64 0,.slice none 0 0,.slice none 0 0,.int .i64 0,.string (⟨#[]⟩ : ByteArray),.bool false]) ?_ 0 _ rfl; (with_reducible repeat (first | refine zj ?_ _ | refine zl ?_ | refine zk ?_ _)); exact ac.out) Try.underlying34 rfl (by kernel_rfl)) rfl ?_
    exact ⟨_,_,by first | rfl | (simp [zzl,zzm] <;> rfl) | (simp [*,zzl,zzm] <;> rfl),by first | exact Ze _ _ _ _ _ | exact Zf _ _ _ _ _ | exact Zg _ _ _ _ _ | exact Zh _ _ _ _ _ | exact Zi _ _ _ _ _,by first | exact Ze _ _ _ _ _ | exact Zf _ _ _ _ _ | exact Zg _ _ _ _ _ | exact Zh _ _ _ _ _ | exact Zi _ _ _ _ _,by repeat (first | (with_reducible first | exact HB.out | apply Zq | apply Zp | apply Zo | refine Zn ?_ aF.out | refine Zn ?_ aL.out) | exact HB.out)⟩
   ·
    replace cM := Bool.eq_false_iff.mpr cM
    subst cM
    have H1 : ((r16_Own.f al am an ao aj ak ag ae ap).bind fun ai => ((r16_Part.f aZ ag (ae.size : Int)).bind fun bn => (if ap = true then (if a1 = (ae.size : Int) then (r16_Take.j1 aZ a2 ((a2.size : Int) != bn.1) al am an ao aj ak ag ae ap ai.1 ai.2.1 ai.2.2.1 ai.2.2.2.1 ai.2.2.2.2.1 ai.2.2.2.2.2.1 ai.2.2.2.2.2.2.1 ai.2.2.2.2.2.2.2.1 ai.2.2.2.2.2.2.2.2) else (r16_Take.j1 aZ a2 true al am an ao aj ak ag ae ap ai.1 ai.2.1 ai.2.2.1 ai.2.2.2.1 ai.2.2.2.2.1 ai.2.2.2.2.2.1 ai.2.2.2.2.2.2.1 ai.2.2.2.2.2.2.2.1 ai.2.2.2.2.2.2.2.2)) else (r16_Take.j1 aZ a2 true al am an ao aj ak ag ae ap ai.1 ai.2.1 ai.2.2.1 ai.2.2.2.1 ai.2.2.2.2.1 ai.2.2.2.2.2.1 ai.2.2.2.2.2.2.1 ai.2.2.2.2.2.2.2.1 ai.2.2.2.2.2.2.2.2)))) = some (r1,r2,r3,r4,r5,r6,r7,r8,r9,r10,r11) := by rw [if_neg (show ¬ (false = true) by decide)] at H; exact H
    clear H
    have H := H1
    clear H1
    replace H := Option.bind_eq_some_iff.mp H
    obtain ⟨⟨aq,ar,au,av,aw,ax,aA,aI,aO⟩,fA,H⟩ := H
    replace H : ((r16_Part.f aZ ag (ae.size : Int)).bind fun bn => (if ap = true then (if a1 = (ae.size : Int) then (r16_Take.j1 aZ a2 ((a2.size : Int) != bn.1) al am an ao aj ak ag ae ap aq ar au av aw ax aA aI aO) else (r16_Take.j1 aZ a2 true al am an ao aj ak ag ae ap aq ar au av aw ax aA aI aO)) else (r16_Take.j1 aZ a2 true al am an ao aj ak ag ae ap aq ar au av aw ax aA aI aO))) = some (r1,r2,r3,r4,r5,r6,r7,r8,r9,r10,r11) := H
    have iu := zzk fA
    clear fA
    replace H := Option.bind_eq_some_iff.mp H
    obtain ⟨⟨cK,fJ⟩,fB,H⟩ := H
    replace H : (if ap = true then (if a1 = (ae.size : Int) then (r16_Take.j1 aZ a2 ((a2.size : Int) != cK) al am an ao aj ak ag ae ap aq ar au av aw ax aA aI aO) else (r16_Take.j1 aZ a2 true al am an ao aj ak ag ae ap aq ar au av aw ax aA aI aO)) else (r16_Take.j1 aZ a2 true al am an ao aj ak ag ae ap aq ar au av aw ax aA aI aO)) = some (r1,r2,r3,r4,r5,r6,r7,r8,r9,r10,r11) := H
    have iv := zzk fB
    clear fB
    have cP := zzk H
    clear H
    have iF := aM.out
    have iG := aN.out
    have dr : wc.cell? ⟨ab,0,none⟩ = some (.int .i64 al) := (zi aa.out 0).trans rfl
    have ds : wc.cell? ⟨ab,1,none⟩ = some (.int .i64 am) := (zi aa.out 1).trans rfl
    have dt : wc.cell? ⟨ab,2,none⟩ = some (.int .i64 an) := (zi aa.out 2).trans rfl
    have du : wc.cell? ⟨ab,3,none⟩ = some (.int .i64 ao) := (zi aa.out 3).trans rfl
    have dv : wc.cell? ⟨ab,4,none⟩ = some (.slice aB aj.length aC) := (zi aa.out 4).trans rfl
    have dw : wc.cell? ⟨ab,5,none⟩ = some (.slice aD ak.length aE) := (zi aa.out 5).trans rfl
    have dx : wc.cell? ⟨ab,6,none⟩ = some (.int .i64 ag) := (zi aa.out 6).trans rfl
    have dy : wc.cell? ⟨ab,7,none⟩ = some (.string ae) := (zi aa.out 7).trans rfl
    have dz : wc.cell? ⟨ab,8,none⟩ = some (.bool ap) := (zi aa.out 8).trans rfl
    have dA := zm aa.out 0
    have dB := zm aa.out 1
    have dC := zm aa.out 2
    have dD := zm aa.out 3
    have dE := zm aa.out 4
    have dF := zm aa.out 5
    have dG := zm aa.out 6
    have dH := zm aa.out 7
    have dI := zm aa.out 8
    go_upto_region 5 with (first | ((with_reducible refine zza (f := 21) rfl ?_); refine zzd (some 21) rfl rfl Try.func21 (by kernel_rfl) rfl #[.agg #[.int .i64 al,.int .i64 am,.int .i64 an,.int .i64 ao,.slice aB aj.length aC,.slice aD ak.length aE,.int .i64 ag,.string ae,.bool ap]] rfl (by (try simp only [zd,ze,zf]); first | done | rfl | (simp only [zg,zh]; rfl)) ?_; (with_reducible refine (r16_Own.calls al am an ao _ _ aj _ _ ak ag ae ap aq ar au av aw ax aA aI aO _ ?side1 ?side2 ?side3 ?side4 iu.out).mono ?_); (case side1 => repeat (first | exact (Zm bu.out HB.out) | (with_reducible refine Zk ?_ _) | (with_reducible refine Zj ?_ _) | (with_reducible refine Zl ?_))); (case side2 => exact bv.out); (case side3 => repeat (first | exact (Zm bw.out HB.out) | (with_reducible refine Zk ?_ _) | (with_reducible refine Zj ?_ _) | (with_reducible refine Zl ?_))); (case side4 => exact bx.out); rintro e js ⟨jn,jo,rfl,ho0,ho1,hb⟩; refine ⟨_,rfl,?_⟩; have aR := zzk (Za ho0 (Zr (by repeat (first | (with_reducible first | exact HB.out | apply Zq | apply Zp | apply Zo | refine Zn ?_ aF.out | refine Zn ?_ aL.out) | exact HB.out)))); have aS := zzk (Za ho1 (Zr (by repeat (first | (with_reducible first | exact HB.out | apply Zq | apply Zp | apply Zo | refine Zn ?_ aF.out | refine Zn ?_ aL.out) | exact HB.out)))); have aT := zzk (zo (g := ab) (o := .cells #[.int .i64 al,.int .i64 am,.int .i64 an,.int .i64 ao,.slice aB aj.length aC,.slice aD ak.length aE,.int .i64 ag,.string ae,.bool ap] 34 (0,0)) (by (with_reducible repeat (first | refine zj ?_ _ | refine zl ?_ | refine zk ?_ _)); exact aa.out) hb); have bc := zzk (zo (g := ad) (o := .cells #[.int .i64 0,.int .i64 0,.int .i64 0,.int .i64 0,.slice none 0 0,.slice none 0 0,.int .i64 0,.string (⟨#[]⟩ : ByteArray),.bool false] 34 (0,0)) (by (with_reducible repeat (first | refine zj ?_ _ | refine zl ?_ | refine zk ?_ _)); exact ac.out) hb); have bj := zzk (Zs (by repeat (first | (with_reducible first | exact HB.out | apply Zq | apply Zp | apply Zo | refine Zn ?_ aF.out | refine Zn ?_ aL.out) | exact HB.out)) hb); clear aa; clear ac; clear HB; have aX := aR; have aY := aS; have aa := aT; have ac := bc; have HB := bj; clear aR aS aT bc bj; (try clear hb); (try clear hb2); (try clear hk); (try clear hi); (try clear ho0); (try clear ho1)) | ((with_reducible refine Zy (N := 9) rfl ?_); (try (refine Zz (by rfl) ?_; dsimp only)); refine zzc ?hg (N := 9) ?hd (cs := #[.int .i64 0,.int .i64 0,.int .i64 0,.int .i64 0,.slice none 0 0,.slice none 0 0,.int .i64 0,.string (⟨#[]⟩ : ByteArray),.bool false]) (t := 34) ?hr ?_; (case hd => rfl); (case hg => rfl); (case hr => first | (go_simp; done) | (go_simp; rfl)); intro ah hg aV hbox hb; have aR := zzk (zv (by (with_reducible repeat (first | apply zu | apply zt | apply zs)); exact aX.out) hb); have aS := zzk (zv (by (with_reducible repeat (first | apply zu | apply zt | apply zs)); exact aY.out) hb); have aT := zzk (zo (g := ab) (o := .cells #[.int .i64 al,.int .i64 am,.int .i64 an,.int .i64 ao,.slice aB aj.length aC,.slice aD ak.length aE,.int .i64 ag,.string ae,.bool ap] 34 (0,0)) (by (with_reducible repeat (first | refine zj ?_ _ | refine zl ?_ | refine zk ?_ _)); exact aa.out) hb); have bc := zzk (zo (g := ad) (o := .cells #[.int .i64 0,.int .i64 0,.int .i64 0,.int .i64 0,.slice none 0 0,.slice none 0 0,.int .i64 0,.string (⟨#[]⟩ : ByteArray),.bool false] 34 (0,0)) (by (with_reducible repeat (first | refine zj ?_ _ | refine zl ?_ | refine zk ?_ _)); exact ac.out) hb); have bj := zzk (Zs (by repeat (first | (with_reducible first | exact HB.out | apply Zq | apply Zp | apply Zo | refine Zn ?_ aF.out | refine Zn ?_ aL.out) | exact HB.out)) hb); have bs := zzk (hbox); have cL := zzk ((by rw [hg]; exact (Zr (by repeat (first | (with_reducible first | exact HB.out | apply Zq | apply Zp | apply Zo | refine Zn ?_ aF.out | refine Zn ?_ aL.out) | exact HB.out))) : w.heap.size ≤ ah)); have fG := zzk ((by rw [hg]; exact (Zr (by repeat (first | (with_reducible first | exact HB.out | apply Zq | apply Zp | apply Zo | refine Zn ?_ aF.out | refine Zn ?_ aL.out) | exact HB.out))) : w.heap.size ≤ ah)); have fH := zzk ((by rw [hg]; exact Nat.ne_of_lt (zq (g := ab) (o := .cells #[.int .i64 al,.int .i64 am,.int .i64 an,.int .i64 ao,.slice aB aj.length aC,.slice aD ak.length aE,.int .i64 ag,.string ae,.bool ap] 34 (0,0)) (by (with_reducible repeat (first | refine zj ?_ _ | refine zl ?_ | refine zk ?_ _)); exact aa.out)) : ab ≠ ah)); have fI := zzk ((by rw [hg]; exact Nat.ne_of_gt (zq (g := ab) (o := .cells #[.int .i64 al,.int .i64 am,.int .i64 an,.int .i64 ao,.slice aB aj.length aC,.slice aD ak.length aE,.int .i64 ag,.string ae,.bool ap] 34 (0,0)) (by (with_reducible repeat (first | refine zj ?_ _ | refine zl ?_ | refine zk ?_ _)); exact aa.out)) : ah ≠ ab)); have fC := zzk ((by rw [hg]; exact Nat.ne_of_lt (zq (g := ad) (o := .cells #[.int .i64 0,.int .i64 0,.int .i64 0,.int .i64 0,.slice none 0 0,.slice none 0 0,.int .i64 0,.string (⟨#[]⟩ : ByteArray),.bool false] 34 (0,0)) (by (with_reducible repeat (first | refine zj ?_ _ | refine zl ?_ | refine zk ?_ _)); exact ac.out)) : ad ≠ ah)); have fD := zzk ((by rw [hg]; exact Nat.ne_of_gt (zq (g := ad) (o := .cells #[.int .i64 0,.int .i64 0,.int .i64 0,.int .i64 0,.slice none 0 0,.slice none 0 0,.int .i64 0,.string (⟨#[]⟩ : ByteArray),.bool false] 34 (0,0)) (by (with_reducible repeat (first | refine zj ?_ _ | refine zl ?_ | refine zk ?_ _)); exact ac.out)) : ah ≠ ad)); clear aX; clear aY; clear aa; clear ac; clear HB; have aX := aR; have aY := aS; have aa := aT; have ac := bc; have HB := bj; have af := bs; have iH := cL; have bl := fG; have ay := fH; have aU := fI; have az := fC; have bk := fD; clear aR aS aT bc bj bs cL fG fH fI fC fD; clear hb hbox hg; have iI := aU.out; have iJ := ay.out; have iK := bk.out; have iL := az.out; have dJ : aV.cell? ⟨ah,0,none⟩ = some (.int .i64 0) := (zi af.out 0).trans rfl; have dK : aV.cell? ⟨ah,1,none⟩ = some (.int .i64 0) := (zi af.out 1).trans rfl; have dL : aV.cell? ⟨ah,2,none⟩ = some (.int .i64 0) := (zi af.out 2).trans rfl; have dM : aV.cell? ⟨ah,3,none⟩ = some (.int .i64 0) := (zi af.out 3).trans rfl; have dN : aV.cell? ⟨ah,4,none⟩ = some (.slice none 0 0) := (zi af.out 4).trans rfl; have dO : aV.cell? ⟨ah,5,none⟩ = some (.slice none 0 0) := (zi af.out 5).trans rfl; have dP : aV.cell? ⟨ah,6,none⟩ = some (.int .i64 0) := (zi af.out 6).trans rfl; have dQ : aV.cell? ⟨ah,7,none⟩ = some (.string (⟨#[]⟩ : ByteArray)) := (zi af.out 7).trans rfl; have dR : aV.cell? ⟨ah,8,none⟩ = some (.bool false) := (zi af.out 8).trans rfl; have dS := zm af.out 0; have dT := zm af.out 1; have dU := zm af.out 2; have dV := zm af.out 3; have dW := zm af.out 4; have dX := zm af.out 5; have dY := zm af.out 6; have dZ := zm af.out 7; have ea := zm af.out 8; obtain ⟨aG,aH,eo31⟩ := zz aX.out; subst eo31; obtain ⟨aJ,aK,eo32⟩ := zz aY.out; subst eo32; have eb : aV.cell? ⟨ab,0,none⟩ = some (.int .i64 al) := (zi aa.out 0).trans rfl; have ec : aV.cell? ⟨ab,1,none⟩ = some (.int .i64 am) := (zi aa.out 1).trans rfl; have ed : aV.cell? ⟨ab,2,none⟩ = some (.int .i64 an) := (zi aa.out 2).trans rfl; have ee : aV.cell? ⟨ab,3,none⟩ = some (.int .i64 ao) := (zi aa.out 3).trans rfl; have ef : aV.cell? ⟨ab,4,none⟩ = some (.slice aB aj.length aC) := (zi aa.out 4).trans rfl; have eg : aV.cell? ⟨ab,5,none⟩ = some (.slice aD ak.length aE) := (zi aa.out 5).trans rfl; have eh : aV.cell? ⟨ab,6,none⟩ = some (.int .i64 ag) := (zi aa.out 6).trans rfl; have ei : aV.cell? ⟨ab,7,none⟩ = some (.string ae) := (zi aa.out 7).trans rfl; have ej : aV.cell? ⟨ab,8,none⟩ = some (.bool ap) := (zi aa.out 8).trans rfl; have ek := zm aa.out 0; have el := zm aa.out 1; have em := zm aa.out 2; have en := zm aa.out 3; have eo := zm aa.out 4; have ep := zm aa.out 5; have er := zm aa.out 6; have es := zm aa.out 7; have et := zm aa.out 8) | ((with_reducible refine zza (f := 28) rfl ?_); refine zzd (some 28) rfl rfl Try.func28 (by kernel_rfl) rfl #[.int .i64 ag,.int .i64 (ae.size : Int)] rfl (by (try simp only [zd,ze,zf]); first | done | rfl | (simp only [zg,zh]; rfl)) ?_; (with_reducible refine (r16_Part.calls aZ ag (ae.size : Int) cK fJ _ iv.out).mono ?_); rintro e aP ⟨rfl,hb⟩; refine ⟨_,rfl,?_⟩; have aR := zzk (zv (by (with_reducible repeat (first | apply zu | apply zt | apply zs)); exact (zx (zr (p := ⟨ah,8,none⟩) (zr (p := ⟨ah,7,none⟩) (zr (p := ⟨ah,6,none⟩) (zr (p := ⟨ah,5,none⟩) (zr (p := ⟨ah,4,none⟩) (zr (p := ⟨ah,3,none⟩) (zr (p := ⟨ah,2,none⟩) (zr (p := ⟨ah,1,none⟩) (zr (p := ⟨ah,0,none⟩) (zy aX.out af.out (by decide)) (fun _ hk => hk.2) (.int .i64 aq)) (fun _ hk => hk.2) (.int .i64 ar)) (fun _ hk => hk.2) (.int .i64 au)) (fun _ hk => hk.2) (.int .i64 av)) (fun _ hk => hk.2) (.slice aG aw.length aH)) (fun _ hk => hk.2) (.slice aJ ax.length aK)) (fun _ hk => hk.2) (.int .i64 aA)) (fun _ hk => hk.2) (.string aI)) (fun _ hk => hk.2) (.bool aO)) (fun _ h_ => h_.1))) hb); have aS := zzk (zv (by (with_reducible repeat (first | apply zu | apply zt | apply zs)); exact (zx (zr (p := ⟨ah,8,none⟩) (zr (p := ⟨ah,7,none⟩) (zr (p := ⟨ah,6,none⟩) (zr (p := ⟨ah,5,none⟩) (zr (p := ⟨ah,4,none⟩) (zr (p := ⟨ah,3,none⟩) (zr (p := ⟨ah,2,none⟩) (zr (p := ⟨ah,1,none⟩) (zr (p := ⟨ah,0,none⟩) (zy aY.out af.out (by decide)) (fun _ hk => hk.2) (.int .i64 aq)) (fun _ hk => hk.2) (.int .i64 ar)) (fun _ hk => hk.2) (.int .i64 au)) (fun _ hk => hk.2) (.int .i64 av)) (fun _ hk => hk.2) (.slice aG aw.length aH)) (fun _ hk => hk.2) (.slice aJ ax.length aK)) (fun _ hk => hk.2) (.int .i64 aA)) (fun _ hk => hk.2) (.string aI)) (fun _ hk => hk.2) (.bool aO)) (fun _ h_ => h_.1))) hb); have aT := zzk (zo (g := ab) (o := .cells #[.int .i64 al,.int .i64 am,.int .i64 an,.int .i64 ao,.slice aB aj.length aC,.slice aD ak.length aE,.int .i64 ag,.string ae,.bool ap] 34 (0,0)) (by (with_reducible repeat (first | refine zj ?_ _ | refine zl ?_ | refine zk ?_ _)); refine zn ?_ ay.out _; (with_reducible repeat (first | refine zj ?_ _ | refine zl ?_ | refine zk ?_ _)); refine zn ?_ ay.out _; (with_reducible repeat (first | refine zj ?_ _ | refine zl ?_ | refine zk ?_ _)); refine zn ?_ ay.out _; (with_reducible repeat (first | refine zj ?_ _ | refine zl ?_ | refine zk ?_ _)); refine zn ?_ ay.out _; (with_reducible repeat (first | refine zj ?_ _ | refine zl ?_ | refine zk ?_ _)); refine zn ?_ ay.out _; (with_reducible repeat (first | refine zj ?_ _ | refine zl ?_ | refine zk ?_ _)); refine zn ?_ ay.out _; (with_reducible repeat (first | refine zj ?_ _ | refine zl ?_ | refine zk ?_ _)); refine zn ?_ ay.out _; (with_reducible repeat (first | refine zj ?_ _ | refine zl ?_ | refine zk ?_ _)); refine zn ?_ ay.out _; (with_reducible repeat (first | refine zj ?_ _ | refine zl ?_ | refine zk ?_ _)); refine zn ?_ ay.out _; (with_reducible repeat (first | refine zj ?_ _ | refine zl ?_ | refine zk ?_ _)); exact aa.out) hb); have bc := zzk (zo (g := ad) (o := .cells #[.int .i64 0,.int .i64 0,.int .i64 0,.int .i64 0,.slice none 0 0,.slice none 0 0,.int .i64 0,.string (⟨#[]⟩ : ByteArray),.bool false] 34 (0,0)) (by (with_reducible repeat (first | refine zj ?_ _ | refine zl ?_ | refine zk ?_ _)); refine zn ?_ az.out _; (with_reducible repeat (first | refine zj ?_ _ | refine zl ?_ | refine zk ?_ _)); refine zn ?_ az.out _; (with_reducible repeat (first | refine zj ?_ _ | refine zl ?_ | refine zk ?_ _)); refine zn ?_ az.out _; (with_reducible repeat (first | refine zj ?_ _ | refine zl ?_ | refine zk ?_ _)); refine zn ?_ az.out _; (with_reducible repeat (first | refine zj ?_ _ | refine zl ?_ | refine zk ?_ _)); refine zn ?_ az.out _; (with_reducible repeat (first | refine zj ?_ _ | refine zl ?_ | refine zk ?_ _)); refine zn ?_ az.out _; (with_reducible repeat (first | refine zj ?_ _ | refine zl ?_ | refine zk ?_ _)); refine zn ?_ az.out _; (with_reducible repeat (first | refine zj ?_ _ | refine zl ?_ | refine zk ?_ _)); refine zn ?_ az.out _; (with_reducible repeat (first | refine zj ?_ _ | refine zl ?_ | refine zk ?_ _)); refine zn ?_ az.out _; (with_reducible repeat (first | refine zj ?_ _ | refine zl ?_ | refine zk ?_ _)); exact ac.out) hb); have bj := zzk (zo (g := ah) (o := .cells #[.int .i64 aq,.int .i64 ar,.int .i64 au,.int .i64 av,.slice aG aw.length aH,.slice aJ ax.length aK,.int .i64 aA,.string aI,.bool aO] 34 (0,0)) (by (with_reducible repeat (first | refine zj ?_ _ | refine zl ?_ | refine zk ?_ _)); refine zp (cs := #[.int .i64 aq,.int .i64 ar,.int .i64 au,.int .i64 av,.slice aG aw.length aH,.slice aJ ax.length aK,.int .i64 aA,.string aI,.bool false]) ?_ 8 _ rfl; (with_reducible repeat (first | refine zj ?_ _ | refine zl ?_ | refine zk ?_ _)); refine zp (cs := #[.int .i64 aq,.int .i64 ar,.int .i64 au,.int .i64 av,.slice aG aw.length aH,.slice aJ ax.length aK,.int .i64 aA,.string (⟨#[]⟩ : ByteArray),.bool false]) ?_ 7 _ rfl; (with_reducible repeat (first | refine zj ?_ _ | refine zl ?_ | refine zk ?_ _)); refine zp (cs := #[.int .i64 aq,.int .i64 ar,.int .i64 au,.int .i64 av,.slice aG aw.length aH,.slice aJ ax.length aK,.int .i64 0,.string (⟨#[]⟩ : ByteArray),.bool false]) ?_ 6 _ rfl; (with_reducible repeat (first | refine zj ?_ _ | refine zl ?_ | refine zk ?_ _)); refine zp (cs := #[.int .i64 aq,.int .i64 ar,.int .i64 au,.int .i64 av,.slice aG aw.length aH,.slice none 0 0,.int .i64 0,.string (⟨#[]⟩ : ByteArray),.bool false]) ?_ 5 _ rfl; (with_reducible repeat (first | refine zj ?_ _ | refine zl ?_ | refine zk ?_ _)); refine zp (cs := #[.int .i64 aq,.int .i64 ar,.int .i64 au,.int .i64 av,.slice none 0 0,.slice none 0 0,.int .i64 0,.string (⟨#[]⟩ : ByteArray),.bool false]) ?_ 4 _ rfl; (with_reducible repeat (first | refine zj ?_ _ | refine zl ?_ | refine zk ?_ _)); refine zp (cs := #[.int .i64 aq,.int .i64 ar,.int .i64 au,.int .i64 0,.slice none 0 0,.slice none 0 0,.int .i64 0,.string (⟨#[]⟩ : ByteArray),.bool false]) ?_ 3 _ rfl; (with_reducible repeat (first | refine zj ?_ _ | refine zl ?_ | refine zk ?_ _)); refine zp (cs := #[.int .i64 aq,.int .i64 ar,.int .i64 0,.int .i64 0,.slice none 0 0,.slice none 0 0,.int .i64 0,.string (⟨#[]⟩ : ByteArray),.bool false]) ?_ 2 _ rfl; (with_reducible repeat (first | refine zj ?_ _ | refine zl ?_ | refine zk ?_ _)); refine zp (cs := #[.int .i64 aq,.int .i64 0,.int .i64 0,.int .i64 0,.slice none 0 0,.slice none 0 0,.int .i64 0,.string (⟨#[]⟩ : ByteArray),.bool false]) ?_ 1 _ rfl; (with_reducible repeat (first | refine zj ?_ _ | refine zl ?_ | refine zk ?_ _)); refine zp (cs := #[.int .i64 0,.int .i64 0,.int .i64 0,.int .i64 0,.slice none 0 0,.slice none 0 0,.int .i64 0,.string (⟨#[]⟩ : ByteArray),.bool false]) ?_ 0 _ rfl; (with_reducible repeat (first | refine zj ?_ _ | refine zl ?_ | refine zk ?_ _)); exact af.out) hb); have bs := zzk (Zs (by repeat (first | (with_reducible first | exact HB.out | apply Zq | apply Zp | apply Zo | refine Zn ?_ aF.out | refine Zn ?_ aL.out | refine Zn ?_ bl.out) | exact HB.out)) hb); clear aX; clear aY; clear aa; clear ac; clear af; clear HB; have aX := aR; have aY := aS; have aa := aT; have ac := bc; have af := bj; have HB := bs; clear aR aS aT bc bj bs; (try clear hb); (try clear hb2); (try clear hk); (try clear hi)))
    (try simp only [Act.put,za,zb,zc])
    go_cut [46] (fun iw wc => ∃ (kq : Nat) (bq : Bool),iw = .bool bq ∧ Aside0 (r16_Take.j1 kq a2 bq al am an ao aj ak ag ae ap aq ar au av aw ax aA aI aO = some (r1,r2,r3,r4,r5,r6,r7,r8,r9,r10,r11)) ∧ Aside0 (kq ≤ aZ) ∧ Aside0 (Kd.R (Kd.int .i64) 3 wc w.heap.size (fun k_ => some k_ ≠ ((.slice aJ ax.length aK) : Value).ownBlock) (.slice aG aw.length aH) aw) ∧ Aside0 (Kd.R (Kd.int .i64) 3 wc w.heap.size (fun k_ => some k_ ≠ ((.slice aG aw.length aH) : Value).ownBlock) (.slice aJ ax.length aK) ax) ∧ Aside0 (wc.heap[ab]? = some (.cells #[.int .i64 al,.int .i64 am,.int .i64 an,.int .i64 ao,(.slice aB aj.length aC),(.slice aD ak.length aE),.int .i64 ag,.string ae,.bool ap] 34 (0,0))) ∧ Aside0 (wc.heap[ad]? = some (.cells #[.int .i64 0,.int .i64 0,.int .i64 0,.int .i64 0,(.slice none 0 0),(.slice none 0 0),.int .i64 0,.string (⟨#[]⟩ : ByteArray),.bool false] 34 (0,0))) ∧ Aside0 (wc.heap[ah]? = some (.cells #[.int .i64 aq,.int .i64 ar,.int .i64 au,.int .i64 av,(.slice aG aw.length aH),(.slice aJ ax.length aK),.int .i64 aA,.string aI,.bool aO] 34 (0,0))) ∧ Aside0 (Below w.heap.size w wc))
    case first =>
     have H := cP.out
     clear cP
     by_cases cN : ap = true
     ·
      subst cN
      have H1 : (if a1 = (ae.size : Int) then (r16_Take.j1 aZ a2 ((a2.size : Int) != cK) al am an ao aj ak ag ae true aq ar au av aw ax aA aI aO) else (r16_Take.j1 aZ a2 true al am an ao aj ak ag ae true aq ar au av aw ax aA aI aO)) = some (r1,r2,r3,r4,r5,r6,r7,r8,r9,r10,r11) := by rw [if_pos rfl] at H; exact H
      clear H
      have H := H1
      clear H1
      by_cases bt : a1 = (ae.size : Int)
      ·
       rw [if_pos bt] at H
       have bm : (a1 == (ae.size : Int)) = true := beq_iff_eq.mpr bt
       have cU : (a1 != (ae.size : Int)) = false := bne_eq_false_iff_eq.mpr bt
       clear bt
       (first | rw [bm] | (simp only [Zv,Zw]; rw [bm]) | skip)
       have H' := zzk H
       clear H
       have iM := aM.out
       have iN := aN.out
       have iO := ay.out
       have iP := aU.out
       have eu : aP.cell? ⟨ab,0,none⟩ = some (.int .i64 al) := (zi aa.out 0).trans rfl
       have ev : aP.cell? ⟨ab,1,none⟩ = some (.int .i64 am) := (zi aa.out 1).trans rfl
       have ew : aP.cell? ⟨ab,2,none⟩ = some (.int .i64 an) := (zi aa.out 2).trans rfl
       have ex : aP.cell? ⟨ab,3,none⟩ = some (.int .i64 ao) := (zi aa.out 3).trans rfl
       have ey : aP.cell? ⟨ab,4,none⟩ = some (.slice aB aj.length aC) := (zi aa.out 4).trans rfl
       have ez : aP.cell? ⟨ab,5,none⟩ = some (.slice aD ak.length aE) := (zi aa.out 5).trans rfl
       have eA : aP.cell? ⟨ab,6,none⟩ = some (.int .i64 ag) := (zi aa.out 6).trans rfl
       have eB : aP.cell? ⟨ab,7,none⟩ = some (.string ae) := (zi aa.out 7).trans rfl
       have eC : aP.cell? ⟨ab,8,none⟩ = some (.bool true) := (zi aa.out 8).trans rfl
       have eD := zm aa.out 0
       have eE := zm aa.out 1
       have eF := zm aa.out 2
       have eG := zm aa.out 3
       have eH := zm aa.out 4
       have eI := zm aa.out 5
       have eJ := zm aa.out 6
       have eK := zm aa.out 7
       have eL := zm aa.out 8
       go_wp2
       go_meet
       case rel => exact ⟨_,(((a2.size : Int) != cK)),(by first | rfl | (simp; done) | (simp [*]; done)),H',⟨by have := HJ3.out; first | omega | exact Nat.le_refl _⟩,⟨by (with_reducible repeat (first | apply zu | apply zt | apply zs)); exact aX.out⟩,⟨by (with_reducible repeat (first | apply zu | apply zt | apply zs)); exact aY.out⟩,⟨by (with_reducible repeat (first | refine zj ?_ _ | refine zl ?_ | refine zk ?_ _)); exact aa.out⟩,⟨by (with_reducible repeat (first | refine zj ?_ _ | refine zl ?_ | refine zk ?_ _)); exact ac.out⟩,⟨by (with_reducible repeat (first | refine zj ?_ _ | refine zl ?_ | refine zk ?_ _)); exact af.out⟩,⟨by repeat (first | (with_reducible first | exact HB.out | apply Zq | apply Zp | apply Zo | refine Zn ?_ aF.out | refine Zn ?_ aL.out | refine Zn ?_ bl.out) | exact HB.out)⟩⟩
      ·
       rw [if_neg bt] at H
       have bm : (a1 == (ae.size : Int)) = false := beq_eq_false_iff_ne.mpr bt
       have cU : (a1 != (ae.size : Int)) = true := bne_iff_ne.mpr bt
       (first | rw [bm] | (simp only [Zv,Zw]; rw [bm]) | skip)
       have H' := zzk H
       clear H
       have iQ := aM.out
       have iR := aN.out
       have iS := ay.out
       have iT := aU.out
       have eM : aP.cell? ⟨ab,0,none⟩ = some (.int .i64 al) := (zi aa.out 0).trans rfl
       have eN : aP.cell? ⟨ab,1,none⟩ = some (.int .i64 am) := (zi aa.out 1).trans rfl
       have eO : aP.cell? ⟨ab,2,none⟩ = some (.int .i64 an) := (zi aa.out 2).trans rfl
       have eP : aP.cell? ⟨ab,3,none⟩ = some (.int .i64 ao) := (zi aa.out 3).trans rfl
       have eQ : aP.cell? ⟨ab,4,none⟩ = some (.slice aB aj.length aC) := (zi aa.out 4).trans rfl
       have eR : aP.cell? ⟨ab,5,none⟩ = some (.slice aD ak.length aE) := (zi aa.out 5).trans rfl
       have eS : aP.cell? ⟨ab,6,none⟩ = some (.int .i64 ag) := (zi aa.out 6).trans rfl
       have eT : aP.cell? ⟨ab,7,none⟩ = some (.string ae) := (zi aa.out 7).trans rfl
       have eU : aP.cell? ⟨ab,8,none⟩ = some (.bool true) := (zi aa.out 8).trans rfl
       have eV := zm aa.out 0
       have eW := zm aa.out 1
       have eX := zm aa.out 2
       have eY := zm aa.out 3
       have eZ := zm aa.out 4
       have fa := zm aa.out 5
       have fb := zm aa.out 6
       have fc := zm aa.out 7
       have fd := zm aa.out 8
       go_wp2
       go_meet
       case rel => exact ⟨_,(true),(by first | rfl | (simp; done) | (simp [*]; done)),H',⟨by have := HJ3.out; first | omega | exact Nat.le_refl _⟩,⟨by (with_reducible repeat (first | apply zu | apply zt | apply zs)); exact aX.out⟩,⟨by (with_reducible repeat (first | apply zu | apply zt | apply zs)); exact aY.out⟩,⟨by (with_reducible repeat (first | refine zj ?_ _ | refine zl ?_ | refine zk ?_ _)); exact aa.out⟩,⟨by (with_reducible repeat (first | refine zj ?_ _ | refine zl ?_ | refine zk ?_ _)); exact ac.out⟩,⟨by (with_reducible repeat (first | refine zj ?_ _ | refine zl ?_ | refine zk ?_ _)); exact af.out⟩,⟨by repeat (first | (with_reducible first | exact HB.out | apply Zq | apply Zp | apply Zo | refine Zn ?_ aF.out | refine Zn ?_ aL.out | refine Zn ?_ bl.out) | exact HB.out)⟩⟩
     ·
      replace cN := Bool.eq_false_iff.mpr cN
      subst cN
      have H1 : (r16_Take.j1 aZ a2 true al am an ao aj ak ag ae false aq ar au av aw ax aA aI aO) = some (r1,r2,r3,r4,r5,r6,r7,r8,r9,r10,r11) := by rw [if_neg (show ¬ (false = true) by decide)] at H; exact H
      clear H
      have H := H1
      clear H1
      have H' := zzk H
      clear H
      have iU := aM.out
      have iV := aN.out
      have iW := ay.out
      have iX := aU.out
      have fe : aP.cell? ⟨ab,0,none⟩ = some (.int .i64 al) := (zi aa.out 0).trans rfl
      have fg : aP.cell? ⟨ab,1,none⟩ = some (.int .i64 am) := (zi aa.out 1).trans rfl
      have fh : aP.cell? ⟨ab,2,none⟩ = some (.int .i64 an) := (zi aa.out 2).trans rfl
      have fi : aP.cell? ⟨ab,3,none⟩ = some (.int .i64 ao) := (zi aa.out 3).trans rfl
      have fj : aP.cell? ⟨ab,4,none⟩ = some (.slice aB aj.length aC) := (zi aa.out 4).trans rfl
      have fk : aP.cell? ⟨ab,5,none⟩ = some (.slice aD ak.length aE) := (zi aa.out 5).trans rfl
      have fl : aP.cell? ⟨ab,6,none⟩ = some (.int .i64 ag) := (zi aa.out 6).trans rfl
      have fm : aP.cell? ⟨ab,7,none⟩ = some (.string ae) := (zi aa.out 7).trans rfl
      have fn : aP.cell? ⟨ab,8,none⟩ = some (.bool false) := (zi aa.out 8).trans rfl
      have fo := zm aa.out 0
      have fp := zm aa.out 1
      have fq := zm aa.out 2
      have fr := zm aa.out 3
      have fs := zm aa.out 4
      have ft := zm aa.out 5
      have fu := zm aa.out 6
      have fv := zm aa.out 7
      have fw := zm aa.out 8
      go_wp2
      go_meet
      case rel => exact ⟨_,(true),(by first | rfl | (simp; done) | (simp [*]; done)),H',⟨by have := HJ3.out; first | omega | exact Nat.le_refl _⟩,⟨by (with_reducible repeat (first | apply zu | apply zt | apply zs)); exact aX.out⟩,⟨by (with_reducible repeat (first | apply zu | apply zt | apply zs)); exact aY.out⟩,⟨by (with_reducible repeat (first | refine zj ?_ _ | refine zl ?_ | refine zk ?_ _)); exact aa.out⟩,⟨by (with_reducible repeat (first | refine zj ?_ _ | refine zl ?_ | refine zk ?_ _)); exact ac.out⟩,⟨by (with_reducible repeat (first | refine zj ?_ _ | refine zl ?_ | refine zk ?_ _)); exact af.out⟩,⟨by repeat (first | (with_reducible first | exact HB.out | apply Zq | apply Zp | apply Zo | refine Zn ?_ aF.out | refine Zn ?_ aL.out | refine Zn ?_ bl.out) | exact HB.out)⟩⟩
    case rest =>
     clear cP
     try clear c1
     try clear c2
     try clear p2
     try clear c3
     try clear c4
     try clear c8
     try clear ir
     try clear it
     try clear cM
     try clear jt
     try clear ju
     try clear jv
     try clear jw
     try clear jx
     try clear jy
     try clear jz
     try clear cN
     try clear bt
     try clear bm
     try clear cU
     try clear jA
     try clear jB
     try clear jC
     try clear jD
     try clear jE
     try clear jF
     try clear bH
     try clear bI
     try clear bJ
     try clear bK
     try clear bL
     try clear bM
     try clear bN
     try clear bO
     try clear bP
     try clear bZ
     try clear ca
     try clear cb
     try clear cc
     try clear cd
     try clear ce
     try clear cf
     try clear cg
     try clear ch
     try clear cr
     try clear ct
     try clear cu
     try clear cv
     try clear cw
     try clear cx
     try clear cy
     try clear cz
     try clear cA
     try clear cY
     try clear cZ
     try clear da
     try clear db
     try clear dc
     try clear dd
     try clear de
     try clear df
     try clear dg
     try clear dr
     try clear ds
     try clear dt
     try clear du
     try clear dv
     try clear dw
     try clear dx
     try clear dy
     try clear dz
     try clear dJ
     try clear dK
     try clear dL
     try clear dM
     try clear dN
     try clear dO
     try clear dP
     try clear dQ
     try clear dR
     try clear eb
     try clear ec
     try clear ed
     try clear ee
     try clear ef
     try clear eg
     try clear eh
     try clear ei
     try clear ej
     try clear eu
     try clear ev
     try clear ew
     try clear ex
     try clear ey
     try clear ez
     try clear eA
     try clear eB
     try clear eC
     try clear eM
     try clear eN
     try clear eO
     try clear eP
     try clear eQ
     try clear eR
     try clear eS
     try clear eT
     try clear eU
     try clear fe
     try clear fg
     try clear fh
     try clear fi
     try clear fj
     try clear fk
     try clear fl
     try clear fm
     try clear fn
     try clear bQ
     try clear bR
     try clear bS
     try clear bT
     try clear bU
     try clear bV
     try clear bW
     try clear bX
     try clear bY
     try clear ci
     try clear cj
     try clear ck
     try clear cl
     try clear cm
     try clear cn
     try clear co
     try clear cp
     try clear cq
     try clear cB
     try clear cC
     try clear cD
     try clear cE
     try clear cF
     try clear cG
     try clear cH
     try clear cI
     try clear cJ
     try clear dh
     try clear di
     try clear dj
     try clear dk
     try clear dl
     try clear dm
     try clear dn
     try clear dp
     try clear dq
     try clear dA
     try clear dB
     try clear dC
     try clear dD
     try clear dE
     try clear dF
     try clear dG
     try clear dH
     try clear dI
     try clear dS
     try clear dT
     try clear dU
     try clear dV
     try clear dW
     try clear dX
     try clear dY
     try clear dZ
     try clear ea
     try clear ek
     try clear el
     try clear em
     try clear en
     try clear eo
     try clear ep
     try clear er
     try clear es
     try clear et
     try clear eD
     try clear eE
     try clear eF
     try clear eG
     try clear eH
     try clear eI
     try clear eJ
     try clear eK
     try clear eL
     try clear eV
     try clear eW
     try clear eX
     try clear eY
     try clear eZ
     try clear fa
     try clear fb
     try clear fc
     try clear fd
     try clear fo
     try clear fp
     try clear fq
     try clear fr
     try clear fs
     try clear ft
     try clear fu
     try clear fv
     try clear fw
     try clear p2
     obtain ⟨kq,bq,rfl,HA,HJ22,HO_366004,HO_366005,aa,ac,af,HB⟩ := hcut
     cases kq with
     | zero => exact absurd HA.out (by simp [r16_Take.j1])
     | succ jp =>
      have H := HA.out
      clear HA
      simp only [r16_Take.j1] at H
      by_cases cV : bq = true
      ·
       subst cV
       have H1 : (some (aq,ar,au,av,aw,ax,aA,aI,aO,false,0)) = some (r1,r2,r3,r4,r5,r6,r7,r8,r9,r10,r11) := by rw [if_pos rfl] at H; exact H
       clear H
       have H := H1
       clear H1
       simp only [zzg,zzh] at H
       obtain ⟨rfl,rfl,rfl,rfl,rfl,rfl,rfl,rfl,rfl,rfl,rfl⟩ := H
       have iY := aU.out
       have iZ := ay.out
       have ja := bk.out
       have jb := az.out
       have fK : wc.cell? ⟨ah,0,none⟩ = some (.int .i64 aq) := (zi af.out 0).trans rfl
       have fL : wc.cell? ⟨ah,1,none⟩ = some (.int .i64 ar) := (zi af.out 1).trans rfl
       have fM : wc.cell? ⟨ah,2,none⟩ = some (.int .i64 au) := (zi af.out 2).trans rfl
       have fN : wc.cell? ⟨ah,3,none⟩ = some (.int .i64 av) := (zi af.out 3).trans rfl
       have fO : wc.cell? ⟨ah,4,none⟩ = some (.slice aG aw.length aH) := (zi af.out 4).trans rfl
       have fP : wc.cell? ⟨ah,5,none⟩ = some (.slice aJ ax.length aK) := (zi af.out 5).trans rfl
       have fQ : wc.cell? ⟨ah,6,none⟩ = some (.int .i64 aA) := (zi af.out 6).trans rfl
       have fR : wc.cell? ⟨ah,7,none⟩ = some (.string aI) := (zi af.out 7).trans rfl
       have fS : wc.cell? ⟨ah,8,none⟩ = some (.bool aO) := (zi af.out 8).trans rfl
       have fT := zm af.out 0
       have fU := zm af.out 1
       have fV := zm af.out 2
       have fW := zm af.out 3
       have fX := zm af.out 4
       have fY := zm af.out 5
       have fZ := zm af.out 6
       have ga := zm af.out 7
       have gb := zm af.out 8
       have jc := aN.out
       have jd := aM.out
       have gc : wc.cell? ⟨ad,0,none⟩ = some (.int .i64 0) := (zi ac.out 0).trans rfl
       have gd : wc.cell? ⟨ad,1,none⟩ = some (.int .i64 0) := (zi ac.out 1).trans rfl
       have gf : wc.cell? ⟨ad,2,none⟩ = some (.int .i64 0) := (zi ac.out 2).trans rfl
       have gg : wc.cell? ⟨ad,3,none⟩ = some (.int .i64 0) := (zi ac.out 3).trans rfl
       have gh : wc.cell? ⟨ad,4,none⟩ = some (.slice none 0 0) := (zi ac.out 4).trans rfl
       have gi : wc.cell? ⟨ad,5,none⟩ = some (.slice none 0 0) := (zi ac.out 5).trans rfl
       have gj : wc.cell? ⟨ad,6,none⟩ = some (.int .i64 0) := (zi ac.out 6).trans rfl
       have gl : wc.cell? ⟨ad,7,none⟩ = some (.string (⟨#[]⟩ : ByteArray)) := (zi ac.out 7).trans rfl
       have gm : wc.cell? ⟨ad,8,none⟩ = some (.bool false) := (zi ac.out 8).trans rfl
       have gn := zm ac.out 0
       have gp := zm ac.out 1
       have gq := zm ac.out 2
       have gr := zm ac.out 3
       have gs := zm ac.out 4
       have gu := zm ac.out 5
       have gv := zm ac.out 6
       have gw := zm ac.out 7
       have gx := zm ac.out 8
       go_wp2
       refine zzf (results_ctt rfl _ _ ad 34 #[.int .i64 aq,.int .i64 ar,.int .i64 au,.int .i64 av,.slice aG aw.length aH,.slice aJ ax.length aK,.int .i64 aA,.string aI,.bool aO] (0,0) _ rfl (by (with_reducible repeat (first | refine zj ?_ _ | refine zl ?_ | refine zk ?_ _)); refine zp (cs := #[.int .i64 aq,.int .i64 ar,.int .i64 au,.int .i64 av,.slice aG aw.length aH,.slice aJ ax.length aK,.int .i64 aA,.string aI,.bool false]) ?_ 8 _ rfl; (with_reducible repeat (first | refine zj ?_ _ | refine zl ?_ | refine zk ?_ _)); refine zp (cs := #[.int .i64 aq,.int .i64 ar,.int .i64 au,.int .i64 av,.slice aG aw.length aH,.slice aJ ax.length aK,.int .i64 aA,.string (⟨#[]⟩ : ByteArray),.bool false]) ?_ 7 _ rfl; (with_reducible repeat (first | refine zj ?_ _ | refine zl ?_ | refine zk ?_ _)); refine zp (cs := #[.int .i64 aq,.int .i64 ar,.int .i64 au,.int .i64 av,.slice aG aw.length aH,.slice aJ ax.length aK,.int .i64 0,.string (⟨#[]⟩ : ByteArray),.bool false]) ?_ 6 _ rfl; (with_reducible repeat (first | refine zj ?_ _ | refine zl ?_ | refine zk ?_ _)); refine zp (cs := #[.int .i64 aq,.int .i64 ar,.int .i64 au,.int .i64 av,.slice aG aw.length aH,.slice none 0 0,.int .i64 0,.string (⟨#[]⟩ : ByteArray),.bool false]) ?_ 5 _ rfl; (with_reducible repeat (first | refine zj ?_ _ | refine zl ?_ | refine zk ?_ _)); refine zp (cs := #[.int .i64 aq,.int .i64 ar,.int .i64 au,.int .i64 av,.slice none 0 0,.slice none 0 0,.int .i64 0,.string (⟨#[]⟩ : ByteArray),.bool false]) ?_ 4 _ rfl; (with_reducible repeat (first | refine zj ?_ _ | refine zl ?_ | refine zk ?_ _)); refine zp (cs := #[.int .i64 aq,.int .i64 ar,.int .i64 au,.int .i64 0,.slice none 0 0,.slice none 0 0,.int .i64 0,.string (⟨#[]⟩ : ByteArray),.bool false]) ?_ 3 _ rfl; (with_reducible repeat (first | refine zj ?_ _ | refine zl ?_ | refine zk ?_ _)); refine zp (cs := #[.int .i64 aq,.int .i64 ar,.int .i64 0,.int .i64 0,.slice none 0 0,.slice none 0 0,.int .i64 0,.string (⟨#[]⟩ : ByteArray),.bool false]) ?_ 2 _ rfl; (with_reducible repeat (first | refine zj ?_ _ | refine zl ?_ | refine zk ?_ _)); refine zp (cs := #[.int .i64 aq,.int .i64 0,.int .i64 0,.int .i64 0,.slice none 0 0,.slice none 0 0,.int .i64 0,.string (⟨#[]⟩ : ByteArray),.bool false]) ?_ 1 _ rfl; (with_reducible repeat (first | refine zj ?_ _ | refine zl ?_ | refine zk ?_ _)); refine zp (cs := #[.int .i64 0,.int .i64 0,.int .i64 0,.int .i64 0,.slice none 0 0,.slice none 0 0,.int .i64 0,.string (⟨#[]⟩ : ByteArray),.bool false]) ?_ 0 _ rfl; (with_reducible repeat (first | refine zj ?_ _ | refine zl ?_ | refine zk ?_ _)); exact ac.out) Try.underlying34 rfl (by kernel_rfl)) rfl ?_
       exact ⟨_,_,by first | rfl | (simp [zzl,zzm] <;> rfl) | (simp [*,zzl,zzm] <;> rfl),by (with_reducible repeat (first | apply zu | apply zt | apply zs)); exact zx (zr (p := ⟨ad,8,none⟩) (zr (p := ⟨ad,7,none⟩) (zr (p := ⟨ad,6,none⟩) (zr (p := ⟨ad,5,none⟩) (zr (p := ⟨ad,4,none⟩) (zr (p := ⟨ad,3,none⟩) (zr (p := ⟨ad,2,none⟩) (zr (p := ⟨ad,1,none⟩) (zr (p := ⟨ad,0,none⟩) (zy HO_366004.out ac.out (by decide)) (fun _ hk => hk.2) (.int .i64 aq)) (fun _ hk => hk.2) (.int .i64 ar)) (fun _ hk => hk.2) (.int .i64 au)) (fun _ hk => hk.2) (.int .i64 av)) (fun _ hk => hk.2) (.slice aG aw.length aH)) (fun _ hk => hk.2) (.slice aJ ax.length aK)) (fun _ hk => hk.2) (.int .i64 aA)) (fun _ hk => hk.2) (.string aI)) (fun _ hk => hk.2) (.bool aO)) (fun _ hk => hk.1),by (with_reducible repeat (first | apply zu | apply zt | apply zs)); exact zx (zr (p := ⟨ad,8,none⟩) (zr (p := ⟨ad,7,none⟩) (zr (p := ⟨ad,6,none⟩) (zr (p := ⟨ad,5,none⟩) (zr (p := ⟨ad,4,none⟩) (zr (p := ⟨ad,3,none⟩) (zr (p := ⟨ad,2,none⟩) (zr (p := ⟨ad,1,none⟩) (zr (p := ⟨ad,0,none⟩) (zy HO_366005.out ac.out (by decide)) (fun _ hk => hk.2) (.int .i64 aq)) (fun _ hk => hk.2) (.int .i64 ar)) (fun _ hk => hk.2) (.int .i64 au)) (fun _ hk => hk.2) (.int .i64 av)) (fun _ hk => hk.2) (.slice aG aw.length aH)) (fun _ hk => hk.2) (.slice aJ ax.length aK)) (fun _ hk => hk.2) (.int .i64 aA)) (fun _ hk => hk.2) (.string aI)) (fun _ hk => hk.2) (.bool aO)) (fun _ hk => hk.1),by repeat (first | (with_reducible first | exact HB.out | apply Zq | apply Zp | apply Zo | refine Zn ?_ aF.out | refine Zn ?_ aL.out | refine Zn ?_ bl.out) | exact HB.out)⟩
      ·
       replace cV := Bool.eq_false_iff.mpr cV
       subst cV
       have H1 : (if ae.size + a2.size ≤ 9223372036854775807 then (some (aq,ar,au,av,aw,ax,aA,ae ++ a2,decide (((ae.size : Int) + (a2.size : Int)) < ag),true,0)) else (none)) = some (r1,r2,r3,r4,r5,r6,r7,r8,r9,r10,r11) := by rw [if_neg (show ¬ (false = true) by decide)] at H; exact H
       clear H
       have H := H1
       clear H1
       by_cases cO : ae.size + a2.size ≤ 9223372036854775807
       ·
        rw [if_pos cO] at H
        have je := eq_true cO
        have jf : decide (ae.size + a2.size ≤ 9223372036854775807) = true := zzn cO
        try have jg : (9223372036854775807 < ae.size + a2.size) = False := eq_false (Nat.not_lt.2 cO)
        simp only [zzg,zzh] at H
        obtain ⟨rfl,rfl,rfl,rfl,rfl,rfl,rfl,rfl,rfl,rfl,rfl⟩ := H
        have jh := aM.out
        have ji := aN.out
        have jj := ay.out
        have jk := aU.out
        have gy : wc.cell? ⟨ab,0,none⟩ = some (.int .i64 al) := (zi aa.out 0).trans rfl
        have gz : wc.cell? ⟨ab,1,none⟩ = some (.int .i64 am) := (zi aa.out 1).trans rfl
        have gA : wc.cell? ⟨ab,2,none⟩ = some (.int .i64 an) := (zi aa.out 2).trans rfl
        have gB : wc.cell? ⟨ab,3,none⟩ = some (.int .i64 ao) := (zi aa.out 3).trans rfl
        have gC : wc.cell? ⟨ab,4,none⟩ = some (.slice aB aj.length aC) := (zi aa.out 4).trans rfl
        have gD : wc.cell? ⟨ab,5,none⟩ = some (.slice aD ak.length aE) := (zi aa.out 5).trans rfl
        have gE : wc.cell? ⟨ab,6,none⟩ = some (.int .i64 ag) := (zi aa.out 6).trans rfl
        have gF : wc.cell? ⟨ab,7,none⟩ = some (.string ae) := (zi aa.out 7).trans rfl
        have gG : wc.cell? ⟨ab,8,none⟩ = some (.bool ap) := (zi aa.out 8).trans rfl
        have gH := zm aa.out 0
        have gI := zm aa.out 1
        have gJ := zm aa.out 2
        have gK := zm aa.out 3
        have gL := zm aa.out 4
        have gM := zm aa.out 5
        have gN := zm aa.out 6
        have gO := zm aa.out 7
        have gP := zm aa.out 8
        have jl := bk.out
        have jm := az.out
        have gQ : wc.cell? ⟨ah,0,none⟩ = some (.int .i64 aq) := (zi af.out 0).trans rfl
        have gR : wc.cell? ⟨ah,1,none⟩ = some (.int .i64 ar) := (zi af.out 1).trans rfl
        have gS : wc.cell? ⟨ah,2,none⟩ = some (.int .i64 au) := (zi af.out 2).trans rfl
        have gT : wc.cell? ⟨ah,3,none⟩ = some (.int .i64 av) := (zi af.out 3).trans rfl
        have gU : wc.cell? ⟨ah,4,none⟩ = some (.slice aG aw.length aH) := (zi af.out 4).trans rfl
        have gV : wc.cell? ⟨ah,5,none⟩ = some (.slice aJ ax.length aK) := (zi af.out 5).trans rfl
        have gW : wc.cell? ⟨ah,6,none⟩ = some (.int .i64 aA) := (zi af.out 6).trans rfl
        have gX : wc.cell? ⟨ah,7,none⟩ = some (.string aI) := (zi af.out 7).trans rfl
        have gY : wc.cell? ⟨ah,8,none⟩ = some (.bool aO) := (zi af.out 8).trans rfl
        have gZ := zm af.out 0
        have ha := zm af.out 1
        have hc := zm af.out 2
        have hf := zm af.out 3
        have hh := zm af.out 4
        have hj := zm af.out 5
        have hl := zm af.out 6
        have hm := zm af.out 7
        have hn := zm af.out 8
        have hq : wc.cell? ⟨ad,0,none⟩ = some (.int .i64 0) := (zi ac.out 0).trans rfl
        have ht : wc.cell? ⟨ad,1,none⟩ = some (.int .i64 0) := (zi ac.out 1).trans rfl
        have hu : wc.cell? ⟨ad,2,none⟩ = some (.int .i64 0) := (zi ac.out 2).trans rfl
        have hv : wc.cell? ⟨ad,3,none⟩ = some (.int .i64 0) := (zi ac.out 3).trans rfl
        have hw : wc.cell? ⟨ad,4,none⟩ = some (.slice none 0 0) := (zi ac.out 4).trans rfl
        have hx : wc.cell? ⟨ad,5,none⟩ = some (.slice none 0 0) := (zi ac.out 5).trans rfl
        have hy : wc.cell? ⟨ad,6,none⟩ = some (.int .i64 0) := (zi ac.out 6).trans rfl
        have hz : wc.cell? ⟨ad,7,none⟩ = some (.string (⟨#[]⟩ : ByteArray)) := (zi ac.out 7).trans rfl
        have ia : wc.cell? ⟨ad,8,none⟩ = some (.bool false) := (zi ac.out 8).trans rfl
        have ib := zm ac.out 0
        have ic := zm ac.out 1
        have ie := zm ac.out 2
        have ig := zm ac.out 3
        have ih := zm ac.out 4
        have ii := zm ac.out 5
        have ij := zm ac.out 6
        have ik := zm ac.out 7
        have il := zm ac.out 8
        go_wp2
        refine zzf (results_ctt rfl _ _ ad 34 #[.int .i64 aq,.int .i64 ar,.int .i64 au,.int .i64 av,.slice aG aw.length aH,.slice aJ ax.length aK,.int .i64 aA,.string (ae ++ a2),.bool (decide (((ae.size : Int) + (a2.size : Int)) < ag))] (0,0) _ rfl (by (with_reducible repeat (first | refine zj ?_ _ | refine zl ?_ | refine zk ?_ _)); refine zp (cs := #[.int .i64 aq,.int .i64 ar,.int .i64 au,.int .i64 av,.slice aG aw.length aH,.slice aJ ax.length aK,.int .i64 aA,.string (ae ++ a2),.bool false]) ?_ 8 _ rfl; (with_reducible repeat (first | refine zj ?_ _ | refine zl ?_ | refine zk ?_ _)); refine zp (cs := #[.int .i64 aq,.int .i64 ar,.int .i64 au,.int .i64 av,.slice aG aw.length aH,.slice aJ ax.length aK,.int .i64 aA,.string (⟨#[]⟩ : ByteArray),.bool false]) ?_ 7 _ rfl; (with_reducible repeat (first | refine zj ?_ _ | refine zl ?_ | refine zk ?_ _)); refine zp (cs := #[.int .i64 aq,.int .i64 ar,.int .i64 au,.int .i64 av,.slice aG aw.length aH,.slice aJ ax.length aK,.int .i64 0,.string (⟨#[]⟩ : ByteArray),.bool false]) ?_ 6 _ rfl; (with_reducible repeat (first | refine zj ?_ _ | refine zl ?_ | refine zk ?_ _)); refine zp (cs := #[.int .i64 aq,.int .i64 ar,.int .i64 au,.int .i64 av,.slice aG aw.length aH,.slice none 0 0,.int .i64 0,.string (⟨#[]⟩ : ByteArray),.bool false]) ?_ 5 _ rfl; (with_reducible repeat (first | refine zj ?_ _ | refine zl ?_ | refine zk ?_ _)); refine zp (cs := #[.int .i64 aq,.int .i64 ar,.int .i64 au,.int .i64 av,.slice none 0 0,.slice none 0 0,.int .i64 0,.string (⟨#[]⟩ : ByteArray),.bool false]) ?_ 4 _ rfl; (with_reducible repeat (first | refine zj ?_ _ | refine zl ?_ | refine zk ?_ _)); refine zp (cs := #[.int .i64 aq,.int .i64 ar,.int .i64 au,.int .i64 0,.slice none 0 0,.slice none 0 0,.int .i64 0,.string (⟨#[]⟩ : ByteArray),.bool false]) ?_ 3 _ rfl; (with_reducible repeat (first | refine zj ?_ _ | refine zl ?_ | refine zk ?_ _)); refine zp (cs := #[.int .i64 aq,.int .i64 ar,.int .i64 0,.int .i64 0,.slice none 0 0,.slice none 0 0,.int .i64 0,.string (⟨#[]⟩ : ByteArray),.bool false]) ?_ 2 _ rfl; (with_reducible repeat (first | refine zj ?_ _ | refine zl ?_ | refine zk ?_ _)); refine zp (cs := #[.int .i64 aq,.int .i64 0,.int .i64 0,.int .i64 0,.slice none 0 0,.slice none 0 0,.int .i64 0,.string (⟨#[]⟩ : ByteArray),.bool false]) ?_ 1 _ rfl; (with_reducible repeat (first | refine zj ?_ _ | refine zl ?_ | refine zk ?_ _)); refine zp (cs := #[.int .i64 0,.int .i64 0,.int .i64 0,.int .i64 0,.slice none 0 0,.slice none 0 0,.int .i64 0,.string (⟨#[]⟩ : ByteArray),.bool false]) ?_ 0 _ rfl; (with_reducible repeat (first | refine zj ?_ _ | refine zl ?_ | refine zk ?_ _)); refine zn ?_ az.out _; (with_reducible repeat (first | refine zj ?_ _ | refine zl ?_ | refine zk ?_ _)); refine zn ?_ az.out _; (with_reducible repeat (first | refine zj ?_ _ | refine zl ?_ | refine zk ?_ _)); exact ac.out) Try.underlying34 rfl (by kernel_rfl)) rfl ?_
        exact ⟨_,_,by first | rfl | (simp [zzl,zzm] <;> rfl) | (simp [*,zzl,zzm] <;> rfl),by (with_reducible repeat (first | apply zu | apply zt | apply zs)); exact zx (zr (p := ⟨ad,8,none⟩) (zr (p := ⟨ad,7,none⟩) (zr (p := ⟨ad,6,none⟩) (zr (p := ⟨ad,5,none⟩) (zr (p := ⟨ad,4,none⟩) (zr (p := ⟨ad,3,none⟩) (zr (p := ⟨ad,2,none⟩) (zr (p := ⟨ad,1,none⟩) (zr (p := ⟨ad,0,none⟩) (zr (p := ⟨ah,8,none⟩) (zr (p := ⟨ah,7,none⟩) (zy (zy HO_366004.out af.out (by decide)) ac.out (by decide)) (fun _ hk => hk.1.2) (.string (ae ++ a2))) (fun _ hk => hk.1.2) (.bool (decide (((ae.size : Int) + (a2.size : Int)) < ag)))) (fun _ hk => hk.2) (.int .i64 aq)) (fun _ hk => hk.2) (.int .i64 ar)) (fun _ hk => hk.2) (.int .i64 au)) (fun _ hk => hk.2) (.int .i64 av)) (fun _ hk => hk.2) (.slice aG aw.length aH)) (fun _ hk => hk.2) (.slice aJ ax.length aK)) (fun _ hk => hk.2) (.int .i64 aA)) (fun _ hk => hk.2) (.string (ae ++ a2))) (fun _ hk => hk.2) (.bool (decide (((ae.size : Int) + (a2.size : Int)) < ag)))) (fun _ hk => hk.1.1),by (with_reducible repeat (first | apply zu | apply zt | apply zs)); exact zx (zr (p := ⟨ad,8,none⟩) (zr (p := ⟨ad,7,none⟩) (zr (p := ⟨ad,6,none⟩) (zr (p := ⟨ad,5,none⟩) (zr (p := ⟨ad,4,none⟩) (zr (p := ⟨ad,3,none⟩) (zr (p := ⟨ad,2,none⟩) (zr (p := ⟨ad,1,none⟩) (zr (p := ⟨ad,0,none⟩) (zr (p := ⟨ah,8,none⟩) (zr (p := ⟨ah,7,none⟩) (zy (zy HO_366005.out af.out (by decide)) ac.out (by decide)) (fun _ hk => hk.1.2) (.string (ae ++ a2))) (fun _ hk => hk.1.2) (.bool (decide (((ae.size : Int) + (a2.size : Int)) < ag)))) (fun _ hk => hk.2) (.int .i64 aq)) (fun _ hk => hk.2) (.int .i64 ar)) (fun _ hk => hk.2) (.int .i64 au)) (fun _ hk => hk.2) (.int .i64 av)) (fun _ hk => hk.2) (.slice aG aw.length aH)) (fun _ hk => hk.2) (.slice aJ ax.length aK)) (fun _ hk => hk.2) (.int .i64 aA)) (fun _ hk => hk.2) (.string (ae ++ a2))) (fun _ hk => hk.2) (.bool (decide (((ae.size : Int) + (a2.size : Int)) < ag)))) (fun _ hk => hk.1.1),by repeat (first | (with_reducible first | exact HB.out | apply Zq | apply Zp | apply Zo | refine Zn ?_ aF.out | refine Zn ?_ aL.out | refine Zn ?_ bl.out) | exact HB.out)⟩
       ·
        rw [if_neg cO] at H
        exact absurd H (by simp)
end Go.Proofs.Ytpagkmdlmhdenaa.PAll
