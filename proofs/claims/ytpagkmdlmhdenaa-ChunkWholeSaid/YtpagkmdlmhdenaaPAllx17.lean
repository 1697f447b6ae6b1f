-- Written by a program of the session.
import Derived.Test.YtpagkmdlmhdenaaAlAll
import Derived.Test.YtpagkmdlmhdenaaPAllx0
import Derived.Test.YtpagkmdlmhdenaaPAllx15
import Derived.Test.YtpagkmdlmhdenaaPAllx16
namespace Go.Proofs.Ytpagkmdlmhdenaa.PAll
open Go.RowKit Go.Proofs.YtpagkmdlmhdenaaW.PrintWords Go.Proofs.YtpagkmdlmhdenaaW.PrintLast Go.Proofs.YtpagkmdlmhdenaaW.PrintMore
attribute [local go_sem] max2_int min2_int max_two min_two max_three min_three max_four min_four   -- for this text's walks alone
set_option linter.unusedVariables false
set_option linter.unusedSimpArgs false
abbrev z17B0 : Array Bool := #[true,true,true,true,true,true,true,true,true,true,true,true,true,true,false]
/-! ### chunk_Begin: function 14 -/
def chunk_Begin.j0 : Nat → Bool → Int → Int → Int → Int → List Int → List Int → Int → ByteArray → Bool → Option (Int × Int × Int × Int × List Int × List Int × Int × ByteArray × Bool × Int)
 | 0,_,_,_,_,_,_,_,_,_,_ => none
 | k + 1,dn,bm,bn,bo,bq,br,bs,bt,bu,bv => if dn = true then (some (0,0,0,0,([] : List Int),([] : List Int),0,(⟨#[]⟩ : ByteArray),false,150)) else (some (bm,bn,bo,bq,br,bs,bt,bu,bv,0))
def chunk_Begin.f (k : Nat) (a0 : Int) (a1 : Int) (ah : Int) (ai : Int) (ap : List Int) (aq : List Int) (ak : ByteArray) : Option (Int × Int × Int × Int × List Int × List Int × Int × ByteArray × Bool × Int) := (chunk_own.f ap aq).bind fun aN => ((chunk_Check.f k a0 a1 ah ai aN.1 aN.2 (ak.size : Int) (⟨#[]⟩ : ByteArray) true).bind fun aO => (chunk_Begin.j0 k (aO != 0) a0 a1 ah ai aN.1 aN.2 (ak.size : Int) (⟨#[]⟩ : ByteArray) true))
def chunk_Begin.T1 : Bool × List (List Nat × List Nat) := (true,[([],[]),([],[]),([],[]),([2],[2]),([],[]),([4],[4]),([],[]),([6],[6]),([7],[7]),([],[]),([9],[9]),([10],[10]),([0,1,3,5,8,11],[0,1,3,5,8,11]),([],[]),([13,12,8,0,1,2,3,4,5,6,7,8,9,10,11,12,13],[12,13])])
def chunk_Begin.B1 : List Nat := [0,0,0,4,0,16,0,64,192,0,512,1536,4095,0,16383]
theorem chunk_Begin.tab1 : rtab .any (opsOf Try.f14 1) = chunk_Begin.T1 := by kernel_rfl
theorem chunk_Begin.bits1 : waitsOk chunk_Begin.T1.2 chunk_Begin.B1 = true := by kernel_rfl
set_option maxHeartbeats 8000000 in
set_option maxRecDepth 100000 in
theorem chunk_Begin.calls (k : Nat) (a0 : Int) (a1 : Int) (ah : Int) (ai : Int) (au : Option Addr) (av : Nat) (ap : List Int) (aw : Option Addr) (ax : Nat) (aq : List Int) (ak : ByteArray) (r1 : Int) (r2 : Int) (r3 : Int) (r4 : Int) (r5 : List Int) (r6 : List Int) (r7 : Int) (r8 : ByteArray) (r9 : Bool) (r10 : Int) (w : World) (bd : Kd.C (Kd.int .i64) w au ap.length ap) (be : ap.length ≤ av) (bf : Kd.C (Kd.int .i64) w aw aq.length aq) (bg : aq.length ≤ ax) (h : chunk_Begin.f k a0 a1 ah ai ap aq ak = some (r1,r2,r3,r4,r5,r6,r7,r8,r9,r10)) :
 Calls Try.prog 14 #[.int .i64 a0,.int .i64 a1,.agg #[.int .i64 ah,.int .i64 ai,.slice au ap.length av,.slice aw aq.length ax,.string ak]] w fun e w' => ∃ bP bQ : Value,e = .returned (.tuple #[.agg #[.int .i64 r1,.int .i64 r2,.int .i64 r3,.int .i64 r4,bP,bQ,.int .i64 r7,.string r8,.bool r9],.int .i64 r10]) ∧ Kd.R (Kd.int .i64) 3 w' w.heap.size (fun k_ => some k_ ≠ (bQ : Value).ownBlock) bP r5 ∧ Kd.R (Kd.int .i64) 3 w' w.heap.size (fun k_ => some k_ ≠ (bP : Value).ownBlock) bQ r6 ∧ Below w.heap.size w w' := by
 have hu26 := Try.underlying26
 have hu34 := Try.underlying34
 have hu24 := Try.underlying24
 have bh := zzk bd
 have bi := zzk be
 clear bd be
 have bj := zzk bf
 have bk := zzk bg
 clear bf bg
 have HB := zzk (Below.refl w.heap.size w)
 have H : ((chunk_own.f ap aq).bind fun aN => ((chunk_Check.f k a0 a1 ah ai aN.1 aN.2 (ak.size : Int) (⟨#[]⟩ : ByteArray) true).bind fun aO => (chunk_Begin.j0 k (aO != 0) a0 a1 ah ai aN.1 aN.2 (ak.size : Int) (⟨#[]⟩ : ByteArray) true))) = some (r1,r2,r3,r4,r5,r6,r7,r8,r9,r10) := h
 clear h
 replace H := Option.bind_eq_some_iff.mp H
 obtain ⟨⟨am,ao⟩,bV,H⟩ := H
 replace H : ((chunk_Check.f k a0 a1 ah ai am ao (ak.size : Int) (⟨#[]⟩ : ByteArray) true).bind fun aO => (chunk_Begin.j0 k (aO != 0) a0 a1 ah ai am ao (ak.size : Int) (⟨#[]⟩ : ByteArray) true)) = some (r1,r2,r3,r4,r5,r6,r7,r8,r9,r10) := H
 have A4 := zzk bV
 clear bV
 have bR := zzk H
 clear H
 go_enter Try.func14,Try.ntmps14
 try go_wp2_with (first | ((with_reducible refine Zy (N := 5) rfl ?_); refine zzc ?hg (N := 5) ?hd (cs := #[.int .i64 ah,.int .i64 ai,.slice au ap.length av,.slice aw aq.length ax,.string ak]) (t := 26) ?hr ?_; (case hd => rfl); (case hg => rfl); (case hr => first | (go_simp; done) | (go_simp; rfl)); intro aj hg w6 hbox hb; have aG := zzk (Zs (by repeat (first | (with_reducible first | exact HB.out | apply Zq | apply Zp | apply Zo) | exact HB.out)) hb); have aH := zzk (hbox); have aI := zzk ((by rw [hg]; exact (Zr (by repeat (first | (with_reducible first | exact HB.out | apply Zq | apply Zp | apply Zo) | exact HB.out))) : w.heap.size ≤ aj)); have aJ := zzk ((by rw [hg]; exact (Zr (by repeat (first | (with_reducible first | exact HB.out | apply Zq | apply Zp | apply Zo) | exact HB.out))) : w.heap.size ≤ aj)); clear HB; have HB := aG; have af := aH; have dr := aI; have ar := aJ; clear aG aH aI aJ; clear hb hbox hg) | ((with_reducible refine Zy (N := 6) rfl ?_); refine zzc ?hg (N := 6) ?hd (cs := #[.int .i64 0,.int .i64 0,.int .i64 0,.int .i64 0,.slice none 0 0,.slice none 0 0,.int .i64 0,.string (⟨#[]⟩ : ByteArray),.bool false]) (t := 34) ?hr ?_; (case hd => rfl); (case hg => rfl); (case hr => first | (go_simp; done) | (go_simp; rfl)); intro ae hg w7 hbox hb; have aG := zzk (zo (g := aj) (o := .cells #[.int .i64 ah,.int .i64 ai,.slice au ap.length av,.slice aw aq.length ax,.string ak] 26 (0,0)) (by (with_reducible repeat (first | refine zj ?_ _ | refine zl ?_ | refine zk ?_ _)); exact af.out) hb); have aH := zzk (Zs (by repeat (first | (with_reducible first | exact HB.out | apply Zq | apply Zp | apply Zo | refine Zn ?_ ar.out) | exact HB.out)) hb); have aI := zzk (hbox); have aJ := zzk ((by rw [hg]; exact (Zr (by repeat (first | (with_reducible first | exact HB.out | apply Zq | apply Zp | apply Zo | refine Zn ?_ ar.out) | exact HB.out))) : w.heap.size ≤ ae)); have aL := zzk ((by rw [hg]; exact (Zr (by repeat (first | (with_reducible first | exact HB.out | apply Zq | apply Zp | apply Zo | refine Zn ?_ ar.out) | exact HB.out))) : w.heap.size ≤ ae)); have aM := zzk ((by rw [hg]; exact Nat.ne_of_lt (zq (g := aj) (o := .cells #[.int .i64 ah,.int .i64 ai,.slice au ap.length av,.slice aw aq.length ax,.string ak] 26 (0,0)) (by (with_reducible repeat (first | refine zj ?_ _ | refine zl ?_ | refine zk ?_ _)); exact af.out)) : aj ≠ ae)); have aP := zzk ((by rw [hg]; exact Nat.ne_of_gt (zq (g := aj) (o := .cells #[.int .i64 ah,.int .i64 ai,.slice au ap.length av,.slice aw aq.length ax,.string ak] 26 (0,0)) (by (with_reducible repeat (first | refine zj ?_ _ | refine zl ?_ | refine zk ?_ _)); exact af.out)) : ae ≠ aj)); clear af; clear HB; have af := aG; have HB := aH; have ad := aI; have dt := aJ; have az := aL; have aQ := aM; have aR := aP; clear aG aH aI aJ aL aM aP; clear hb hbox hg))
 have aG := zzk (zl af.out)
 have aH := zzk (zl ad.out)
 have aI := zzk (Zo HB.out)
 clear af
 clear ad
 clear HB
 have af := aG
 have ad := aH
 have HB := aI
 clear aG aH aI
 refine start_ (n := 15) (S := fun w' => w'.cell? ⟨aj,0,none⟩ = some (.int .i64 ah) ∧ w'.cell? ⟨aj,1,none⟩ = some (.int .i64 ai) ∧ w'.cell? ⟨aj,2,none⟩ = some (.slice au ap.length av) ∧ w'.cell? ⟨aj,3,none⟩ = some (.slice aw aq.length ax) ∧ w'.cell? ⟨aj,4,none⟩ = some (.string ak)) (ds := []) #[false,false,false,false,false,false,false,false,false,false,false,false,false,false,false] (by kernel_rfl) rfl rfl ⟨(zi af.out 0).trans rfl,(zi af.out 1).trans rfl,(zi af.out 2).trans rfl,(zi af.out 3).trans rfl,(zi af.out 4).trans rfl⟩ (fun hHeld => ?_); refine with_tabW chunk_Begin.tab1 chunk_Begin.bits1 (fun HT_ HW_ => ?_)
 generalize w7.drew = w8 at af ad HB hHeld ⊢
 refine pure_ (i := 0) (N := some 9) (v := ?_) (a' := ?_) #[true,false,false,false,false,false,false,false,false,false,false,false,false,false,false] rfl rfl (Zu HT_.out (by kernel_rfl)) (fun _ _ _ h => h) (Or.inl ⟨by rfl,?_⟩) ?_ ?_
 rotate_left
 ·
  intro w'
  go_simp
  with_reducible rfl
 rotate_left
 ·
  simp only [Act.put,za,zb,zc,Zv,Zw]
  rfl
 refine pure_ (i := 1) (N := some 10) (v := ?_) (a' := ?_) #[true,true,false,false,false,false,false,false,false,false,false,false,false,false,false] rfl rfl (Zu HT_.out (by kernel_rfl)) (fun _ _ _ h => h) (Or.inl ⟨by rfl,?_⟩) ?_ ?_
 rotate_left
 ·
  intro w'
  go_simp
  with_reducible rfl
 rotate_left
 ·
  simp only [Act.put,za,zb,zc,Zv,Zw]
  rfl
 refine pure_ (i := 2) (N := some 11) (v := ?_) (a' := ?_) #[true,true,true,false,false,false,false,false,false,false,false,false,false,false,false] rfl rfl (Zu HT_.out (by kernel_rfl)) (fun _ _ _ h => h) (Or.inl ⟨by rfl,?_⟩) ?_ ?_
 rotate_left
 ·
  intro w'
  go_simp
  with_reducible rfl
 rotate_left
 ·
  simp only [Act.put,za,zb,zc,Zv,Zw]
  rfl
 refine pure_ (i := 4) (N := some 13) (v := ?_) (a' := ?_) #[true,true,true,false,true,false,false,false,false,false,false,false,false,false,false] rfl rfl (Zu HT_.out (by kernel_rfl)) (fun _ _ _ h => h) (Or.inl ⟨by rfl,?_⟩) ?_ ?_
 rotate_left
 ·
  intro w'
  go_simp
  with_reducible rfl
 rotate_left
 ·
  simp only [Act.put,za,zb,zc,Zv,Zw]
  rfl
 refine pure_ (i := 6) (N := some 15) (v := ?_) (a' := ?_) #[true,true,true,false,true,false,true,false,false,false,false,false,false,false,false] rfl rfl (Zu HT_.out (by kernel_rfl)) (fun _ _ _ h => h) (Or.inl ⟨by rfl,?_⟩) ?_ ?_
 rotate_left
 ·
  intro w'
  go_simp
  with_reducible rfl
 rotate_left
 ·
  simp only [Act.put,za,zb,zc,Zv,Zw]
  rfl
 refine pure_ (i := 9) (N := some 18) (v := ?_) (a' := ?_) #[true,true,true,false,true,false,true,false,false,true,false,false,false,false,false] rfl rfl (Zu HT_.out (by kernel_rfl)) (fun _ _ _ h => h) (Or.inl ⟨by rfl,?_⟩) ?_ ?_
 rotate_left
 ·
  intro w'
  go_simp
  with_reducible rfl
 rotate_left
 ·
  simp only [Act.put,za,zb,zc,Zv,Zw]
  rfl
 refine take_ (i := 3) (N := some 12) (v := ?_) (a' := ?_) #[true,true,true,true,true,false,true,false,false,true,false,false,false,false,false] rfl rfl (take_ofW HT_.out HW_.out (by kernel_rfl)) (fun _ _ _ h => h) (Or.inl ⟨by rfl,?_⟩) hHeld ?_ ?_
 rotate_left
 ·
  rintro w' ⟨s0,s1,s2,s3,s4⟩
  go_simp
  with_reducible rfl
 rotate_left
 ·
  simp only [Act.put,za,zb,zc,Zv,Zw]
  rfl
 refine take_ (i := 5) (N := some 14) (v := ?_) (a' := ?_) #[true,true,true,true,true,true,true,false,false,true,false,false,false,false,false] rfl rfl (take_ofW HT_.out HW_.out (by kernel_rfl)) (fun _ _ _ h => h) (Or.inl ⟨by rfl,?_⟩) hHeld ?_ ?_
 rotate_left
 ·
  rintro w' ⟨s0,s1,s2,s3,s4⟩
  go_simp
  with_reducible rfl
 rotate_left
 ·
  simp only [Act.put,za,zb,zc,Zv,Zw]
  rfl
 refine take_ (i := 7) (N := some 16) (v := ?_) (a' := ?_) #[true,true,true,true,true,true,true,true,false,true,false,false,false,false,false] rfl rfl (take_ofW HT_.out HW_.out (by kernel_rfl)) (fun _ _ _ h => h) (Or.inl ⟨by rfl,?_⟩) hHeld ?_ ?_
 rotate_left
 ·
  rintro w' ⟨s0,s1,s2,s3,s4⟩
  go_simp
  with_reducible rfl
 rotate_left
 ·
  simp only [Act.put,za,zb,zc,Zv,Zw]
  rfl
 refine take_ (i := 10) (N := some 19) (v := ?_) (a' := ?_) #[true,true,true,true,true,true,true,true,false,true,true,false,false,false,false] rfl rfl (take_ofW HT_.out HW_.out (by kernel_rfl)) (fun _ _ _ h => h) (Or.inl ⟨by rfl,?_⟩) hHeld ?_ ?_
 rotate_left
 ·
  rintro w' ⟨s0,s1,s2,s3,s4⟩
  go_simp
  with_reducible rfl
 rotate_left
 ·
  simp only [Act.put,za,zb,zc,Zv,Zw]
  rfl
 refine pure_ (i := 11) (N := some 20) (v := ?_) (a' := ?_) #[true,true,true,true,true,true,true,true,false,true,true,true,false,false,false] rfl rfl (Zu HT_.out (by kernel_rfl)) (fun _ _ _ h => h) (Or.inl ⟨by rfl,?_⟩) ?_ ?_
 rotate_left
 ·
  intro w'
  go_simp
  with_reducible rfl
 rotate_left
 ·
  simp only [Act.put,za,zb,zc,Zv,Zw]
  rfl
 refine join_ (σ := Value × Value × Nat) 1 z17B0 (fun s_ => [(17,.agg #[s_.1,s_.2.1]),(8,.pointer (some ⟨s_.2.2,0,none⟩)),(21,.agg #[.int .i64 a0,.int .i64 a1,.int .i64 ah,.int .i64 ai,s_.1,s_.2.1,.int .i64 (ak.size : Int),.string (⟨#[]⟩ : ByteArray),.bool true])]) (fun s_ w' => (w'.cell? ⟨aj,0,none⟩ = some (.int .i64 ah) ∧ w'.cell? ⟨aj,1,none⟩ = some (.int .i64 ai) ∧ w'.cell? ⟨aj,2,none⟩ = some (.slice au ap.length av) ∧ w'.cell? ⟨aj,3,none⟩ = some (.slice aw aq.length ax) ∧ w'.cell? ⟨aj,4,none⟩ = some (.string ak)) ∧ (Kd.R (Kd.int .i64) 3 w' w.heap.size (fun k_ => some k_ ≠ (s_.2.1 : Value).ownBlock) s_.1 am) ∧ (Kd.R (Kd.int .i64) 3 w' w.heap.size (fun k_ => some k_ ≠ (s_.1 : Value).ownBlock) s_.2.1 ao) ∧ (w'.heap[aj]? = some (.cells #[.int .i64 ah,.int .i64 ai,.slice au ap.length av,.slice aw aq.length ax,.string ak] 26 (0,0))) ∧ (w'.heap[ae]? = some (.cells #[.int .i64 0,.int .i64 0,.int .i64 0,.int .i64 0,.slice none 0 0,.slice none 0 0,.int .i64 0,.string (⟨#[]⟩ : ByteArray),.bool false] 34 (0,0))) ∧ (w'.heap[s_.2.2]? = some (.cells #[.int .i64 0,.int .i64 0,.int .i64 0,.int .i64 0,.slice none 0 0,.slice none 0 0,.int .i64 0,.string (⟨#[]⟩ : ByteArray),.bool false] 34 (0,0))) ∧ (w.heap.size ≤ s_.2.2) ∧ (w.heap.size ≤ s_.2.2) ∧ (aj ≠ s_.2.2) ∧ (s_.2.2 ≠ aj) ∧ (ae ≠ s_.2.2) ∧ (s_.2.2 ≠ ae) ∧ (Below w.heap.size w w')) ?_ ?_
 rotate_left
 ·
  intro hCont
  refine two_ (i := 8) (j := 13) (Ni := some 17) (Nj := some 8) #[true,true,true,true,true,true,true,true,true,true,true,true,false,false,false] #[true,true,true,true,true,true,true,true,false,true,true,true,false,true,false] rfl rfl rfl rfl (two_of HT_.out (by kernel_rfl)) (by decide) (by decide) (fun K hK => ?_) (fun K hK => ?_)
  ·
   skip
   refine goes_ Try.func31 (by kernel_rfl) rfl #[.agg #[.slice au ap.length av,.slice aw aq.length ax]] (by rfl) rfl rfl (by (try simp only [zd,ze,zf]); first | done | rfl | (simp only [zg,zh]; rfl)) ?_
   with_reducible refine (chunk_own.calls _ _ ap _ _ aq am ao _ ?side1 ?side2 ?side3 ?side4 A4.out).mono ?_
   (case side1 => repeat (first | exact (Zm bh.out HB.out) | (with_reducible refine Zk ?_ _) | (with_reducible refine Zj ?_ _) | (with_reducible refine Zl ?_)))
   (case side2 => exact bi.out)
   (case side3 => repeat (first | exact (Zm bj.out HB.out) | (with_reducible refine Zk ?_ _) | (with_reducible refine Zj ?_ _) | (with_reducible refine Zl ?_)))
   (case side4 => exact bk.out)
   rintro e w9 ⟨aZ,ba,rfl,ho0,ho1,hb⟩
   refine ⟨_,rfl,?_⟩
   have aG := zzk (Za ho0 (Zr (by repeat (first | (with_reducible first | exact HB.out | apply Zq | apply Zp | apply Zo | refine Zn ?_ ar.out | refine Zn ?_ az.out) | exact HB.out))))
   have aH := zzk (Za ho1 (Zr (by repeat (first | (with_reducible first | exact HB.out | apply Zq | apply Zp | apply Zo | refine Zn ?_ ar.out | refine Zn ?_ az.out) | exact HB.out))))
   have aI := zzk (zo (g := aj) (o := .cells #[.int .i64 ah,.int .i64 ai,.slice au ap.length av,.slice aw aq.length ax,.string ak] 26 (0,0)) (by (with_reducible repeat (first | refine zj ?_ _ | refine zl ?_ | refine zk ?_ _)); exact af.out) hb)
   have aJ := zzk (zo (g := ae) (o := .cells #[.int .i64 0,.int .i64 0,.int .i64 0,.int .i64 0,.slice none 0 0,.slice none 0 0,.int .i64 0,.string (⟨#[]⟩ : ByteArray),.bool false] 34 (0,0)) (by (with_reducible repeat (first | refine zj ?_ _ | refine zl ?_ | refine zk ?_ _)); exact ad.out) hb)
   have aL := zzk (Zs (by repeat (first | (with_reducible first | exact HB.out | apply Zq | apply Zp | apply Zo | refine Zn ?_ ar.out | refine Zn ?_ az.out) | exact HB.out)) hb)
   clear af
   clear ad
   clear HB
   have aD := aG
   have aE := aH
   have af := aI
   have ad := aJ
   have HB := aL
   clear aG aH aI aJ aL
   (try clear hb)
   (try clear hb2)
   (try clear hk)
   (try clear hi)
   (try clear ho0)
   (try clear ho1)
   obtain ⟨cg,ch,eo10⟩ := zz aE.out
   (first | subst eo10 | (injection eo10 with f1_ f2_ f3_; have f4_ := f1_.symm; have f5_ := f3_.symm; clear f1_ f2_ f3_; subst f4_; subst f5_))
   obtain ⟨bb,bc,eo11⟩ := zz aD.out
   (first | subst eo11 | (injection eo11 with f1_ f2_ f3_; have f4_ := f1_.symm; have f5_ := f3_.symm; clear f1_ f2_ f3_; subst f4_; subst f5_))
   refine hK.out _ _ ⟨(zi af.out 0).trans rfl,(zi af.out 1).trans rfl,(zi af.out 2).trans rfl,(zi af.out 3).trans rfl,(zi af.out 4).trans rfl⟩ (fun hHeld => ?_)
   clear hK K
   refine norm_ (a' := ?_) ?_ ?_
   rotate_left
   ·
    show Act.put _ (some 17) _ = _
    simp only [Act.put,za,zb,zc,Zv,Zw]
    rfl
   refine pure_ (i := 12) (N := some 21) (v := ?_) (a' := ?_) #[true,true,true,true,true,true,true,true,true,true,true,true,true,false,false] rfl rfl (Zu HT_.out (by kernel_rfl)) (fun _ _ _ h => h) (Or.inl ⟨by rfl,?_⟩) ?_ ?_
   rotate_left
   ·
    intro w'
    go_simp
    with_reducible rfl
   rotate_left
   ·
    simp only [Act.put,za,zb,zc,Zv,Zw]
    rfl
   refine one_ (i := 13) (N := some 8) z17B0 rfl rfl (one_of HT_.out (by kernel_rfl)) (by decide) (fun K hK => ?_)
   refine box_step ?hg (N := 8) ?hd (cs := #[.int .i64 0,.int .i64 0,.int .i64 0,.int .i64 0,.slice none 0 0,.slice none 0 0,.int .i64 0,.string (⟨#[]⟩ : ByteArray),.bool false]) (t := 34) ?hr ?_; (case hd => rfl); (case hg => rfl); (case hr => first | (go_simp; done) | (go_simp; rfl))
   intro aa hg dI hbox hb
   have aG := zzk (zv (by (with_reducible repeat (first | apply zu | apply zt | apply zs)); exact aD.out) hb)
   have aH := zzk (zv (by (with_reducible repeat (first | apply zu | apply zt | apply zs)); exact aE.out) hb)
   have aI := zzk (zo (g := aj) (o := .cells #[.int .i64 ah,.int .i64 ai,.slice au ap.length av,.slice aw aq.length ax,.string ak] 26 (0,0)) (by (with_reducible repeat (first | refine zj ?_ _ | refine zl ?_ | refine zk ?_ _)); exact af.out) hb)
   have aJ := zzk (zo (g := ae) (o := .cells #[.int .i64 0,.int .i64 0,.int .i64 0,.int .i64 0,.slice none 0 0,.slice none 0 0,.int .i64 0,.string (⟨#[]⟩ : ByteArray),.bool false] 34 (0,0)) (by (with_reducible repeat (first | refine zj ?_ _ | refine zl ?_ | refine zk ?_ _)); exact ad.out) hb)
   have aL := zzk (Zs (by repeat (first | (with_reducible first | exact HB.out | apply Zq | apply Zp | apply Zo | refine Zn ?_ ar.out | refine Zn ?_ az.out) | exact HB.out)) hb)
   have aM := zzk (hbox)
   have aP := zzk ((by rw [hg]; exact (Zr (by repeat (first | (with_reducible first | exact HB.out | apply Zq | apply Zp | apply Zo | refine Zn ?_ ar.out | refine Zn ?_ az.out) | exact HB.out))) : w.heap.size ≤ aa))
   have aS := zzk ((by rw [hg]; exact (Zr (by repeat (first | (with_reducible first | exact HB.out | apply Zq | apply Zp | apply Zo | refine Zn ?_ ar.out | refine Zn ?_ az.out) | exact HB.out))) : w.heap.size ≤ aa))
   have aT := zzk ((by rw [hg]; exact Nat.ne_of_lt (zq (g := aj) (o := .cells #[.int .i64 ah,.int .i64 ai,.slice au ap.length av,.slice aw aq.length ax,.string ak] 26 (0,0)) (by (with_reducible repeat (first | refine zj ?_ _ | refine zl ?_ | refine zk ?_ _)); exact af.out)) : aj ≠ aa))
   have aU := zzk ((by rw [hg]; exact Nat.ne_of_gt (zq (g := aj) (o := .cells #[.int .i64 ah,.int .i64 ai,.slice au ap.length av,.slice aw aq.length ax,.string ak] 26 (0,0)) (by (with_reducible repeat (first | refine zj ?_ _ | refine zl ?_ | refine zk ?_ _)); exact af.out)) : aa ≠ aj))
   have aX := zzk ((by rw [hg]; exact Nat.ne_of_lt (zq (g := ae) (o := .cells #[.int .i64 0,.int .i64 0,.int .i64 0,.int .i64 0,.slice none 0 0,.slice none 0 0,.int .i64 0,.string (⟨#[]⟩ : ByteArray),.bool false] 34 (0,0)) (by (with_reducible repeat (first | refine zj ?_ _ | refine zl ?_ | refine zk ?_ _)); exact ad.out)) : ae ≠ aa))
   have aY := zzk ((by rw [hg]; exact Nat.ne_of_gt (zq (g := ae) (o := .cells #[.int .i64 0,.int .i64 0,.int .i64 0,.int .i64 0,.slice none 0 0,.slice none 0 0,.int .i64 0,.string (⟨#[]⟩ : ByteArray),.bool false] 34 (0,0)) (by (with_reducible repeat (first | refine zj ?_ _ | refine zl ?_ | refine zk ?_ _)); exact ad.out)) : aa ≠ ae))
   clear aD
   clear aE
   clear af
   clear ad
   clear HB
   have aD := aG
   have aE := aH
   have af := aI
   have ad := aJ
   have HB := aL
   have ac := aM
   have aV := aP
   have aK := aS
   have ab := aT
   have an := aU
   have ag := aX
   have al := aY
   clear aG aH aI aJ aL aM aP aS aT aU aX aY
   clear hb hbox hg
   refine hK.out _ _ ⟨(zi af.out 0).trans rfl,(zi af.out 1).trans rfl,(zi af.out 2).trans rfl,(zi af.out 3).trans rfl,(zi af.out 4).trans rfl⟩ (fun hHeld => ?_)
   clear hK K
   refine norm_ (a' := ?_) ?_ ?_
   rotate_left
   ·
    show Act.put _ (some 8) _ = _
    simp only [Act.put,za,zb,zc,Zv,Zw]
    rfl
   exact norm_ (by simp only [putAll,Act.put,za,zb,zc]) (hCont (.slice bb am.length bc,.slice cg ao.length ch,aa) _ ⟨hHeld,(by (with_reducible repeat (first | apply zu | apply zt | apply zs)); exact aD.out),(by (with_reducible repeat (first | apply zu | apply zt | apply zs)); exact aE.out),(by (with_reducible repeat (first | refine zj ?_ _ | refine zl ?_ | refine zk ?_ _)); exact af.out),(by (with_reducible repeat (first | refine zj ?_ _ | refine zl ?_ | refine zk ?_ _)); exact ad.out),(by (with_reducible repeat (first | refine zj ?_ _ | refine zl ?_ | refine zk ?_ _)); exact ac.out),aV.out,aK.out,ab.out,an.out,ag.out,al.out,(by repeat (first | (with_reducible first | exact HB.out | apply Zq | apply Zp | apply Zo | refine Zn ?_ ar.out | refine Zn ?_ az.out | refine Zn ?_ aK.out) | exact HB.out))⟩)
  ·
   skip
   refine box_step ?hg (N := 8) ?hd (cs := #[.int .i64 0,.int .i64 0,.int .i64 0,.int .i64 0,.slice none 0 0,.slice none 0 0,.int .i64 0,.string (⟨#[]⟩ : ByteArray),.bool false]) (t := 34) ?hr ?_; (case hd => rfl); (case hg => rfl); (case hr => first | (go_simp; done) | (go_simp; rfl))
   intro aa hg w9 hbox hb
   have aG := zzk (zo (g := aj) (o := .cells #[.int .i64 ah,.int .i64 ai,.slice au ap.length av,.slice aw aq.length ax,.string ak] 26 (0,0)) (by (with_reducible repeat (first | refine zj ?_ _ | refine zl ?_ | refine zk ?_ _)); exact af.out) hb)
   have aH := zzk (zo (g := ae) (o := .cells #[.int .i64 0,.int .i64 0,.int .i64 0,.int .i64 0,.slice none 0 0,.slice none 0 0,.int .i64 0,.string (⟨#[]⟩ : ByteArray),.bool false] 34 (0,0)) (by (with_reducible repeat (first | refine zj ?_ _ | refine zl ?_ | refine zk ?_ _)); exact ad.out) hb)
   have aI := zzk (Zs (by repeat (first | (with_reducible first | exact HB.out | apply Zq | apply Zp | apply Zo | refine Zn ?_ ar.out | refine Zn ?_ az.out) | exact HB.out)) hb)
   have aJ := zzk (hbox)
   have aL := zzk ((by rw [hg]; exact (Zr (by repeat (first | (with_reducible first | exact HB.out | apply Zq | apply Zp | apply Zo | refine Zn ?_ ar.out | refine Zn ?_ az.out) | exact HB.out))) : w.heap.size ≤ aa))
   have aM := zzk ((by rw [hg]; exact (Zr (by repeat (first | (with_reducible first | exact HB.out | apply Zq | apply Zp | apply Zo | refine Zn ?_ ar.out | refine Zn ?_ az.out) | exact HB.out))) : w.heap.size ≤ aa))
   have aP := zzk ((by rw [hg]; exact Nat.ne_of_lt (zq (g := aj) (o := .cells #[.int .i64 ah,.int .i64 ai,.slice au ap.length av,.slice aw aq.length ax,.string ak] 26 (0,0)) (by (with_reducible repeat (first | refine zj ?_ _ | refine zl ?_ | refine zk ?_ _)); exact af.out)) : aj ≠ aa))
   have aS := zzk ((by rw [hg]; exact Nat.ne_of_gt (zq (g := aj) (o := .cells #[.int .i64 ah,.int .i64 ai,.slice au ap.length av,.slice aw aq.length ax,.string ak] 26 (0,0)) (by (with_reducible repeat (first | refine zj ?_ _ | refine zl ?_ | refine zk ?_ _)); exact af.out)) : aa ≠ aj))
   have aT := zzk ((by rw [hg]; exact Nat.ne_of_lt (zq (g := ae) (o := .cells #[.int .i64 0,.int .i64 0,.int .i64 0,.int .i64 0,.slice none 0 0,.slice none 0 0,.int .i64 0,.string (⟨#[]⟩ : ByteArray),.bool false] 34 (0,0)) (by (with_reducible repeat (first | refine zj ?_ _ | refine zl ?_ | refine zk ?_ _)); exact ad.out)) : ae ≠ aa))
   have aU := zzk ((by rw [hg]; exact Nat.ne_of_gt (zq (g := ae) (o := .cells #[.int .i64 0,.int .i64 0,.int .i64 0,.int .i64 0,.slice none 0 0,.slice none 0 0,.int .i64 0,.string (⟨#[]⟩ : ByteArray),.bool false] 34 (0,0)) (by (with_reducible repeat (first | refine zj ?_ _ | refine zl ?_ | refine zk ?_ _)); exact ad.out)) : aa ≠ ae))
   clear af
   clear ad
   clear HB
   have af := aG
   have ad := aH
   have HB := aI
   have ac := aJ
   have aV := aL
   have aK := aM
   have ab := aP
   have an := aS
   have ag := aT
   have al := aU
   clear aG aH aI aJ aL aM aP aS aT aU
   clear hb hbox hg
   refine hK.out _ _ ⟨(zi af.out 0).trans rfl,(zi af.out 1).trans rfl,(zi af.out 2).trans rfl,(zi af.out 3).trans rfl,(zi af.out 4).trans rfl⟩ (fun hHeld => ?_)
   clear hK K
   refine norm_ (a' := ?_) ?_ ?_
   rotate_left
   ·
    show Act.put _ (some 8) _ = _
    simp only [Act.put,za,zb,zc,Zv,Zw]
    rfl
   refine one_ (i := 8) (N := some 17) #[true,true,true,true,true,true,true,true,true,true,true,true,false,true,false] rfl rfl (one_of HT_.out (by kernel_rfl)) (by decide) (fun K hK => ?_)
   refine goes_ Try.func31 (by kernel_rfl) rfl #[.agg #[.slice au ap.length av,.slice aw aq.length ax]] (by rfl) rfl rfl (by (try simp only [zd,ze,zf]); first | done | rfl | (simp only [zg,zh]; rfl)) ?_
   with_reducible refine (chunk_own.calls _ _ ap _ _ aq am ao _ ?side1 ?side2 ?side3 ?side4 A4.out).mono ?_
   (case side1 => repeat (first | exact (Zm bh.out HB.out) | (with_reducible refine Zk ?_ _) | (with_reducible refine Zj ?_ _) | (with_reducible refine Zl ?_)))
   (case side2 => exact bi.out)
   (case side3 => repeat (first | exact (Zm bj.out HB.out) | (with_reducible refine Zk ?_ _) | (with_reducible refine Zj ?_ _) | (with_reducible refine Zl ?_)))
   (case side4 => exact bk.out)
   rintro e dJ ⟨aZ,ba,rfl,ho0,ho1,hb⟩
   refine ⟨_,rfl,?_⟩
   have aG := zzk (Za ho0 (Zr (by repeat (first | (with_reducible first | exact HB.out | apply Zq | apply Zp | apply Zo | refine Zn ?_ ar.out | refine Zn ?_ az.out | refine Zn ?_ aK.out) | exact HB.out))))
   have aH := zzk (Za ho1 (Zr (by repeat (first | (with_reducible first | exact HB.out | apply Zq | apply Zp | apply Zo | refine Zn ?_ ar.out | refine Zn ?_ az.out | refine Zn ?_ aK.out) | exact HB.out))))
   have aI := zzk (zo (g := aj) (o := .cells #[.int .i64 ah,.int .i64 ai,.slice au ap.length av,.slice aw aq.length ax,.string ak] 26 (0,0)) (by (with_reducible repeat (first | refine zj ?_ _ | refine zl ?_ | refine zk ?_ _)); exact af.out) hb)
   have aJ := zzk (zo (g := ae) (o := .cells #[.int .i64 0,.int .i64 0,.int .i64 0,.int .i64 0,.slice none 0 0,.slice none 0 0,.int .i64 0,.string (⟨#[]⟩ : ByteArray),.bool false] 34 (0,0)) (by (with_reducible repeat (first | refine zj ?_ _ | refine zl ?_ | refine zk ?_ _)); exact ad.out) hb)
   have aL := zzk (zo (g := aa) (o := .cells #[.int .i64 0,.int .i64 0,.int .i64 0,.int .i64 0,.slice none 0 0,.slice none 0 0,.int .i64 0,.string (⟨#[]⟩ : ByteArray),.bool false] 34 (0,0)) (by (with_reducible repeat (first | refine zj ?_ _ | refine zl ?_ | refine zk ?_ _)); exact ac.out) hb)
   have aM := zzk (Zs (by repeat (first | (with_reducible first | exact HB.out | apply Zq | apply Zp | apply Zo | refine Zn ?_ ar.out | refine Zn ?_ az.out | refine Zn ?_ aK.out) | exact HB.out)) hb)
   clear af
   clear ad
   clear ac
   clear HB
   have aD := aG
   have aE := aH
   have af := aI
   have ad := aJ
   have ac := aL
   have HB := aM
   clear aG aH aI aJ aL aM
   (try clear hb)
   (try clear hb2)
   (try clear hk)
   (try clear hi)
   (try clear ho0)
   (try clear ho1)
   obtain ⟨bb,bc,eo11⟩ := zz aE.out
   (first | subst eo11 | (injection eo11 with f1_ f2_ f3_; have f4_ := f1_.symm; have f5_ := f3_.symm; clear f1_ f2_ f3_; subst f4_; subst f5_))
   obtain ⟨ci,cj,eo12⟩ := zz aD.out
   (first | subst eo12 | (injection eo12 with f1_ f2_ f3_; have f4_ := f1_.symm; have f5_ := f3_.symm; clear f1_ f2_ f3_; subst f4_; subst f5_))
   refine hK.out _ _ ⟨(zi af.out 0).trans rfl,(zi af.out 1).trans rfl,(zi af.out 2).trans rfl,(zi af.out 3).trans rfl,(zi af.out 4).trans rfl⟩ (fun hHeld => ?_)
   clear hK K
   refine norm_ (a' := ?_) ?_ ?_
   rotate_left
   ·
    show Act.put _ (some 17) _ = _
    simp only [Act.put,za,zb,zc,Zv,Zw]
    rfl
   refine pure_ (i := 12) (N := some 21) (v := ?_) (a' := ?_) z17B0 rfl rfl (Zu HT_.out (by kernel_rfl)) (fun _ _ _ h => h) (Or.inl ⟨by rfl,?_⟩) ?_ ?_
   rotate_left
   ·
    intro w'
    go_simp
    with_reducible rfl
   rotate_left
   ·
    simp only [Act.put,za,zb,zc,Zv,Zw]
    rfl
   exact norm_ (by simp only [putAll,Act.put,za,zb,zc]) (hCont (.slice ci am.length cj,.slice bb ao.length bc,aa) _ ⟨hHeld,(by (with_reducible repeat (first | apply zu | apply zt | apply zs)); exact aD.out),(by (with_reducible repeat (first | apply zu | apply zt | apply zs)); exact aE.out),(by (with_reducible repeat (first | refine zj ?_ _ | refine zl ?_ | refine zk ?_ _)); exact af.out),(by (with_reducible repeat (first | refine zj ?_ _ | refine zl ?_ | refine zk ?_ _)); exact ad.out),(by (with_reducible repeat (first | refine zj ?_ _ | refine zl ?_ | refine zk ?_ _)); exact ac.out),aV.out,aK.out,ab.out,an.out,ag.out,al.out,(by repeat (first | (with_reducible first | exact HB.out | apply Zq | apply Zp | apply Zo | refine Zn ?_ ar.out | refine Zn ?_ az.out | refine Zn ?_ aK.out) | exact HB.out))⟩)
 rintro ⟨aZ,ba,aa⟩ aB ⟨hS_,bW,bX,bY,bZ,ca,cb,cc,cd,ce,cf,bS,bT⟩
 have aG : Aside0 (Kd.R (Kd.int .i64) 3 aB w.heap.size (fun k_ => some k_ ≠ (ba : Value).ownBlock) aZ am) := ⟨bW⟩
 have aH : Aside0 (Kd.R (Kd.int .i64) 3 aB w.heap.size (fun k_ => some k_ ≠ (aZ : Value).ownBlock) ba ao) := ⟨bX⟩
 have aI : Aside0 (aB.heap[aj]? = some (.cells #[.int .i64 ah,.int .i64 ai,.slice au ap.length av,.slice aw aq.length ax,.string ak] 26 (0,0))) := ⟨bY⟩
 have aJ : Aside0 (aB.heap[ae]? = some (.cells #[.int .i64 0,.int .i64 0,.int .i64 0,.int .i64 0,.slice none 0 0,.slice none 0 0,.int .i64 0,.string (⟨#[]⟩ : ByteArray),.bool false] 34 (0,0))) := ⟨bZ⟩
 have aL : Aside0 (aB.heap[aa]? = some (.cells #[.int .i64 0,.int .i64 0,.int .i64 0,.int .i64 0,.slice none 0 0,.slice none 0 0,.int .i64 0,.string (⟨#[]⟩ : ByteArray),.bool false] 34 (0,0))) := ⟨ca⟩
 have aM : Aside0 (w.heap.size ≤ aa) := ⟨cb⟩
 have aP : Aside0 (w.heap.size ≤ aa) := ⟨cc⟩
 have aS : Aside0 (aj ≠ aa) := ⟨cd⟩
 have aT : Aside0 (aa ≠ aj) := ⟨ce⟩
 have aU : Aside0 (ae ≠ aa) := ⟨cf⟩
 have aX : Aside0 (aa ≠ ae) := ⟨bS⟩
 have aY : Aside0 (Below w.heap.size w aB) := ⟨bT⟩
 clear af
 clear ad
 clear HB
 clear bW bX bY bZ ca cb cc cd ce cf bS bT
 have aD := aG
 have aE := aH
 have af := aI
 have ad := aJ
 have ac := aL
 have aV := aM
 have aK := aP
 have ab := aS
 have an := aT
 have ag := aU
 have al := aX
 have HB := aY
 clear aG aH aI aJ aL aM aP aS aT aU aX aY
 have hHeld : aB.cell? ⟨aj,0,none⟩ = some (.int .i64 ah) ∧ aB.cell? ⟨aj,1,none⟩ = some (.int .i64 ai) ∧ aB.cell? ⟨aj,2,none⟩ = some (.slice au ap.length av) ∧ aB.cell? ⟨aj,3,none⟩ = some (.slice aw aq.length ax) ∧ aB.cell? ⟨aj,4,none⟩ = some (.string ak) := hS_
 obtain ⟨aF,aC,eo14⟩ := zz aE.out
 (first | subst eo14 | (injection eo14 with f1_ f2_ f3_; have f4_ := f1_.symm; have f5_ := f3_.symm; clear f1_ f2_ f3_; subst f4_; subst f5_))
 obtain ⟨aA,ay,eo15⟩ := zz aD.out
 (first | subst eo15 | (injection eo15 with f1_ f2_ f3_; have f4_ := f1_.symm; have f5_ := f3_.symm; clear f1_ f2_ f3_; subst f4_; subst f5_))
 refine norm_ (a' := ?_) ?_ ?_
 rotate_left
 ·
  simp only [putAll,Act.put,za,zb,zc]
  rfl
 refine one_ (i := 14) (N := none) #[true,true,true,true,true,true,true,true,true,true,true,true,true,true,true] rfl rfl (one_of HT_.out (by kernel_rfl)) (by decide) (fun K hK => ?_)
 have hs16 : aB.cell? ⟨aa,0,none⟩ = some (.int .i64 0) := (zi ac.out 0).trans rfl
 have hfs16 := zm ac.out 0
 have hns16_0 := ab.out
 have hns16_1 := ag.out
 have hms16_0 := an.out
 have hms16_1 := al.out
 have hs17 : aB.cell? ⟨aa,1,none⟩ = some (.int .i64 0) := (zi ac.out 1).trans rfl
 have hfs17 := zm ac.out 1
 have hns17_0 := ab.out
 have hns17_1 := ag.out
 have hms17_0 := an.out
 have hms17_1 := al.out
 have hs18 : aB.cell? ⟨aa,2,none⟩ = some (.int .i64 0) := (zi ac.out 2).trans rfl
 have hfs18 := zm ac.out 2
 have hns18_0 := ab.out
 have hns18_1 := ag.out
 have hms18_0 := an.out
 have hms18_1 := al.out
 have hs19 : aB.cell? ⟨aa,3,none⟩ = some (.int .i64 0) := (zi ac.out 3).trans rfl
 have hfs19 := zm ac.out 3
 have hns19_0 := ab.out
 have hns19_1 := ag.out
 have hms19_0 := an.out
 have hms19_1 := al.out
 have hs20 : aB.cell? ⟨aa,4,none⟩ = some (.slice none 0 0) := (zi ac.out 4).trans rfl
 have hfs20 := zm ac.out 4
 have hns20_0 := ab.out
 have hns20_1 := ag.out
 have hms20_0 := an.out
 have hms20_1 := al.out
 have hs21 : aB.cell? ⟨aa,5,none⟩ = some (.slice none 0 0) := (zi ac.out 5).trans rfl
 have hfs21 := zm ac.out 5
 have hns21_0 := ab.out
 have hns21_1 := ag.out
 have hms21_0 := an.out
 have hms21_1 := al.out
 have hs22 : aB.cell? ⟨aa,6,none⟩ = some (.int .i64 0) := (zi ac.out 6).trans rfl
 have hfs22 := zm ac.out 6
 have hns22_0 := ab.out
 have hns22_1 := ag.out
 have hms22_0 := an.out
 have hms22_1 := al.out
 have hs23 : aB.cell? ⟨aa,7,none⟩ = some (.string (⟨#[]⟩ : ByteArray)) := (zi ac.out 7).trans rfl
 have hfs23 := zm ac.out 7
 have hns23_0 := ab.out
 have hns23_1 := ag.out
 have hms23_0 := an.out
 have hms23_1 := al.out
 have hs24 : aB.cell? ⟨aa,8,none⟩ = some (.bool false) := (zi ac.out 8).trans rfl
 have hfs24 := zm ac.out 8
 have hns24_0 := ab.out
 have hns24_1 := ag.out
 have hms24_0 := an.out
 have hms24_1 := al.out
 refine skip_ (w1 := ?_) (by rfl) rfl ?_ ?_
 rotate_left
 ·
  go_simp
  rfl
 refine hK.out _ _ ⟨((Zx (p := ⟨aa,_,none⟩) ab.out _).trans (((Zx (p := ⟨aa,_,none⟩) ab.out _).trans (((Zx (p := ⟨aa,_,none⟩) ab.out _).trans (((Zx (p := ⟨aa,_,none⟩) ab.out _).trans (((Zx (p := ⟨aa,_,none⟩) ab.out _).trans (((Zx (p := ⟨aa,_,none⟩) ab.out _).trans (((Zx (p := ⟨aa,_,none⟩) ab.out _).trans (((Zx (p := ⟨aa,_,none⟩) ab.out _).trans (((Zx (p := ⟨aa,_,none⟩) ab.out _).trans (hHeld.1)))))))))))))))))),((Zx (p := ⟨aa,_,none⟩) ab.out _).trans (((Zx (p := ⟨aa,_,none⟩) ab.out _).trans (((Zx (p := ⟨aa,_,none⟩) ab.out _).trans (((Zx (p := ⟨aa,_,none⟩) ab.out _).trans (((Zx (p := ⟨aa,_,none⟩) ab.out _).trans (((Zx (p := ⟨aa,_,none⟩) ab.out _).trans (((Zx (p := ⟨aa,_,none⟩) ab.out _).trans (((Zx (p := ⟨aa,_,none⟩) ab.out _).trans (((Zx (p := ⟨aa,_,none⟩) ab.out _).trans (hHeld.2.1)))))))))))))))))),((Zx (p := ⟨aa,_,none⟩) ab.out _).trans (((Zx (p := ⟨aa,_,none⟩) ab.out _).trans (((Zx (p := ⟨aa,_,none⟩) ab.out _).trans (((Zx (p := ⟨aa,_,none⟩) ab.out _).trans (((Zx (p := ⟨aa,_,none⟩) ab.out _).trans (((Zx (p := ⟨aa,_,none⟩) ab.out _).trans (((Zx (p := ⟨aa,_,none⟩) ab.out _).trans (((Zx (p := ⟨aa,_,none⟩) ab.out _).trans (((Zx (p := ⟨aa,_,none⟩) ab.out _).trans (hHeld.2.2.1)))))))))))))))))),((Zx (p := ⟨aa,_,none⟩) ab.out _).trans (((Zx (p := ⟨aa,_,none⟩) ab.out _).trans (((Zx (p := ⟨aa,_,none⟩) ab.out _).trans (((Zx (p := ⟨aa,_,none⟩) ab.out _).trans (((Zx (p := ⟨aa,_,none⟩) ab.out _).trans (((Zx (p := ⟨aa,_,none⟩) ab.out _).trans (((Zx (p := ⟨aa,_,none⟩) ab.out _).trans (((Zx (p := ⟨aa,_,none⟩) ab.out _).trans (((Zx (p := ⟨aa,_,none⟩) ab.out _).trans (hHeld.2.2.2.1)))))))))))))))))),((Zx (p := ⟨aa,_,none⟩) ab.out _).trans (((Zx (p := ⟨aa,_,none⟩) ab.out _).trans (((Zx (p := ⟨aa,_,none⟩) ab.out _).trans (((Zx (p := ⟨aa,_,none⟩) ab.out _).trans (((Zx (p := ⟨aa,_,none⟩) ab.out _).trans (((Zx (p := ⟨aa,_,none⟩) ab.out _).trans (((Zx (p := ⟨aa,_,none⟩) ab.out _).trans (((Zx (p := ⟨aa,_,none⟩) ab.out _).trans (((Zx (p := ⟨aa,_,none⟩) ab.out _).trans (hHeld.2.2.2.2))))))))))))))))))⟩ (fun hHeld => ?_)
 clear hK K
 refine done_ (done_of HT_.out (by kernel_rfl)) ?_
 go_upto_region 2 with (fail)
 go_cut [24] (fun dp wc => ∃ (kq : Nat) (aW : Bool),dp = .bool aW ∧ Aside0 (chunk_Begin.j0 kq aW a0 a1 ah ai am ao (ak.size : Int) (⟨#[]⟩ : ByteArray) true = some (r1,r2,r3,r4,r5,r6,r7,r8,r9,r10)) ∧ Aside0 (kq ≤ k) ∧ Aside0 (Kd.R (Kd.int .i64) 3 wc w.heap.size (fun k_ => some k_ ≠ ((.slice aF ao.length aC) : Value).ownBlock) (.slice aA am.length ay) am) ∧ Aside0 (Kd.R (Kd.int .i64) 3 wc w.heap.size (fun k_ => some k_ ≠ ((.slice aA am.length ay) : Value).ownBlock) (.slice aF ao.length aC) ao) ∧ Aside0 (wc.heap[aj]? = some (.cells #[.int .i64 ah,.int .i64 ai,(.slice au ap.length av),(.slice aw aq.length ax),.string ak] 26 (0,0))) ∧ Aside0 (wc.heap[ae]? = some (.cells #[.int .i64 0,.int .i64 0,.int .i64 0,.int .i64 0,(.slice none 0 0),(.slice none 0 0),.int .i64 0,.string (⟨#[]⟩ : ByteArray),.bool false] 34 (0,0))) ∧ Aside0 (wc.heap[aa]? = some (.cells #[.int .i64 a0,.int .i64 a1,.int .i64 ah,.int .i64 ai,(.slice aA am.length ay),(.slice aF ao.length aC),.int .i64 (ak.size : Int),.string (⟨#[]⟩ : ByteArray),.bool true] 34 (0,0))) ∧ Aside0 (Below w.heap.size w wc))
 case first =>
  have H := bR.out
  clear bR
  replace H := Option.bind_eq_some_iff.mp H
  obtain ⟨aO,bU,H⟩ := H
  replace H : (chunk_Begin.j0 k (aO != 0) a0 a1 ah ai am ao (ak.size : Int) (⟨#[]⟩ : ByteArray) true) = some (r1,r2,r3,r4,r5,r6,r7,r8,r9,r10) := H
  have dq := zzk bU
  clear bU
  have H' := zzk H
  clear H
  have du := an.out
  have dv := ab.out
  have dw := al.out
  have dx := ag.out
  have bw : aB.cell? ⟨aa,0,none⟩ = some (.int .i64 0) := (zi ac.out 0).trans rfl
  have bx : aB.cell? ⟨aa,1,none⟩ = some (.int .i64 0) := (zi ac.out 1).trans rfl
  have bz : aB.cell? ⟨aa,2,none⟩ = some (.int .i64 0) := (zi ac.out 2).trans rfl
  have bA : aB.cell? ⟨aa,3,none⟩ = some (.int .i64 0) := (zi ac.out 3).trans rfl
  have bB : aB.cell? ⟨aa,4,none⟩ = some (.slice none 0 0) := (zi ac.out 4).trans rfl
  have bC : aB.cell? ⟨aa,5,none⟩ = some (.slice none 0 0) := (zi ac.out 5).trans rfl
  have bD : aB.cell? ⟨aa,6,none⟩ = some (.int .i64 0) := (zi ac.out 6).trans rfl
  have bE : aB.cell? ⟨aa,7,none⟩ = some (.string (⟨#[]⟩ : ByteArray)) := (zi ac.out 7).trans rfl
  have bF : aB.cell? ⟨aa,8,none⟩ = some (.bool false) := (zi ac.out 8).trans rfl
  have bG := zm ac.out 0
  have bH := zm ac.out 1
  have bI := zm ac.out 2
  have bJ := zm ac.out 3
  have bK := zm ac.out 4
  have bL := zm ac.out 5
  have bM := zm ac.out 6
  have bN := zm ac.out 7
  have bO := zm ac.out 8
  go_wp2_with (first | ((with_reducible refine zza (f := 17) rfl ?_); refine zzd (some 23) rfl rfl Try.func17 (by kernel_rfl) rfl #[.agg #[.int .i64 a0,.int .i64 a1,.int .i64 ah,.int .i64 ai,.slice aA am.length ay,.slice aF ao.length aC,.int .i64 (ak.size : Int),.string (⟨#[]⟩ : ByteArray),.bool true]] rfl (by (try simp only [zd,ze,zf]); first | done | rfl | (simp only [zg,zh]; rfl)) ?_; (with_reducible refine (chunk_Check.calls k a0 a1 ah ai _ _ am _ _ ao (ak.size : Int) (⟨#[]⟩ : ByteArray) true aO _ ?side1 ?side2 ?side3 ?side4 dq.out).mono ?_); (case side1 => refine (zw (e := 3) (base := w.heap.size) (ok := fun k_ => some k_ ≠ (.slice aF ao.length aC : Value).ownBlock) (n := am.length) (c := ay) ?_).2.2; exact (by (with_reducible repeat (first | apply zu | apply zt | apply zs)); exact (zx (zr (p := ⟨aa,8,none⟩) (zr (p := ⟨aa,7,none⟩) (zr (p := ⟨aa,6,none⟩) (zr (p := ⟨aa,5,none⟩) (zr (p := ⟨aa,4,none⟩) (zr (p := ⟨aa,3,none⟩) (zr (p := ⟨aa,2,none⟩) (zr (p := ⟨aa,1,none⟩) (zr (p := ⟨aa,0,none⟩) (zy aD.out ac.out (by decide)) (fun _ hk => hk.2) (.int .i64 a0)) (fun _ hk => hk.2) (.int .i64 a1)) (fun _ hk => hk.2) (.int .i64 ah)) (fun _ hk => hk.2) (.int .i64 ai)) (fun _ hk => hk.2) (.slice aA am.length ay)) (fun _ hk => hk.2) (.slice aF ao.length aC)) (fun _ hk => hk.2) (.int .i64 (ak.size : Int))) (fun _ hk => hk.2) (.string (⟨#[]⟩ : ByteArray))) (fun _ hk => hk.2) (.bool true)) (fun _ h_ => h_.1)))); (case side2 => exact (zw aD.out).2.1); (case side3 => refine (zw (e := 3) (base := w.heap.size) (ok := fun k_ => some k_ ≠ (.slice aA am.length ay : Value).ownBlock) (n := ao.length) (c := aC) ?_).2.2; exact (by (with_reducible repeat (first | apply zu | apply zt | apply zs)); exact (zx (zr (p := ⟨aa,8,none⟩) (zr (p := ⟨aa,7,none⟩) (zr (p := ⟨aa,6,none⟩) (zr (p := ⟨aa,5,none⟩) (zr (p := ⟨aa,4,none⟩) (zr (p := ⟨aa,3,none⟩) (zr (p := ⟨aa,2,none⟩) (zr (p := ⟨aa,1,none⟩) (zr (p := ⟨aa,0,none⟩) (zy aE.out ac.out (by decide)) (fun _ hk => hk.2) (.int .i64 a0)) (fun _ hk => hk.2) (.int .i64 a1)) (fun _ hk => hk.2) (.int .i64 ah)) (fun _ hk => hk.2) (.int .i64 ai)) (fun _ hk => hk.2) (.slice aA am.length ay)) (fun _ hk => hk.2) (.slice aF ao.length aC)) (fun _ hk => hk.2) (.int .i64 (ak.size : Int))) (fun _ hk => hk.2) (.string (⟨#[]⟩ : ByteArray))) (fun _ hk => hk.2) (.bool true)) (fun _ h_ => h_.1)))); (case side4 => exact (zw aE.out).2.1); rintro e dK ⟨rfl,hb⟩; refine ⟨_,rfl,?_⟩; have aG := zzk (zv (by (with_reducible repeat (first | apply zu | apply zt | apply zs)); exact (zx (zr (p := ⟨aa,8,none⟩) (zr (p := ⟨aa,7,none⟩) (zr (p := ⟨aa,6,none⟩) (zr (p := ⟨aa,5,none⟩) (zr (p := ⟨aa,4,none⟩) (zr (p := ⟨aa,3,none⟩) (zr (p := ⟨aa,2,none⟩) (zr (p := ⟨aa,1,none⟩) (zr (p := ⟨aa,0,none⟩) (zy aD.out ac.out (by decide)) (fun _ hk => hk.2) (.int .i64 a0)) (fun _ hk => hk.2) (.int .i64 a1)) (fun _ hk => hk.2) (.int .i64 ah)) (fun _ hk => hk.2) (.int .i64 ai)) (fun _ hk => hk.2) (.slice aA am.length ay)) (fun _ hk => hk.2) (.slice aF ao.length aC)) (fun _ hk => hk.2) (.int .i64 (ak.size : Int))) (fun _ hk => hk.2) (.string (⟨#[]⟩ : ByteArray))) (fun _ hk => hk.2) (.bool true)) (fun _ h_ => h_.1))) hb); have aH := zzk (zv (by (with_reducible repeat (first | apply zu | apply zt | apply zs)); exact (zx (zr (p := ⟨aa,8,none⟩) (zr (p := ⟨aa,7,none⟩) (zr (p := ⟨aa,6,none⟩) (zr (p := ⟨aa,5,none⟩) (zr (p := ⟨aa,4,none⟩) (zr (p := ⟨aa,3,none⟩) (zr (p := ⟨aa,2,none⟩) (zr (p := ⟨aa,1,none⟩) (zr (p := ⟨aa,0,none⟩) (zy aE.out ac.out (by decide)) (fun _ hk => hk.2) (.int .i64 a0)) (fun _ hk => hk.2) (.int .i64 a1)) (fun _ hk => hk.2) (.int .i64 ah)) (fun _ hk => hk.2) (.int .i64 ai)) (fun _ hk => hk.2) (.slice aA am.length ay)) (fun _ hk => hk.2) (.slice aF ao.length aC)) (fun _ hk => hk.2) (.int .i64 (ak.size : Int))) (fun _ hk => hk.2) (.string (⟨#[]⟩ : ByteArray))) (fun _ hk => hk.2) (.bool true)) (fun _ h_ => h_.1))) hb); have aI := zzk (zo (g := aj) (o := .cells #[.int .i64 ah,.int .i64 ai,.slice au ap.length av,.slice aw aq.length ax,.string ak] 26 (0,0)) (by (with_reducible repeat (first | refine zj ?_ _ | refine zl ?_ | refine zk ?_ _)); refine zn ?_ ab.out _; (with_reducible repeat (first | refine zj ?_ _ | refine zl ?_ | refine zk ?_ _)); refine zn ?_ ab.out _; (with_reducible repeat (first | refine zj ?_ _ | refine zl ?_ | refine zk ?_ _)); refine zn ?_ ab.out _; (with_reducible repeat (first | refine zj ?_ _ | refine zl ?_ | refine zk ?_ _)); refine zn ?_ ab.out _; (with_reducible repeat (first | refine zj ?_ _ | refine zl ?_ | refine zk ?_ _)); refine zn ?_ ab.out _; (with_reducible repeat (first | refine zj ?_ _ | refine zl ?_ | refine zk ?_ _)); refine zn ?_ ab.out _; (with_reducible repeat (first | refine zj ?_ _ | refine zl ?_ | refine zk ?_ _)); refine zn ?_ ab.out _; (with_reducible repeat (first | refine zj ?_ _ | refine zl ?_ | refine zk ?_ _)); refine zn ?_ ab.out _; (with_reducible repeat (first | refine zj ?_ _ | refine zl ?_ | refine zk ?_ _)); refine zn ?_ ab.out _; (with_reducible repeat (first | refine zj ?_ _ | refine zl ?_ | refine zk ?_ _)); exact af.out) hb); have aJ := zzk (zo (g := ae) (o := .cells #[.int .i64 0,.int .i64 0,.int .i64 0,.int .i64 0,.slice none 0 0,.slice none 0 0,.int .i64 0,.string (⟨#[]⟩ : ByteArray),.bool false] 34 (0,0)) (by (with_reducible repeat (first | refine zj ?_ _ | refine zl ?_ | refine zk ?_ _)); refine zn ?_ ag.out _; (with_reducible repeat (first | refine zj ?_ _ | refine zl ?_ | refine zk ?_ _)); refine zn ?_ ag.out _; (with_reducible repeat (first | refine zj ?_ _ | refine zl ?_ | refine zk ?_ _)); refine zn ?_ ag.out _; (with_reducible repeat (first | refine zj ?_ _ | refine zl ?_ | refine zk ?_ _)); refine zn ?_ ag.out _; (with_reducible repeat (first | refine zj ?_ _ | refine zl ?_ | refine zk ?_ _)); refine zn ?_ ag.out _; (with_reducible repeat (first | refine zj ?_ _ | refine zl ?_ | refine zk ?_ _)); refine zn ?_ ag.out _; (with_reducible repeat (first | refine zj ?_ _ | refine zl ?_ | refine zk ?_ _)); refine zn ?_ ag.out _; (with_reducible repeat (first | refine zj ?_ _ | refine zl ?_ | refine zk ?_ _)); refine zn ?_ ag.out _; (with_reducible repeat (first | refine zj ?_ _ | refine zl ?_ | refine zk ?_ _)); refine zn ?_ ag.out _; (with_reducible repeat (first | refine zj ?_ _ | refine zl ?_ | refine zk ?_ _)); exact ad.out) hb); have aL := zzk (zo (g := aa) (o := .cells #[.int .i64 a0,.int .i64 a1,.int .i64 ah,.int .i64 ai,.slice aA am.length ay,.slice aF ao.length aC,.int .i64 (ak.size : Int),.string (⟨#[]⟩ : ByteArray),.bool true] 34 (0,0)) (by (with_reducible repeat (first | refine zj ?_ _ | refine zl ?_ | refine zk ?_ _)); refine zp (cs := #[.int .i64 a0,.int .i64 a1,.int .i64 ah,.int .i64 ai,.slice aA am.length ay,.slice aF ao.length aC,.int .i64 (ak.size : Int),.string (⟨#[]⟩ : ByteArray),.bool false]) ?_ 8 _ rfl; (with_reducible repeat (first | refine zj ?_ _ | refine zl ?_ | refine zk ?_ _)); refine zp (cs := #[.int .i64 a0,.int .i64 a1,.int .i64 ah,.int .i64 ai,.slice aA am.length ay,.slice aF ao.length aC,.int .i64 (ak.size : Int),.string (⟨#[]⟩ : ByteArray),.bool false]) ?_ 7 _ rfl; (with_reducible repeat (first | refine zj ?_ _ | refine zl ?_ | refine zk ?_ _)); refine zp (cs := #[.int .i64 a0,.int .i64 a1,.int .i64 ah,.int .i64 ai,.slice aA am.length ay,.slice aF ao.length aC,.int .i64 0,.string (⟨#[]⟩ : ByteArray),.bool false]) ?_ 6 _ rfl; (with_reducible repeat (first | refine zj ?_ _ | refine zl ?_ | refine zk ?_ _)); refine zp (cs := #[.int .i64 a0,.int .i64 a1,.int .i64 ah,.int .i64 ai,.slice aA am.length ay,.slice none 0 0,.int .i64 0,.string (⟨#[]⟩ : ByteArray),.bool false]) ?_ 5 _ rfl; (with_reducible repeat (first | refine zj ?_ _ | refine zl ?_ | refine zk ?_ _)); refine zp (cs := #[.int .i64 a0,.int .i64 a1,.int .i64 ah,.int .i64 ai,.slice none 0 0,.slice none 0 0,.int .i64 0,.string (⟨#[]⟩ : ByteArray),.bool false]) ?_ 4 _ rfl; (with_reducible repeat (first | refine zj ?_ _ | refine zl ?_ | refine zk ?_ _)); refine zp (cs := #[.int .i64 a0,.int .i64 a1,.int .i64 ah,.int .i64 0,.slice none 0 0,.slice none 0 0,.int .i64 0,.string (⟨#[]⟩ : ByteArray),.bool false]) ?_ 3 _ rfl; (with_reducible repeat (first | refine zj ?_ _ | refine zl ?_ | refine zk ?_ _)); refine zp (cs := #[.int .i64 a0,.int .i64 a1,.int .i64 0,.int .i64 0,.slice none 0 0,.slice none 0 0,.int .i64 0,.string (⟨#[]⟩ : ByteArray),.bool false]) ?_ 2 _ rfl; (with_reducible repeat (first | refine zj ?_ _ | refine zl ?_ | refine zk ?_ _)); refine zp (cs := #[.int .i64 a0,.int .i64 0,.int .i64 0,.int .i64 0,.slice none 0 0,.slice none 0 0,.int .i64 0,.string (⟨#[]⟩ : ByteArray),.bool false]) ?_ 1 _ rfl; (with_reducible repeat (first | refine zj ?_ _ | refine zl ?_ | refine zk ?_ _)); refine zp (cs := #[.int .i64 0,.int .i64 0,.int .i64 0,.int .i64 0,.slice none 0 0,.slice none 0 0,.int .i64 0,.string (⟨#[]⟩ : ByteArray),.bool false]) ?_ 0 _ rfl; (with_reducible repeat (first | refine zj ?_ _ | refine zl ?_ | refine zk ?_ _)); exact ac.out) hb); have aM := zzk (Zs (by repeat (first | (with_reducible first | exact HB.out | apply Zq | apply Zp | apply Zo | refine Zn ?_ ar.out | refine Zn ?_ az.out | refine Zn ?_ aK.out) | exact HB.out)) hb); clear aD; clear aE; clear af; clear ad; clear ac; clear HB; have aD := aG; have aE := aH; have af := aI; have ad := aJ; have ac := aL; have HB := aM; clear aG aH aI aJ aL aM; (try clear hb); (try clear hb2); (try clear hk); (try clear hi)))
  go_meet
  case rel => exact ⟨_,((aO != 0)),(by first | rfl | (simp; done) | (simp [*]; done)),H',⟨by first | omega | exact Nat.le_refl _⟩,⟨by (with_reducible repeat (first | apply zu | apply zt | apply zs)); exact aD.out⟩,⟨by (with_reducible repeat (first | apply zu | apply zt | apply zs)); exact aE.out⟩,⟨by (with_reducible repeat (first | refine zj ?_ _ | refine zl ?_ | refine zk ?_ _)); exact af.out⟩,⟨by (with_reducible repeat (first | refine zj ?_ _ | refine zl ?_ | refine zk ?_ _)); exact ad.out⟩,⟨by (with_reducible repeat (first | refine zj ?_ _ | refine zl ?_ | refine zk ?_ _)); exact ac.out⟩,⟨by repeat (first | (with_reducible first | exact HB.out | apply Zq | apply Zp | apply Zo | refine Zn ?_ ar.out | refine Zn ?_ az.out | refine Zn ?_ aK.out) | exact HB.out)⟩⟩
 case rest =>
  clear bR
  try clear c1
  try clear c2
  try clear p2
  try clear c3
  try clear dL
  try clear dM
  try clear dN
  try clear dO
  try clear bw
  try clear bx
  try clear bz
  try clear bA
  try clear bB
  try clear bC
  try clear bD
  try clear bE
  try clear bF
  try clear bG
  try clear bH
  try clear bI
  try clear bJ
  try clear bK
  try clear bL
  try clear bM
  try clear bN
  try clear bO
  obtain ⟨kq,aW,rfl,HA,HJ4,HO_197004,HO_197005,af,ad,ac,HB⟩ := hcut
  cases kq with
  | zero => exact absurd HA.out (by simp [chunk_Begin.j0])
  | succ dP =>
   have H := HA.out
   clear HA
   simp only [chunk_Begin.j0] at H
   by_cases bl : aW = true
   ·
    subst bl
    have H1 : (some (0,0,0,0,([] : List Int),([] : List Int),0,(⟨#[]⟩ : ByteArray),false,150)) = some (r1,r2,r3,r4,r5,r6,r7,r8,r9,r10) := by rw [if_pos rfl] at H; exact H
    clear H
    have H := H1
    clear H1
    simp only [zzg,zzh] at H
    obtain ⟨rfl,rfl,rfl,rfl,rfl,rfl,rfl,rfl,rfl,rfl⟩ := H
    have dy := aR.out
    have dz := aQ.out
    have dA := ag.out
    have dB := al.out
    have ck : wc.cell? ⟨ae,0,none⟩ = some (.int .i64 0) := (zi ad.out 0).trans rfl
    have cl : wc.cell? ⟨ae,1,none⟩ = some (.int .i64 0) := (zi ad.out 1).trans rfl
    have cm : wc.cell? ⟨ae,2,none⟩ = some (.int .i64 0) := (zi ad.out 2).trans rfl
    have cn : wc.cell? ⟨ae,3,none⟩ = some (.int .i64 0) := (zi ad.out 3).trans rfl
    have co : wc.cell? ⟨ae,4,none⟩ = some (.slice none 0 0) := (zi ad.out 4).trans rfl
    have cp : wc.cell? ⟨ae,5,none⟩ = some (.slice none 0 0) := (zi ad.out 5).trans rfl
    have cq : wc.cell? ⟨ae,6,none⟩ = some (.int .i64 0) := (zi ad.out 6).trans rfl
    have cr : wc.cell? ⟨ae,7,none⟩ = some (.string (⟨#[]⟩ : ByteArray)) := (zi ad.out 7).trans rfl
    have ct : wc.cell? ⟨ae,8,none⟩ = some (.bool false) := (zi ad.out 8).trans rfl
    have cu := zm ad.out 0
    have cv := zm ad.out 1
    have cw := zm ad.out 2
    have cx := zm ad.out 3
    have cy := zm ad.out 4
    have cz := zm ad.out 5
    have cA := zm ad.out 6
    have cB := zm ad.out 7
    have cC := zm ad.out 8
    go_wp2
    refine zzf (results_ct rfl _ _ ae 34 #[.int .i64 0,.int .i64 0,.int .i64 0,.int .i64 0,.slice none 0 0,.slice none 0 0,.int .i64 0,.string (⟨#[]⟩ : ByteArray),.bool false] (0,0) _ rfl (by (with_reducible repeat (first | refine zj ?_ _ | refine zl ?_ | refine zk ?_ _)); refine zp (cs := #[.int .i64 0,.int .i64 0,.int .i64 0,.int .i64 0,.slice none 0 0,.slice none 0 0,.int .i64 0,.string (⟨#[]⟩ : ByteArray),.bool false]) ?_ 8 _ rfl; (with_reducible repeat (first | refine zj ?_ _ | refine zl ?_ | refine zk ?_ _)); refine zp (cs := #[.int .i64 0,.int .i64 0,.int .i64 0,.int .i64 0,.slice none 0 0,.slice none 0 0,.int .i64 0,.string (⟨#[]⟩ : ByteArray),.bool false]) ?_ 7 _ rfl; (with_reducible repeat (first | refine zj ?_ _ | refine zl ?_ | refine zk ?_ _)); refine zp (cs := #[.int .i64 0,.int .i64 0,.int .i64 0,.int .i64 0,.slice none 0 0,.slice none 0 0,.int .i64 0,.string (⟨#[]⟩ : ByteArray),.bool false]) ?_ 6 _ rfl; (with_reducible repeat (first | refine zj ?_ _ | refine zl ?_ | refine zk ?_ _)); refine zp (cs := #[.int .i64 0,.int .i64 0,.int .i64 0,.int .i64 0,.slice none 0 0,.slice none 0 0,.int .i64 0,.string (⟨#[]⟩ : ByteArray),.bool false]) ?_ 5 _ rfl; (with_reducible repeat (first | refine zj ?_ _ | refine zl ?_ | refine zk ?_ _)); refine zp (cs := #[.int .i64 0,.int .i64 0,.int .i64 0,.int .i64 0,.slice none 0 0,.slice none 0 0,.int .i64 0,.string (⟨#[]⟩ : ByteArray),.bool false]) ?_ 4 _ rfl; (with_reducible repeat (first | refine zj ?_ _ | refine zl ?_ | refine zk ?_ _)); refine zp (cs := #[.int .i64 0,.int .i64 0,.int .i64 0,.int .i64 0,.slice none 0 0,.slice none 0 0,.int .i64 0,.string (⟨#[]⟩ : ByteArray),.bool false]) ?_ 3 _ rfl; (with_reducible repeat (first | refine zj ?_ _ | refine zl ?_ | refine zk ?_ _)); refine zp (cs := #[.int .i64 0,.int .i64 0,.int .i64 0,.int .i64 0,.slice none 0 0,.slice none 0 0,.int .i64 0,.string (⟨#[]⟩ : ByteArray),.bool false]) ?_ 2 _ rfl; (with_reducible repeat (first | refine zj ?_ _ | refine zl ?_ | refine zk ?_ _)); refine zp (cs := #[.int .i64 0,.int .i64 0,.int .i64 0,.int .i64 0,.slice none 0 0,.slice none 0 0,.int .i64 0,.string (⟨#[]⟩ : ByteArray),.bool false]) ?_ 1 _ rfl; (with_reducible repeat (first | refine zj ?_ _ | refine zl ?_ | refine zk ?_ _)); refine zp (cs := #[.int .i64 0,.int .i64 0,.int .i64 0,.int .i64 0,.slice none 0 0,.slice none 0 0,.int .i64 0,.string (⟨#[]⟩ : ByteArray),.bool false]) ?_ 0 _ rfl; (with_reducible repeat (first | refine zj ?_ _ | refine zl ?_ | refine zk ?_ _)); exact ad.out) Try.underlying34 rfl (by kernel_rfl)) rfl ?_
    exact ⟨_,_,by first | rfl | (simp [zzl,zzm] <;> rfl) | (simp [*,zzl,zzm] <;> rfl),by first | exact Ze _ _ _ _ _ | exact Zf _ _ _ _ _ | exact Zg _ _ _ _ _ | exact Zh _ _ _ _ _ | exact Zi _ _ _ _ _,by first | exact Ze _ _ _ _ _ | exact Zf _ _ _ _ _ | exact Zg _ _ _ _ _ | exact Zh _ _ _ _ _ | exact Zi _ _ _ _ _,by repeat (first | (with_reducible first | exact HB.out | apply Zq | apply Zp | apply Zo | refine Zn ?_ ar.out | refine Zn ?_ az.out | refine Zn ?_ aK.out) | exact HB.out)⟩
   ·
    replace bl := Bool.eq_false_iff.mpr bl
    subst bl
    have H1 : (some (a0,a1,ah,ai,am,ao,(ak.size : Int),(⟨#[]⟩ : ByteArray),true,0)) = some (r1,r2,r3,r4,r5,r6,r7,r8,r9,r10) := by rw [if_neg (show ¬ (false = true) by decide)] at H; exact H
    clear H
    have H := H1
    clear H1
    simp only [zzg,zzh] at H
    obtain ⟨rfl,rfl,rfl,rfl,rfl,rfl,rfl,rfl,rfl,rfl⟩ := H
    have dC := an.out
    have dD := ab.out
    have dE := al.out
    have dF := ag.out
    have cD : wc.cell? ⟨aa,0,none⟩ = some (.int .i64 a0) := (zi ac.out 0).trans rfl
    have cE : wc.cell? ⟨aa,1,none⟩ = some (.int .i64 a1) := (zi ac.out 1).trans rfl
    have cF : wc.cell? ⟨aa,2,none⟩ = some (.int .i64 ah) := (zi ac.out 2).trans rfl
    have cG : wc.cell? ⟨aa,3,none⟩ = some (.int .i64 ai) := (zi ac.out 3).trans rfl
    have cH : wc.cell? ⟨aa,4,none⟩ = some (.slice aA am.length ay) := (zi ac.out 4).trans rfl
    have cI : wc.cell? ⟨aa,5,none⟩ = some (.slice aF ao.length aC) := (zi ac.out 5).trans rfl
    have cJ : wc.cell? ⟨aa,6,none⟩ = some (.int .i64 (ak.size : Int)) := (zi ac.out 6).trans rfl
    have cK : wc.cell? ⟨aa,7,none⟩ = some (.string (⟨#[]⟩ : ByteArray)) := (zi ac.out 7).trans rfl
    have cL : wc.cell? ⟨aa,8,none⟩ = some (.bool true) := (zi ac.out 8).trans rfl
    have cM := zm ac.out 0
    have cN := zm ac.out 1
    have cO := zm ac.out 2
    have cP := zm ac.out 3
    have cQ := zm ac.out 4
    have cR := zm ac.out 5
    have cS := zm ac.out 6
    have cT := zm ac.out 7
    have cU := zm ac.out 8
    have dG := aR.out
    have dH := aQ.out
    have cV : wc.cell? ⟨ae,0,none⟩ = some (.int .i64 0) := (zi ad.out 0).trans rfl
    have cW : wc.cell? ⟨ae,1,none⟩ = some (.int .i64 0) := (zi ad.out 1).trans rfl
    have cX : wc.cell? ⟨ae,2,none⟩ = some (.int .i64 0) := (zi ad.out 2).trans rfl
    have cY : wc.cell? ⟨ae,3,none⟩ = some (.int .i64 0) := (zi ad.out 3).trans rfl
    have cZ : wc.cell? ⟨ae,4,none⟩ = some (.slice none 0 0) := (zi ad.out 4).trans rfl
    have da : wc.cell? ⟨ae,5,none⟩ = some (.slice none 0 0) := (zi ad.out 5).trans rfl
    have db : wc.cell? ⟨ae,6,none⟩ = some (.int .i64 0) := (zi ad.out 6).trans rfl
    have dc : wc.cell? ⟨ae,7,none⟩ = some (.string (⟨#[]⟩ : ByteArray)) := (zi ad.out 7).trans rfl
    have dd : wc.cell? ⟨ae,8,none⟩ = some (.bool false) := (zi ad.out 8).trans rfl
    have de := zm ad.out 0
    have df := zm ad.out 1
    have dg := zm ad.out 2
    have dh := zm ad.out 3
    have di := zm ad.out 4
    have dj := zm ad.out 5
    have dk := zm ad.out 6
    have dl := zm ad.out 7
    have dm := zm ad.out 8
    go_wp2
    refine zzf (results_ct rfl _ _ ae 34 #[.int .i64 a0,.int .i64 a1,.int .i64 ah,.int .i64 ai,.slice aA am.length ay,.slice aF ao.length aC,.int .i64 (ak.size : Int),.string (⟨#[]⟩ : ByteArray),.bool true] (0,0) _ rfl (by (with_reducible repeat (first | refine zj ?_ _ | refine zl ?_ | refine zk ?_ _)); refine zp (cs := #[.int .i64 a0,.int .i64 a1,.int .i64 ah,.int .i64 ai,.slice aA am.length ay,.slice aF ao.length aC,.int .i64 (ak.size : Int),.string (⟨#[]⟩ : ByteArray),.bool false]) ?_ 8 _ rfl; (with_reducible repeat (first | refine zj ?_ _ | refine zl ?_ | refine zk ?_ _)); refine zp (cs := #[.int .i64 a0,.int .i64 a1,.int .i64 ah,.int .i64 ai,.slice aA am.length ay,.slice aF ao.length aC,.int .i64 (ak.size : Int),.string (⟨#[]⟩ : ByteArray),.bool false]) ?_ 7 _ rfl; (with_reducible repeat (first | refine zj ?_ _ | refine zl ?_ | refine zk ?_ _)); refine zp (cs := #[.int .i64 a0,.int .i64 a1,.int .i64 ah,.int .i64 ai,.slice aA am.length ay,.slice aF ao.length aC,.int .i64 0,.string (⟨#[]⟩ : ByteArray),.bool false]) ?_ 6 _ rfl; (with_reducible repeat (first | refine zj ?_ _ | refine zl ?_ | refine zk ?_ _)); refine zp (cs := #[.int .i64 a0,.int .i64 a1,.int .i64 ah,.int .i64 ai,.slice aA am.length ay,.slice none 0 0,.int .i64 0,.string (⟨#[]⟩ : ByteArray),.bool false]) ?_ 5 _ rfl; (with_reducible repeat (first | refine zj ?_ _ | refine zl ?_ | refine zk ?_ _)); refine zp (cs := #[.int .i64 a0,.int .i64 a1,.int .i64 ah,.int .i64 ai,.slice none 0 0,.slice none 0 0,.int .i64 0,.string (⟨#[]⟩ : ByteArray),.bool false]) ?_ 4 _ rfl; (with_reducible repeat (first | refine zj ?_ _ | refine zl ?_ | refine zk ?_ _)); refine zp (cs := #[.int .i64 a0,.int .i64 a1,.int .i64 ah,.int .i64 0,.slice none 0 0,.slice none 0 0,.int .i64 0,.string (⟨#[]⟩ : ByteArray),.bool false]) ?_ 3 _ rfl; (with_reducible repeat (first | refine zj ?_ _ | refine zl ?_ | refine zk ?_ _)); refine zp (cs := #[.int .i64 a0,.int .i64 a1,.int .i64 0,.int .i64 0,.slice none 0 0,.slice none 0 0,.int .i64 0,.string (⟨#[]⟩ : ByteArray),.bool false]) ?_ 2 _ rfl; (with_reducible repeat (first | refine zj ?_ _ | refine zl ?_ | refine zk ?_ _)); refine zp (cs := #[.int .i64 a0,.int .i64 0,.int .i64 0,.int .i64 0,.slice none 0 0,.slice none 0 0,.int .i64 0,.string (⟨#[]⟩ : ByteArray),.bool false]) ?_ 1 _ rfl; (with_reducible repeat (first | refine zj ?_ _ | refine zl ?_ | refine zk ?_ _)); refine zp (cs := #[.int .i64 0,.int .i64 0,.int .i64 0,.int .i64 0,.slice none 0 0,.slice none 0 0,.int .i64 0,.string (⟨#[]⟩ : ByteArray),.bool false]) ?_ 0 _ rfl; (with_reducible repeat (first | refine zj ?_ _ | refine zl ?_ | refine zk ?_ _)); exact ad.out) Try.underlying34 rfl (by kernel_rfl)) rfl ?_
    exact ⟨_,_,by first | rfl | (simp [zzl,zzm] <;> rfl) | (simp [*,zzl,zzm] <;> rfl),by (with_reducible repeat (first | apply zu | apply zt | apply zs)); exact zx (zr (p := ⟨ae,8,none⟩) (zr (p := ⟨ae,7,none⟩) (zr (p := ⟨ae,6,none⟩) (zr (p := ⟨ae,5,none⟩) (zr (p := ⟨ae,4,none⟩) (zr (p := ⟨ae,3,none⟩) (zr (p := ⟨ae,2,none⟩) (zr (p := ⟨ae,1,none⟩) (zr (p := ⟨ae,0,none⟩) (zy HO_197004.out ad.out (by decide)) (fun _ hk => hk.2) (.int .i64 a0)) (fun _ hk => hk.2) (.int .i64 a1)) (fun _ hk => hk.2) (.int .i64 ah)) (fun _ hk => hk.2) (.int .i64 ai)) (fun _ hk => hk.2) (.slice aA am.length ay)) (fun _ hk => hk.2) (.slice aF ao.length aC)) (fun _ hk => hk.2) (.int .i64 (ak.size : Int))) (fun _ hk => hk.2) (.string (⟨#[]⟩ : ByteArray))) (fun _ hk => hk.2) (.bool true)) (fun _ hk => hk.1),by (with_reducible repeat (first | apply zu | apply zt | apply zs)); exact zx (zr (p := ⟨ae,8,none⟩) (zr (p := ⟨ae,7,none⟩) (zr (p := ⟨ae,6,none⟩) (zr (p := ⟨ae,5,none⟩) (zr (p := ⟨ae,4,none⟩) (zr (p := ⟨ae,3,none⟩) (zr (p := ⟨ae,2,none⟩) (zr (p := ⟨ae,1,none⟩) (zr (p := ⟨ae,0,none⟩) (zy HO_197005.out ad.out (by decide)) (fun _ hk => hk.2) (.int .i64 a0)) (fun _ hk => hk.2) (.int .i64 a1)) (fun _ hk => hk.2) (.int .i64 ah)) (fun _ hk => hk.2) (.int .i64 ai)) (fun _ hk => hk.2) (.slice aA am.length ay)) (fun _ hk => hk.2) (.slice aF ao.length aC)) (fun _ hk => hk.2) (.int .i64 (ak.size : Int))) (fun _ hk => hk.2) (.string (⟨#[]⟩ : ByteArray))) (fun _ hk => hk.2) (.bool true)) (fun _ hk => hk.1),by repeat (first | (with_reducible first | exact HB.out | apply Zq | apply Zp | apply Zo | refine Zn ?_ ar.out | refine Zn ?_ az.out | refine Zn ?_ aK.out) | exact HB.out)⟩
end Go.Proofs.Ytpagkmdlmhdenaa.PAll
