-- Written by a program of the session.
import Derived.Test.YtpagkmdlmhdenaaAlAll
import Derived.Test.YtpagkmdlmhdenaaPAllx0
import Derived.Test.YtpagkmdlmhdenaaGivenA
namespace Go.Proofs.Ytpagkmdlmhdenaa.PAll
open Go.RowKit Go.Proofs.YtpagkmdlmhdenaaW.PrintWords Go.Proofs.YtpagkmdlmhdenaaW.PrintLast Go.Proofs.YtpagkmdlmhdenaaW.PrintMore
attribute [local go_sem] max2_int min2_int max_two min_two max_three min_three max_four min_four   -- for this text's walks alone
set_option linter.unusedVariables false
set_option linter.unusedSimpArgs false
/-! ### chunk_own: function 31 -/
def chunk_own.f (ae : List Int) (ad : List Int) : Option (List Int × List Int) := (slices_Clone_int_int.f ae).bind fun ah => ((slices_Clone_int_int.f ad).bind fun ai => (some (ah,ai)))
def chunk_own.T1 : Bool × List (List Nat × List Nat) := (true,[([],[]),([0],[0]),([1],[1]),([],[]),([3],[3]),([4,2],[4]),([2,5],[2,5]),([6,5,0,1,2,3,4,5,6],[6])])
def chunk_own.B1 : List Nat := [0,1,3,0,8,31,63,127]
theorem chunk_own.tab1 : rtab .any (opsOf Try.f31 1) = chunk_own.T1 := by kernel_rfl
theorem chunk_own.bits1 : waitsOk chunk_own.T1.2 chunk_own.B1 = true := by kernel_rfl
set_option maxHeartbeats 8000000 in
set_option maxRecDepth 100000 in
theorem chunk_own.calls (an : Option Addr) (ao : Nat) (ae : List Int) (ap : Option Addr) (aq : Nat) (ad : List Int) (r1 : List Int) (r2 : List Int) (w : World) (aA : Kd.C (Kd.int .i64) w an ae.length ae) (aB : ae.length ≤ ao) (aC : Kd.C (Kd.int .i64) w ap ad.length ad) (aD : ad.length ≤ aq) (h : chunk_own.f ae ad = some (r1,r2)) :
 Calls Try.prog 31 #[.agg #[.slice an ae.length ao,.slice ap ad.length aq]] w fun e w' => ∃ aF aG : Value,e = .returned (.agg #[aF,aG]) ∧ Kd.R (Kd.int .i64) 3 w' w.heap.size (fun k_ => some k_ ≠ (aG : Value).ownBlock) aF r1 ∧ Kd.R (Kd.int .i64) 3 w' w.heap.size (fun k_ => some k_ ≠ (aF : Value).ownBlock) aG r2 ∧ Below w.heap.size w w' := by
 have hu24 := Try.underlying24
 have aJ := zzk aA
 have aK := zzk aB
 clear aA aB
 have aL := zzk aC
 have aM := zzk aD
 clear aC aD
 have HB := zzk (Below.refl w.heap.size w)
 have H : ((slices_Clone_int_int.f ae).bind fun ah => ((slices_Clone_int_int.f ad).bind fun ai => (some (ah,ai)))) = some (r1,r2) := h
 clear h
 replace H := Option.bind_eq_some_iff.mp H
 obtain ⟨ah,aN,H⟩ := H
 replace H : ((slices_Clone_int_int.f ad).bind fun ai => (some (ah,ai))) = some (r1,r2) := H
 have A2 := zzk aN
 clear aN
 replace H := Option.bind_eq_some_iff.mp H
 obtain ⟨ai,aO,H⟩ := H
 replace H : (some (ah,ai)) = some (r1,r2) := H
 have A3 := zzk aO
 clear aO
 simp only [zzg,zzh] at H
 obtain ⟨rfl,rfl⟩ := H
 go_enter Try.func31,Try.ntmps31
 try go_wp2_with (first | ((with_reducible refine Zy (N := 1) rfl ?_); refine zzc ?hg (N := 1) ?hd (cs := #[.slice an ae.length ao,.slice ap ad.length aq]) (t := 24) ?hr ?_; (case hd => rfl); (case hg => rfl); (case hr => first | (go_simp; done) | (go_simp; rfl)); intro ag hg w4 hbox hb; have aj := zzk (Zs (by repeat (first | (with_reducible first | exact HB.out | apply Zq | apply Zp | apply Zo) | exact HB.out)) hb); have ak := zzk (hbox); have al := zzk ((by rw [hg]; exact (Zr (by repeat (first | (with_reducible first | exact HB.out | apply Zq | apply Zp | apply Zo) | exact HB.out))) : w.heap.size ≤ ag)); have ar := zzk ((by rw [hg]; exact (Zr (by repeat (first | (with_reducible first | exact HB.out | apply Zq | apply Zp | apply Zo) | exact HB.out))) : w.heap.size ≤ ag)); clear HB; have HB := aj; have aa := ak; have aR := al; have am := ar; clear aj ak al ar; clear hb hbox hg) | ((with_reducible refine Zy (N := 2) rfl ?_); refine zzc ?hg (N := 2) ?hd (cs := #[.slice none 0 0,.slice none 0 0]) (t := 24) ?hr ?_; (case hd => rfl); (case hg => rfl); (case hr => first | (go_simp; done) | (go_simp; rfl)); intro ab hg w5 hbox hb; have aj := zzk (zo (g := ag) (o := .cells #[.slice an ae.length ao,.slice ap ad.length aq] 24 (0,0)) (by (with_reducible repeat (first | refine zj ?_ _ | refine zl ?_ | refine zk ?_ _)); exact aa.out) hb); have ak := zzk (Zs (by repeat (first | (with_reducible first | exact HB.out | apply Zq | apply Zp | apply Zo | refine Zn ?_ am.out) | exact HB.out)) hb); have al := zzk (hbox); have ar := zzk ((by rw [hg]; exact (Zr (by repeat (first | (with_reducible first | exact HB.out | apply Zq | apply Zp | apply Zo | refine Zn ?_ am.out) | exact HB.out))) : w.heap.size ≤ ab)); have az := zzk ((by rw [hg]; exact (Zr (by repeat (first | (with_reducible first | exact HB.out | apply Zq | apply Zp | apply Zo | refine Zn ?_ am.out) | exact HB.out))) : w.heap.size ≤ ab)); have aP := zzk ((by rw [hg]; exact Nat.ne_of_lt (zq (g := ag) (o := .cells #[.slice an ae.length ao,.slice ap ad.length aq] 24 (0,0)) (by (with_reducible repeat (first | refine zj ?_ _ | refine zl ?_ | refine zk ?_ _)); exact aa.out)) : ag ≠ ab)); have aQ := zzk ((by rw [hg]; exact Nat.ne_of_gt (zq (g := ag) (o := .cells #[.slice an ae.length ao,.slice ap ad.length aq] 24 (0,0)) (by (with_reducible repeat (first | refine zj ?_ _ | refine zl ?_ | refine zk ?_ _)); exact aa.out)) : ab ≠ ag)); clear aa; clear HB; have aa := aj; have HB := ak; have ac := al; have aS := ar; have av := az; have af := aP; have aw := aQ; clear aj ak al ar az aP aQ; clear hb hbox hg))
 have aj := zzk (zl aa.out)
 have ak := zzk (zl ac.out)
 have al := zzk (Zo HB.out)
 clear aa
 clear ac
 clear HB
 have aa := aj
 have ac := ak
 have HB := al
 clear aj ak al
 refine start_ (n := 8) (S := fun w' => w'.cell? ⟨ag,0,none⟩ = some (.slice an ae.length ao) ∧ w'.cell? ⟨ag,1,none⟩ = some (.slice ap ad.length aq)) (ds := []) #[false,false,false,false,false,false,false,false] (by kernel_rfl) rfl rfl ⟨(zi aa.out 0).trans rfl,(zi aa.out 1).trans rfl⟩ (fun hHeld => ?_); refine with_tabW chunk_own.tab1 chunk_own.bits1 (fun HT_ HW_ => ?_)
 generalize w5.drew = w6 at aa ac HB hHeld ⊢
 refine pure_ (i := 0) (N := some 3) (v := ?_) (a' := ?_) #[true,false,false,false,false,false,false,false] rfl rfl (Zu HT_.out (by kernel_rfl)) (fun _ _ _ h => h) (Or.inl ⟨by rfl,?_⟩) ?_ ?_
 rotate_left
 ·
  intro w'
  go_simp
  with_reducible rfl
 rotate_left
 ·
  simp only [Act.put,za,zb,zc,Zv,Zw]
  rfl
 refine pure_ (i := 3) (N := some 6) (v := ?_) (a' := ?_) #[true,false,false,true,false,false,false,false] rfl rfl (Zu HT_.out (by kernel_rfl)) (fun _ _ _ h => h) (Or.inl ⟨by rfl,?_⟩) ?_ ?_
 rotate_left
 ·
  intro w'
  go_simp
  with_reducible rfl
 rotate_left
 ·
  simp only [Act.put,za,zb,zc,Zv,Zw]
  rfl
 refine take_ (i := 1) (N := some 4) (v := ?_) (a' := ?_) #[true,true,false,true,false,false,false,false] rfl rfl (take_ofW HT_.out HW_.out (by kernel_rfl)) (fun _ _ _ h => h) (Or.inl ⟨by rfl,?_⟩) hHeld ?_ ?_
 rotate_left
 ·
  rintro w' ⟨s0,s1⟩
  go_simp
  with_reducible rfl
 rotate_left
 ·
  simp only [Act.put,za,zb,zc,Zv,Zw]
  rfl
 refine take_ (i := 4) (N := some 7) (v := ?_) (a' := ?_) #[true,true,false,true,true,false,false,false] rfl rfl (take_ofW HT_.out HW_.out (by kernel_rfl)) (fun _ _ _ h => h) (Or.inl ⟨by rfl,?_⟩) hHeld ?_ ?_
 rotate_left
 ·
  rintro w' ⟨s0,s1⟩
  go_simp
  with_reducible rfl
 rotate_left
 ·
  simp only [Act.put,za,zb,zc,Zv,Zw]
  rfl
 refine one_ (i := 2) (N := some 5) #[true,true,true,true,true,false,false,false] rfl rfl (one_of HT_.out (by kernel_rfl)) (by decide) (fun K hK => ?_)
 refine goes_ Try.func39 (by kernel_rfl) rfl #[.slice an ae.length ao] (by rfl) rfl rfl (by (try simp only [zd,ze,zf]); first | done | rfl | (simp only [zg,zh]; rfl)) ?_
 with_reducible refine (slices_Clone_int_int.calls _ _ ae ah _ ?side1 ?side2 A2.out).mono ?_
 (case side1 => repeat (first | exact (Zm aJ.out HB.out) | (with_reducible refine Zk ?_ _) | (with_reducible refine Zj ?_ _) | (with_reducible refine Zl ?_)))
 (case side2 => exact aK.out)
 rintro e w7 ⟨aT,rfl,ho0,hb⟩
 refine ⟨_,rfl,?_⟩
 have aj := zzk (Za ho0 (Zr (by repeat (first | (with_reducible first | exact HB.out | apply Zq | apply Zp | apply Zo | refine Zn ?_ am.out | refine Zn ?_ av.out) | exact HB.out))))
 have ak := zzk (zo (g := ag) (o := .cells #[.slice an ae.length ao,.slice ap ad.length aq] 24 (0,0)) (by (with_reducible repeat (first | refine zj ?_ _ | refine zl ?_ | refine zk ?_ _)); exact aa.out) hb)
 have al := zzk (zo (g := ab) (o := .cells #[.slice none 0 0,.slice none 0 0] 24 (0,0)) (by (with_reducible repeat (first | refine zj ?_ _ | refine zl ?_ | refine zk ?_ _)); exact ac.out) hb)
 have ar := zzk (Zs (by repeat (first | (with_reducible first | exact HB.out | apply Zq | apply Zp | apply Zo | refine Zn ?_ am.out | refine Zn ?_ av.out) | exact HB.out)) hb)
 clear aa
 clear ac
 clear HB
 have au := aj
 have aa := ak
 have ac := al
 have HB := ar
 clear aj ak al ar
 (try clear hb)
 (try clear hb2)
 (try clear hk)
 (try clear hi)
 (try clear ho0)
 refine hK.out _ _ ⟨(zi aa.out 0).trans rfl,(zi aa.out 1).trans rfl⟩ (fun hHeld => ?_)
 clear hK K
 refine norm_ (a' := ?_) ?_ ?_
 rotate_left
 ·
  show Act.put _ (some 5) _ = _
  simp only [Act.put,za,zb,zc,Zv,Zw]
  rfl
 refine one_ (i := 5) (N := some 8) #[true,true,true,true,true,true,false,false] rfl rfl (one_of HT_.out (by kernel_rfl)) (by decide) (fun K hK => ?_)
 refine goes_ Try.func39 (by kernel_rfl) rfl #[.slice ap ad.length aq] (by rfl) rfl rfl (by (try simp only [zd,ze,zf]); first | done | rfl | (simp only [zg,zh]; rfl)) ?_
 with_reducible refine (slices_Clone_int_int.calls _ _ ad ai _ ?side1 ?side2 A3.out).mono ?_
 (case side1 => repeat (first | exact (Zm aL.out HB.out) | (with_reducible refine Zk ?_ _) | (with_reducible refine Zj ?_ _) | (with_reducible refine Zl ?_)))
 (case side2 => exact aM.out)
 rintro e w8 ⟨aU,rfl,ho0,hb⟩
 refine ⟨_,rfl,?_⟩
 have aj := zzk (Kd.R_elder' (by (with_reducible repeat (first | apply zu | apply zt | apply zs)); exact au.out) (Zd ho0) hb)
 have ak := zzk (Za (Zb ho0 (Kd.R_lt (by (with_reducible repeat (first | apply zu | apply zt | apply zs)); exact au.out))) (Zr (by repeat (first | (with_reducible first | exact HB.out | apply Zq | apply Zp | apply Zo | refine Zn ?_ am.out | refine Zn ?_ av.out) | exact HB.out))))
 have al := zzk (zo (g := ag) (o := .cells #[.slice an ae.length ao,.slice ap ad.length aq] 24 (0,0)) (by (with_reducible repeat (first | refine zj ?_ _ | refine zl ?_ | refine zk ?_ _)); exact aa.out) hb)
 have ar := zzk (zo (g := ab) (o := .cells #[.slice none 0 0,.slice none 0 0] 24 (0,0)) (by (with_reducible repeat (first | refine zj ?_ _ | refine zl ?_ | refine zk ?_ _)); exact ac.out) hb)
 have az := zzk (Zs (by repeat (first | (with_reducible first | exact HB.out | apply Zq | apply Zp | apply Zo | refine Zn ?_ am.out | refine Zn ?_ av.out) | exact HB.out)) hb)
 clear au
 clear aa
 clear ac
 clear HB
 have au := aj
 have aE := ak
 have aa := al
 have ac := ar
 have HB := az
 clear aj ak al ar az
 (try clear hb)
 (try clear hb2)
 (try clear hk)
 (try clear hi)
 (try clear ho0)
 obtain ⟨aH,aI,eo9⟩ := zz aE.out
 (first | subst eo9 | (injection eo9 with f1_ f2_ f3_; have f4_ := f1_.symm; have f5_ := f3_.symm; clear f1_ f2_ f3_; subst f4_; subst f5_))
 obtain ⟨ax,ay,eo10⟩ := zz au.out
 (first | subst eo10 | (injection eo10 with f1_ f2_ f3_; have f4_ := f1_.symm; have f5_ := f3_.symm; clear f1_ f2_ f3_; subst f4_; subst f5_))
 refine hK.out _ _ ⟨(zi aa.out 0).trans rfl,(zi aa.out 1).trans rfl⟩ (fun hHeld => ?_)
 clear hK K
 refine norm_ (a' := ?_) ?_ ?_
 rotate_left
 ·
  show Act.put _ (some 8) _ = _
  simp only [Act.put,za,zb,zc,Zv,Zw]
  rfl
 refine pure_ (i := 6) (N := some 9) (v := ?_) (a' := ?_) #[true,true,true,true,true,true,true,false] rfl rfl (Zu HT_.out (by kernel_rfl)) (fun _ _ _ h => h) (Or.inl ⟨by rfl,?_⟩) ?_ ?_
 rotate_left
 ·
  intro w'
  go_simp
  with_reducible rfl
 rotate_left
 ·
  simp only [Act.put,za,zb,zc,Zv,Zw]
  rfl
 refine one_ (i := 7) (N := none) #[true,true,true,true,true,true,true,true] rfl rfl (one_of HT_.out (by kernel_rfl)) (by decide) (fun K hK => ?_)
 have hs11 : w8.cell? ⟨ab,0,none⟩ = some (.slice none 0 0) := (zi ac.out 0).trans rfl
 have hfs11 := zm ac.out 0
 have hns11_0 := af.out
 have hms11_0 := aw.out
 have hs12 : w8.cell? ⟨ab,1,none⟩ = some (.slice none 0 0) := (zi ac.out 1).trans rfl
 have hfs12 := zm ac.out 1
 have hns12_0 := af.out
 have hms12_0 := aw.out
 refine skip_ (w1 := ?_) (by rfl) rfl ?_ ?_
 rotate_left
 ·
  go_simp
  rfl
 refine hK.out _ _ ⟨((Zx (p := ⟨ab,_,none⟩) af.out _).trans (((Zx (p := ⟨ab,_,none⟩) af.out _).trans (hHeld.1)))),((Zx (p := ⟨ab,_,none⟩) af.out _).trans (((Zx (p := ⟨ab,_,none⟩) af.out _).trans (hHeld.2))))⟩ (fun hHeld => ?_)
 clear hK K
 refine done_ (done_of HT_.out (by kernel_rfl)) ?_
 try go_wp2
 refine zzf (zze rfl _ _ ab 24 #[.slice ax ah.length ay,.slice aH ai.length aI] (0,0) _ rfl (by (with_reducible repeat (first | refine zj ?_ _ | refine zl ?_ | refine zk ?_ _)); refine zp (cs := #[.slice ax ah.length ay,.slice none 0 0]) ?_ 1 _ rfl; (with_reducible repeat (first | refine zj ?_ _ | refine zl ?_ | refine zk ?_ _)); refine zp (cs := #[.slice none 0 0,.slice none 0 0]) ?_ 0 _ rfl; (with_reducible repeat (first | refine zj ?_ _ | refine zl ?_ | refine zk ?_ _)); exact ac.out) Try.underlying24 rfl (by kernel_rfl)) rfl ?_
 exact ⟨_,_,by first | rfl | (simp [zzl,zzm] <;> rfl) | (simp [*,zzl,zzm] <;> rfl),by (with_reducible repeat (first | apply zu | apply zt | apply zs)); exact zx (zr (p := ⟨ab,1,none⟩) (zr (p := ⟨ab,0,none⟩) (zy au.out ac.out (by decide)) (fun _ hk => hk.2) (.slice ax ah.length ay)) (fun _ hk => hk.2) (.slice aH ai.length aI)) (fun _ hk => hk.1.2),by (with_reducible repeat (first | apply zu | apply zt | apply zs)); exact zx (zr (p := ⟨ab,1,none⟩) (zr (p := ⟨ab,0,none⟩) (zy aE.out ac.out (by decide)) (fun _ hk => hk.2) (.slice ax ah.length ay)) (fun _ hk => hk.2) (.slice aH ai.length aI)) (fun _ hk => hk.1.2),by repeat (first | (with_reducible first | exact HB.out | apply Zq | apply Zp | apply Zo | refine Zn ?_ am.out | refine Zn ?_ av.out) | exact HB.out)⟩
end Go.Proofs.Ytpagkmdlmhdenaa.PAll
