-- Written by a program of the session.
import Derived.Test.YtpagkmdlmhdenaaAlAll
import Derived.Test.YtpagkmdlmhdenaaPAllx0
import Derived.Test.YtpagkmdlmhdenaaPAllx7
import Derived.Test.YtpagkmdlmhdenaaPAllx17
import Derived.Test.YtpagkmdlmhdenaaPAllx25
import Derived.Test.YtpagkmdlmhdenaaPAllx30
import Derived.Test.YtpagkmdlmhdenaaPAllx32
namespace Go.Proofs.Ytpagkmdlmhdenaa.PAll
open Go.RowKit Go.Proofs.YtpagkmdlmhdenaaW.PrintWords Go.Proofs.YtpagkmdlmhdenaaW.PrintLast Go.Proofs.YtpagkmdlmhdenaaW.PrintMore
attribute [local go_sem] max2_int min2_int max_two min_two max_three min_three max_four min_four   -- for this text's walks alone
set_option linter.unusedVariables false
set_option linter.unusedSimpArgs false
abbrev z34B0 : Array Bool := #[false,false,false,false,false,false,false,false,false,false,false,false]
abbrev z34B1 : Array Bool := #[false,true,false,false,false,false,false,false,false,false,false,false]
abbrev z34B2 : Array Bool := #[true,true,false,false,false,false,false,false,false,false,false,false]
abbrev z34B3 : Array Bool := #[true,true,true,false,false,false,false,false,false,false,false,false]
abbrev z34B4 : Array Bool := #[true,true,true,true,false,false,false,false,false,false,false,false]
abbrev z34B5 : Array Bool := #[true,true,true,true,true,false,false,false,false,false,false,false]
abbrev z34B6 : Array Bool := #[true,true,true,true,true,true,false,false,false,false,false,false]
abbrev z34B7 : Array Bool := #[true,true,true,true,true,true,true,false,false,false,false,false]
abbrev z34B8 : Array Bool := #[true,true,true,true,true,true,true,true,false,false,false,false]
abbrev z34B9 : Array Bool := #[true,true,true,true,true,true,true,true,true,false,false,false]
abbrev z34B10 : Array Bool := #[true,true,true,true,true,true,true,true,true,true,false,false]
abbrev z34B11 : Array Bool := #[true,true,true,true,true,true,true,true,true,true,true,false]
abbrev z34B12 : Array Bool := #[true,true,true,true,true,true,true,true,true,true,true,true]
/-! ### L_takes: function 26 -/
mutual
def L_takes.j0 : Nat → Int → Bool → Int → Int → Int → List Int → List Int → ByteArray → Int → Int → Int → Int → List Int → List Int → Int → ByteArray → Bool → Option (Bool)
 | 0,_,_,_,_,_,_,_,_,_,_,_,_,_,_,_,_,_ => none
 | k + 1,x3,x4,x5,dr,dt,du,dv,cg,cQ,cR,cS,cT,cU,cV,cW,cX,cY => if 0 ≤ 96 then (if 96 ≤ (cg.size : Int) then ((chunk_Take.f k cQ cR cS cT cU cV cW cX cY 0 (cg.extract 0 96)).bind fun cu => (L_takes.j1 k x3 x4 x5 cu.2.2.2.2.2.2.2.2.2.1 cu.2.2.2.2.2.2.2.2.2.2 dr dt du dv cg cu.1 cu.2.1 cu.2.2.1 cu.2.2.2.1 cu.2.2.2.2.1 cu.2.2.2.2.2.1 cu.2.2.2.2.2.2.1 cu.2.2.2.2.2.2.2.1 cu.2.2.2.2.2.2.2.2.1)) else (none)) else (none)
def L_takes.j1 : Nat → Int → Bool → Int → Bool → Int → Int → Int → List Int → List Int → ByteArray → Int → Int → Int → Int → List Int → List Int → Int → ByteArray → Bool → Option (Bool)
 | 0,_,_,_,_,_,_,_,_,_,_,_,_,_,_,_,_,_,_,_ => none
 | k + 1,x3,x4,x5,x6,x7,dr,dt,du,dv,cg,cQ,cR,cS,cT,cU,cV,cW,cX,cY => (chunk_Whole.f k cQ cR cS cT cU cV cW cX cY).bind fun gp => (if 96 ≤ (cg.size : Int) then ((chunk_Take.f k cQ cR cS cT cU cV cW cX cY 96 (cg.extract 96 cg.size)).bind fun br => (L_takes.j2 k x3 x4 x5 x6 x7 gp.2.2.2.2.2 br.2.2.2.2.2.2.2.2.2.1 br.2.2.2.2.2.2.2.2.2.2 dr dt du dv cg br.1 br.2.1 br.2.2.1 br.2.2.2.1 br.2.2.2.2.1 br.2.2.2.2.2.1 br.2.2.2.2.2.2.1 br.2.2.2.2.2.2.2.1 br.2.2.2.2.2.2.2.2.1)) else (none))
def L_takes.j2 : Nat → Int → Bool → Int → Bool → Int → Int → Bool → Int → Int → Int → List Int → List Int → ByteArray → Int → Int → Int → Int → List Int → List Int → Int → ByteArray → Bool → Option (Bool)
 | 0,_,_,_,_,_,_,_,_,_,_,_,_,_,_,_,_,_,_,_,_,_,_ => none
 | k + 1,x3,x4,x5,x6,x7,x9,hw,hx,dr,dt,du,dv,cg,cQ,cR,cS,cT,cU,cV,cW,cX,cY => (chunk_Whole.f k cQ cR cS cT cU cV cW cX cY).bind fun dO => (if x3 = 0 then (if x5 = 0 then (if x7 = 0 then (if x9 = 150 then (if hx = 0 then (if x4 = true then (if x6 = true then (none) else (if hw = true then (if dO.2.2.2.2.2 = 0 then ((r08_SameSnap.f k dO.1 dO.2.1 dO.2.2.1 dO.2.2.2.1 dO.2.2.2.2.1 dr dt du dv cg).bind fun cG => (some cG)) else (none)) else (none))) else (none)) else (none)) else (none)) else (none)) else (none)) else (none))
end
def L_takes.f (k : Nat)  : Option (Bool) := (L_some.f).bind fun bi => ((chunk_Begin.f k 1 5 bi.1 bi.2.1 bi.2.2.1 bi.2.2.2.1 bi.2.2.2.2).bind fun aO => (if 0 ≤ 96 then (if 96 ≤ (bi.2.2.2.2.size : Int) then ((chunk_Take.f k aO.1 aO.2.1 aO.2.2.1 aO.2.2.2.1 aO.2.2.2.2.1 aO.2.2.2.2.2.1 aO.2.2.2.2.2.2.1 aO.2.2.2.2.2.2.2.1 aO.2.2.2.2.2.2.2.2.1 0 (bi.2.2.2.2.extract 0 96)).bind fun aq => (L_takes.j0 k aO.2.2.2.2.2.2.2.2.2 aq.2.2.2.2.2.2.2.2.2.1 aq.2.2.2.2.2.2.2.2.2.2 bi.1 bi.2.1 bi.2.2.1 bi.2.2.2.1 bi.2.2.2.2 aq.1 aq.2.1 aq.2.2.1 aq.2.2.2.1 aq.2.2.2.2.1 aq.2.2.2.2.2.1 aq.2.2.2.2.2.2.1 aq.2.2.2.2.2.2.2.1 aq.2.2.2.2.2.2.2.2.1)) else (none)) else (none)))
def L_takes.T3 : Bool × List (List Nat × List Nat) := (true,[([],[]),([],[]),([1],[1]),([2],[2]),([0,3],[0,3]),([4],[4]),([5],[5]),([5],[5]),([5],[5]),([6,4,0,1,2,3,4,5,6],[6]),([7,9,0,1,2,3,4,5,6,7,9],[7]),([8,10,0,1,2,3,4,5,6,7,8,9,10],[8])])
def L_takes.B3 : List Nat := [0,0,2,6,15,31,63,63,63,127,767,2047]
theorem L_takes.tab3 : rtab .any (opsOf Try.f26 3) = L_takes.T3 := by kernel_rfl
theorem L_takes.bits3 : waitsOk L_takes.T3.2 L_takes.B3 = true := by kernel_rfl
def L_takes.T4 : Bool × List (List Nat × List Nat) := (true,[([],[]),([],[]),([1],[1]),([2],[2]),([0,3],[0,3]),([4],[4]),([5],[5]),([5],[5]),([5],[5]),([6,4,0,1,2,3,4,5,6],[6]),([7,9,0,1,2,3,4,5,6,7,9],[7]),([8,10,0,1,2,3,4,5,6,7,8,9,10],[8])])
def L_takes.B4 : List Nat := [0,0,2,6,15,31,63,63,63,127,767,2047]
theorem L_takes.tab4 : rtab .any (opsOf Try.f26 4) = L_takes.T4 := by kernel_rfl
theorem L_takes.bits4 : waitsOk L_takes.T4.2 L_takes.B4 = true := by kernel_rfl
def L_takes.T6 : Bool × List (List Nat × List Nat) := (true,[([],[]),([],[]),([1],[1]),([2],[2]),([0,3],[0,3]),([4],[4]),([5],[5]),([5],[5]),([5],[5]),([6,4,0,1,2,3,4,5,6],[6]),([7,9,0,1,2,3,4,5,6,7,9],[7]),([8,10,0,1,2,3,4,5,6,7,8,9,10],[8])])
def L_takes.B6 : List Nat := [0,0,2,6,15,31,63,63,63,127,767,2047]
theorem L_takes.tab6 : rtab .any (opsOf Try.f26 6) = L_takes.T6 := by kernel_rfl
theorem L_takes.bits6 : waitsOk L_takes.T6.2 L_takes.B6 = true := by kernel_rfl
set_option maxHeartbeats 8000000 in
set_option maxRecDepth 100000 in
theorem L_takes.calls (k : Nat)  (r : Bool) (w : World) (h : L_takes.f k  = some r) :
 Calls Try.prog 26 #[] w fun e w' => e = .returned (.bool r) ∧ Below w.heap.size w w' := by
 have hu26 := Try.underlying26
 have hu34 := Try.underlying34
 have HB := zzk (Below.refl w.heap.size w)
 have H : ((L_some.f).bind fun bi => ((chunk_Begin.f k 1 5 bi.1 bi.2.1 bi.2.2.1 bi.2.2.2.1 bi.2.2.2.2).bind fun aO => (if 0 ≤ 96 then (if 96 ≤ (bi.2.2.2.2.size : Int) then ((chunk_Take.f k aO.1 aO.2.1 aO.2.2.1 aO.2.2.2.1 aO.2.2.2.2.1 aO.2.2.2.2.2.1 aO.2.2.2.2.2.2.1 aO.2.2.2.2.2.2.2.1 aO.2.2.2.2.2.2.2.2.1 0 (bi.2.2.2.2.extract 0 96)).bind fun aq => (L_takes.j0 k aO.2.2.2.2.2.2.2.2.2 aq.2.2.2.2.2.2.2.2.2.1 aq.2.2.2.2.2.2.2.2.2.2 bi.1 bi.2.1 bi.2.2.1 bi.2.2.2.1 bi.2.2.2.2 aq.1 aq.2.1 aq.2.2.1 aq.2.2.2.1 aq.2.2.2.2.1 aq.2.2.2.2.2.1 aq.2.2.2.2.2.2.1 aq.2.2.2.2.2.2.2.1 aq.2.2.2.2.2.2.2.2.1)) else (none)) else (none)))) = some r := h
 clear h
 replace H := Option.bind_eq_some_iff.mp H
 obtain ⟨⟨ar,au,ah,ai,ak⟩,gs,H⟩ := H
 replace H : ((chunk_Begin.f k 1 5 ar au ah ai ak).bind fun aO => (if 0 ≤ 96 then (if 96 ≤ (ak.size : Int) then ((chunk_Take.f k aO.1 aO.2.1 aO.2.2.1 aO.2.2.2.1 aO.2.2.2.2.1 aO.2.2.2.2.2.1 aO.2.2.2.2.2.2.1 aO.2.2.2.2.2.2.2.1 aO.2.2.2.2.2.2.2.2.1 0 (ak.extract 0 96)).bind fun aq => (L_takes.j0 k aO.2.2.2.2.2.2.2.2.2 aq.2.2.2.2.2.2.2.2.2.1 aq.2.2.2.2.2.2.2.2.2.2 ar au ah ai ak aq.1 aq.2.1 aq.2.2.1 aq.2.2.2.1 aq.2.2.2.2.1 aq.2.2.2.2.2.1 aq.2.2.2.2.2.2.1 aq.2.2.2.2.2.2.2.1 aq.2.2.2.2.2.2.2.2.1)) else (none)) else (none))) = some r := H
 have A1 := zzk gs
 clear gs
 replace H := Option.bind_eq_some_iff.mp H
 obtain ⟨⟨bs,bt,bu,bv,bc,bd,bw,bx,bz,cA⟩,gu,H⟩ := H
 replace H : (if 0 ≤ 96 then (if 96 ≤ (ak.size : Int) then ((chunk_Take.f k bs bt bu bv bc bd bw bx bz 0 (ak.extract 0 96)).bind fun aq => (L_takes.j0 k cA aq.2.2.2.2.2.2.2.2.2.1 aq.2.2.2.2.2.2.2.2.2.2 ar au ah ai ak aq.1 aq.2.1 aq.2.2.1 aq.2.2.2.1 aq.2.2.2.2.1 aq.2.2.2.2.2.1 aq.2.2.2.2.2.2.1 aq.2.2.2.2.2.2.2.1 aq.2.2.2.2.2.2.2.2.1)) else (none)) else (none)) = some r := H
 have A2 := zzk gu
 clear gu
 have fZ := zzk H
 clear H
 go_enter Try.func26,Try.ntmps26
 go_upto_region 3 with (first | ((with_reducible refine zza (f := 29) rfl ?_); refine zzd (some 14) rfl rfl Try.func29 (by kernel_rfl) rfl #[] rfl (by (try simp only [zd,ze,zf]); first | done | rfl | (simp only [zg,zh]; rfl)) ?_; (with_reducible refine (L_some.calls  ar au ah ai ak _ A1.out).mono ?_); rintro e w4 ⟨iX,iY,rfl,ho0,ho1,hb⟩; refine ⟨_,rfl,?_⟩; have aQ := zzk (Za ho0 (Zr (by repeat (first | (with_reducible first | exact HB.out | apply Zq | apply Zp | apply Zo) | exact HB.out)))); have aR := zzk (Za ho1 (Zr (by repeat (first | (with_reducible first | exact HB.out | apply Zq | apply Zp | apply Zo) | exact HB.out)))); have aS := zzk (Zs (by repeat (first | (with_reducible first | exact HB.out | apply Zq | apply Zp | apply Zo) | exact HB.out)) hb); clear HB; have be := aQ; have bf := aR; have HB := aS; clear aQ aR aS; (try clear hb); (try clear hb2); (try clear hk); (try clear hi); (try clear ho0); (try clear ho1)) | ((with_reducible refine Zy (N := 1) rfl ?_); refine zzc ?hg (N := 1) ?hd (cs := #[.int .i64 0,.int .i64 0,.slice none 0 0,.slice none 0 0,.string (⟨#[]⟩ : ByteArray)]) (t := 26) ?hr ?_; (case hd => rfl); (case hg => rfl); (case hr => first | (go_simp; done) | (go_simp; rfl)); intro af hg w5 hbox hb; have aQ := zzk (zv (by (with_reducible repeat (first | apply zu | apply zt | apply zs)); exact be.out) hb); have aR := zzk (zv (by (with_reducible repeat (first | apply zu | apply zt | apply zs)); exact bf.out) hb); have aS := zzk (Zs (by repeat (first | (with_reducible first | exact HB.out | apply Zq | apply Zp | apply Zo) | exact HB.out)) hb); have aV := zzk (hbox); have aW := zzk ((by rw [hg]; exact (Zr (by repeat (first | (with_reducible first | exact HB.out | apply Zq | apply Zp | apply Zo) | exact HB.out))) : w.heap.size ≤ af)); have aX := zzk ((by rw [hg]; exact (Zr (by repeat (first | (with_reducible first | exact HB.out | apply Zq | apply Zp | apply Zo) | exact HB.out))) : w.heap.size ≤ af)); clear be; clear bf; clear HB; have be := aQ; have bf := aR; have HB := aS; have ad := aV; have iq := aW; have aJ := aX; clear aQ aR aS aV aW aX; clear hb hbox hg; have et : w5.cell? ⟨af,0,none⟩ = some (.int .i64 0) := (zi ad.out 0).trans rfl; have eu : w5.cell? ⟨af,1,none⟩ = some (.int .i64 0) := (zi ad.out 1).trans rfl; have ev : w5.cell? ⟨af,2,none⟩ = some (.slice none 0 0) := (zi ad.out 2).trans rfl; have ew : w5.cell? ⟨af,3,none⟩ = some (.slice none 0 0) := (zi ad.out 3).trans rfl; have ex : w5.cell? ⟨af,4,none⟩ = some (.string (⟨#[]⟩ : ByteArray)) := (zi ad.out 4).trans rfl; have ey := zm ad.out 0; have ez := zm ad.out 1; have eA := zm ad.out 2; have eB := zm ad.out 3; have eC := zm ad.out 4; obtain ⟨aB,ax,eo7⟩ := zz be.out; subst eo7; obtain ⟨aC,aA,eo8⟩ := zz bf.out; subst eo8) | ((with_reducible refine zza (f := 14) rfl ?_); refine zzd (some 17) rfl rfl Try.func14 (by kernel_rfl) rfl #[.int .i64 1,.int .i64 5,.agg #[.int .i64 ar,.int .i64 au,.slice aB ah.length ax,.slice aC ai.length aA,.string ak]] rfl (by (try simp only [zd,ze,zf]); first | done | rfl | (simp only [zg,zh]; rfl)) ?_; (with_reducible refine (chunk_Begin.calls k 1 5 ar au _ _ ah _ _ ai ak bs bt bu bv bc bd bw bx bz cA _ ?side1 ?side2 ?side3 ?side4 A2.out).mono ?_); (case side1 => refine (zw (e := 3) (base := w.heap.size) (ok := fun k_ => some k_ ≠ (.slice aC ai.length aA : Value).ownBlock) (n := ah.length) (c := ax) ?_).2.2; exact (by (with_reducible repeat (first | apply zu | apply zt | apply zs)); exact (zx (zr (p := ⟨af,4,none⟩) (zr (p := ⟨af,3,none⟩) (zr (p := ⟨af,2,none⟩) (zr (p := ⟨af,1,none⟩) (zr (p := ⟨af,0,none⟩) (zy be.out ad.out (by decide)) (fun _ hk => hk.2) (.int .i64 ar)) (fun _ hk => hk.2) (.int .i64 au)) (fun _ hk => hk.2) (.slice aB ah.length ax)) (fun _ hk => hk.2) (.slice aC ai.length aA)) (fun _ hk => hk.2) (.string ak)) (fun _ h_ => h_.1)))); (case side2 => exact (zw be.out).2.1); (case side3 => refine (zw (e := 3) (base := w.heap.size) (ok := fun k_ => some k_ ≠ (.slice aB ah.length ax : Value).ownBlock) (n := ai.length) (c := aA) ?_).2.2; exact (by (with_reducible repeat (first | apply zu | apply zt | apply zs)); exact (zx (zr (p := ⟨af,4,none⟩) (zr (p := ⟨af,3,none⟩) (zr (p := ⟨af,2,none⟩) (zr (p := ⟨af,1,none⟩) (zr (p := ⟨af,0,none⟩) (zy bf.out ad.out (by decide)) (fun _ hk => hk.2) (.int .i64 ar)) (fun _ hk => hk.2) (.int .i64 au)) (fun _ hk => hk.2) (.slice aB ah.length ax)) (fun _ hk => hk.2) (.slice aC ai.length aA)) (fun _ hk => hk.2) (.string ak)) (fun _ h_ => h_.1)))); (case side4 => exact (zw bf.out).2.1); rintro e w9 ⟨iZ,ja,rfl,ho0,ho1,hb⟩; refine ⟨_,rfl,?_⟩; have aQ := zzk (zx (Zc (Zc (Kd.R_old (by (with_reducible repeat (first | apply zu | apply zt | apply zs)); exact (zx (zr (p := ⟨af,4,none⟩) (zr (p := ⟨af,3,none⟩) (zr (p := ⟨af,2,none⟩) (zr (p := ⟨af,1,none⟩) (zr (p := ⟨af,0,none⟩) (zy be.out ad.out (by decide)) (fun _ hk => hk.2) (.int .i64 ar)) (fun _ hk => hk.2) (.int .i64 au)) (fun _ hk => hk.2) (.slice aB ah.length ax)) (fun _ hk => hk.2) (.slice aC ai.length aA)) (fun _ hk => hk.2) (.string ak)) (fun _ h_ => h_.1))) hb) (Zd ho0)) (Zd ho1)) (fun _ h_ => h_.1)); have aR := zzk (zx (Zc (Zc (Kd.R_old (by (with_reducible repeat (first | apply zu | apply zt | apply zs)); exact (zx (zr (p := ⟨af,4,none⟩) (zr (p := ⟨af,3,none⟩) (zr (p := ⟨af,2,none⟩) (zr (p := ⟨af,1,none⟩) (zr (p := ⟨af,0,none⟩) (zy bf.out ad.out (by decide)) (fun _ hk => hk.2) (.int .i64 ar)) (fun _ hk => hk.2) (.int .i64 au)) (fun _ hk => hk.2) (.slice aB ah.length ax)) (fun _ hk => hk.2) (.slice aC ai.length aA)) (fun _ hk => hk.2) (.string ak)) (fun _ h_ => h_.1))) hb) (Zd ho0)) (Zd ho1)) (fun _ h_ => h_.1)); have aS := zzk (Za (Zb (Zb ho0 (Kd.R_lt (by (with_reducible repeat (first | apply zu | apply zt | apply zs)); exact (zx (zr (p := ⟨af,4,none⟩) (zr (p := ⟨af,3,none⟩) (zr (p := ⟨af,2,none⟩) (zr (p := ⟨af,1,none⟩) (zr (p := ⟨af,0,none⟩) (zy be.out ad.out (by decide)) (fun _ hk => hk.2) (.int .i64 ar)) (fun _ hk => hk.2) (.int .i64 au)) (fun _ hk => hk.2) (.slice aB ah.length ax)) (fun _ hk => hk.2) (.slice aC ai.length aA)) (fun _ hk => hk.2) (.string ak)) (fun _ h_ => h_.1))))) (Kd.R_lt (by (with_reducible repeat (first | apply zu | apply zt | apply zs)); exact (zx (zr (p := ⟨af,4,none⟩) (zr (p := ⟨af,3,none⟩) (zr (p := ⟨af,2,none⟩) (zr (p := ⟨af,1,none⟩) (zr (p := ⟨af,0,none⟩) (zy bf.out ad.out (by decide)) (fun _ hk => hk.2) (.int .i64 ar)) (fun _ hk => hk.2) (.int .i64 au)) (fun _ hk => hk.2) (.slice aB ah.length ax)) (fun _ hk => hk.2) (.slice aC ai.length aA)) (fun _ hk => hk.2) (.string ak)) (fun _ h_ => h_.1))))) (Zr (by repeat (first | (with_reducible first | exact HB.out | apply Zq | apply Zp | apply Zo | refine Zn ?_ aJ.out) | exact HB.out)))); have aV := zzk (Za (Zb (Zb ho1 (Kd.R_lt (by (with_reducible repeat (first | apply zu | apply zt | apply zs)); exact (zx (zr (p := ⟨af,4,none⟩) (zr (p := ⟨af,3,none⟩) (zr (p := ⟨af,2,none⟩) (zr (p := ⟨af,1,none⟩) (zr (p := ⟨af,0,none⟩) (zy be.out ad.out (by decide)) (fun _ hk => hk.2) (.int .i64 ar)) (fun _ hk => hk.2) (.int .i64 au)) (fun _ hk => hk.2) (.slice aB ah.length ax)) (fun _ hk => hk.2) (.slice aC ai.length aA)) (fun _ hk => hk.2) (.string ak)) (fun _ h_ => h_.1))))) (Kd.R_lt (by (with_reducible repeat (first | apply zu | apply zt | apply zs)); exact (zx (zr (p := ⟨af,4,none⟩) (zr (p := ⟨af,3,none⟩) (zr (p := ⟨af,2,none⟩) (zr (p := ⟨af,1,none⟩) (zr (p := ⟨af,0,none⟩) (zy bf.out ad.out (by decide)) (fun _ hk => hk.2) (.int .i64 ar)) (fun _ hk => hk.2) (.int .i64 au)) (fun _ hk => hk.2) (.slice aB ah.length ax)) (fun _ hk => hk.2) (.slice aC ai.length aA)) (fun _ hk => hk.2) (.string ak)) (fun _ h_ => h_.1))))) (Zr (by repeat (first | (with_reducible first | exact HB.out | apply Zq | apply Zp | apply Zo | refine Zn ?_ aJ.out) | exact HB.out)))); have aW := zzk (zo (g := af) (o := .cells #[.int .i64 ar,.int .i64 au,.slice aB ah.length ax,.slice aC ai.length aA,.string ak] 26 (0,0)) (by (with_reducible repeat (first | refine zj ?_ _ | refine zl ?_ | refine zk ?_ _)); refine zp (cs := #[.int .i64 ar,.int .i64 au,.slice aB ah.length ax,.slice aC ai.length aA,.string (⟨#[]⟩ : ByteArray)]) ?_ 4 _ rfl; (with_reducible repeat (first | refine zj ?_ _ | refine zl ?_ | refine zk ?_ _)); refine zp (cs := #[.int .i64 ar,.int .i64 au,.slice aB ah.length ax,.slice none 0 0,.string (⟨#[]⟩ : ByteArray)]) ?_ 3 _ rfl; (with_reducible repeat (first | refine zj ?_ _ | refine zl ?_ | refine zk ?_ _)); refine zp (cs := #[.int .i64 ar,.int .i64 au,.slice none 0 0,.slice none 0 0,.string (⟨#[]⟩ : ByteArray)]) ?_ 2 _ rfl; (with_reducible repeat (first | refine zj ?_ _ | refine zl ?_ | refine zk ?_ _)); refine zp (cs := #[.int .i64 ar,.int .i64 0,.slice none 0 0,.slice none 0 0,.string (⟨#[]⟩ : ByteArray)]) ?_ 1 _ rfl; (with_reducible repeat (first | refine zj ?_ _ | refine zl ?_ | refine zk ?_ _)); refine zp (cs := #[.int .i64 0,.int .i64 0,.slice none 0 0,.slice none 0 0,.string (⟨#[]⟩ : ByteArray)]) ?_ 0 _ rfl; (with_reducible repeat (first | refine zj ?_ _ | refine zl ?_ | refine zk ?_ _)); exact ad.out) hb); have aX := zzk (Zs (by repeat (first | (with_reducible first | exact HB.out | apply Zq | apply Zp | apply Zo | refine Zn ?_ aJ.out) | exact HB.out)) hb); clear be; clear bf; clear ad; clear HB; have be := aQ; have bf := aR; have bS := aS; have bT := aV; have ad := aW; have HB := aX; clear aQ aR aS aV aW aX; (try clear hb); (try clear hb2); (try clear hk); (try clear hi); (try clear ho0); (try clear ho1)) | ((with_reducible refine Zy (N := 2) rfl ?_); refine zzc ?hg (N := 2) ?hd (cs := #[.int .i64 0,.int .i64 0,.int .i64 0,.int .i64 0,.slice none 0 0,.slice none 0 0,.int .i64 0,.string (⟨#[]⟩ : ByteArray),.bool false]) (t := 34) ?hr ?_; (case hd => rfl); (case hg => rfl); (case hr => first | (go_simp; done) | (go_simp; rfl)); intro aa hg cF hbox hb; have aQ := zzk (zv (by (with_reducible repeat (first | apply zu | apply zt | apply zs)); exact be.out) hb); have aR := zzk (zv (by (with_reducible repeat (first | apply zu | apply zt | apply zs)); exact bf.out) hb); have aS := zzk (zv (by (with_reducible repeat (first | apply zu | apply zt | apply zs)); exact bS.out) hb); have aV := zzk (zv (by (with_reducible repeat (first | apply zu | apply zt | apply zs)); exact bT.out) hb); have aW := zzk (zo (g := af) (o := .cells #[.int .i64 ar,.int .i64 au,.slice aB ah.length ax,.slice aC ai.length aA,.string ak] 26 (0,0)) (by (with_reducible repeat (first | refine zj ?_ _ | refine zl ?_ | refine zk ?_ _)); exact ad.out) hb); have aX := zzk (Zs (by repeat (first | (with_reducible first | exact HB.out | apply Zq | apply Zp | apply Zo | refine Zn ?_ aJ.out) | exact HB.out)) hb); have bh := zzk (hbox); have bM := zzk ((by rw [hg]; exact (Zr (by repeat (first | (with_reducible first | exact HB.out | apply Zq | apply Zp | apply Zo | refine Zn ?_ aJ.out) | exact HB.out))) : w.heap.size ≤ aa)); have bN := zzk ((by rw [hg]; exact (Zr (by repeat (first | (with_reducible first | exact HB.out | apply Zq | apply Zp | apply Zo | refine Zn ?_ aJ.out) | exact HB.out))) : w.heap.size ≤ aa)); have ch := zzk ((by rw [hg]; exact Nat.ne_of_lt (zq (g := af) (o := .cells #[.int .i64 ar,.int .i64 au,.slice aB ah.length ax,.slice aC ai.length aA,.string ak] 26 (0,0)) (by (with_reducible repeat (first | refine zj ?_ _ | refine zl ?_ | refine zk ?_ _)); exact ad.out)) : af ≠ aa)); have ci := zzk ((by rw [hg]; exact Nat.ne_of_gt (zq (g := af) (o := .cells #[.int .i64 ar,.int .i64 au,.slice aB ah.length ax,.slice aC ai.length aA,.string ak] 26 (0,0)) (by (with_reducible repeat (first | refine zj ?_ _ | refine zl ?_ | refine zk ?_ _)); exact ad.out)) : aa ≠ af)); clear be; clear bf; clear bS; clear bT; clear ad; clear HB; have be := aQ; have bf := aR; have bS := aS; have bT := aV; have ad := aW; have HB := aX; have ab := bh; have ir := bM; have ba := bN; have ac := ch; have am := ci; clear aQ aR aS aV aW aX bh bM bN ch ci; clear hb hbox hg; have it := am.out; have iu := ac.out; have dV : cF.cell? ⟨aa,0,none⟩ = some (.int .i64 0) := (zi ab.out 0).trans rfl; have dW : cF.cell? ⟨aa,1,none⟩ = some (.int .i64 0) := (zi ab.out 1).trans rfl; have dX : cF.cell? ⟨aa,2,none⟩ = some (.int .i64 0) := (zi ab.out 2).trans rfl; have dY : cF.cell? ⟨aa,3,none⟩ = some (.int .i64 0) := (zi ab.out 3).trans rfl; have dZ : cF.cell? ⟨aa,4,none⟩ = some (.slice none 0 0) := (zi ab.out 4).trans rfl; have ea : cF.cell? ⟨aa,5,none⟩ = some (.slice none 0 0) := (zi ab.out 5).trans rfl; have eb : cF.cell? ⟨aa,6,none⟩ = some (.int .i64 0) := (zi ab.out 6).trans rfl; have ec : cF.cell? ⟨aa,7,none⟩ = some (.string (⟨#[]⟩ : ByteArray)) := (zi ab.out 7).trans rfl; have ed : cF.cell? ⟨aa,8,none⟩ = some (.bool false) := (zi ab.out 8).trans rfl; have ee := zm ab.out 0; have ef := zm ab.out 1; have eg := zm ab.out 2; have eh := zm ab.out 3; have ei := zm ab.out 4; have ej := zm ab.out 5; have ek := zm ab.out 6; have el := zm ab.out 7; have em := zm ab.out 8; obtain ⟨bl,bm,eo13⟩ := zz bS.out; subst eo13; obtain ⟨bn,bo,eo14⟩ := zz bT.out; subst eo14))
 (try simp only [Act.put,za,zb,zc])
 go_cut [4,5] (fun v4 v5 wc => ∃ (kq : Nat) (dg : Bool) (cH : Int) (bZ : Int) (bQ : Int) (bJ : Int) (bI : Int) (bk : List Int) (bg : List Int) (bb : Int) (aT : ByteArray) (aP : Bool) (aK : Value) (aL : Value),v4 = .bool dg ∧ v5 = .int .i64 cH ∧ Aside0 (L_takes.j0 kq cA dg cH ar au ah ai ak bZ bQ bJ bI bk bg bb aT aP = some r) ∧ Aside0 (kq ≤ k) ∧ Aside0 (Kd.R (Kd.int .i64) 3 wc w.heap.size (fun k_ => some k_ ≠ ((.slice aC ai.length aA) : Value).ownBlock ∧ some k_ ≠ (aK : Value).ownBlock ∧ some k_ ≠ (aL : Value).ownBlock) (.slice aB ah.length ax) ah) ∧ Aside0 (Kd.R (Kd.int .i64) 3 wc w.heap.size (fun k_ => some k_ ≠ ((.slice aB ah.length ax) : Value).ownBlock ∧ some k_ ≠ (aK : Value).ownBlock ∧ some k_ ≠ (aL : Value).ownBlock) (.slice aC ai.length aA) ai) ∧ Aside0 (Kd.R (Kd.int .i64) 3 wc w.heap.size (fun k_ => some k_ ≠ ((.slice aB ah.length ax) : Value).ownBlock ∧ some k_ ≠ ((.slice aC ai.length aA) : Value).ownBlock ∧ some k_ ≠ (aL : Value).ownBlock) aK bk) ∧ Aside0 (Kd.R (Kd.int .i64) 3 wc w.heap.size (fun k_ => some k_ ≠ ((.slice aB ah.length ax) : Value).ownBlock ∧ some k_ ≠ ((.slice aC ai.length aA) : Value).ownBlock ∧ some k_ ≠ (aK : Value).ownBlock) aL bg) ∧ Aside0 (wc.heap[af]? = some (.cells #[.int .i64 ar,.int .i64 au,(.slice aB ah.length ax),(.slice aC ai.length aA),.string ak] 26 (0,0))) ∧ Aside0 (wc.heap[aa]? = some (.cells #[.int .i64 bZ,.int .i64 bQ,.int .i64 bJ,.int .i64 bI,aK,aL,.int .i64 bb,.string aT,.bool aP] 34 (0,0))) ∧ Aside0 (Below w.heap.size w wc))
 case first =>
  have H := fZ.out
  clear fZ
  by_cases ep : 0 ≤ 96
  ·
   rw [if_pos ep] at H
   have eJ := eq_true ep
   have eK : decide (0 ≤ 96) = true := zzn ep
   clear ep
   by_cases er : 96 ≤ (ak.size : Int)
   ·
    rw [if_pos er] at H
    have eL := eq_true er
    have eM : decide (96 ≤ (ak.size : Int)) = true := zzn er
    clear er
    replace H := Option.bind_eq_some_iff.mp H
    obtain ⟨⟨cn,cv,cB,cI,cJ,cZ,dw,dF,dQ,fa,fb⟩,ga,H⟩ := H
    replace H : (L_takes.j0 k cA fa fb ar au ah ai ak cn cv cB cI cJ cZ dw dF dQ) = some r := H
    have hy := zzk ga
    clear ga
    have H' := zzk H
    clear H
    try go_wp2
    have aQ : Aside0 (Kd.R (Kd.int .i64) 3 (((((((((cF.setCell ⟨aa,0,none⟩ (.int .i64 bs)).setCell ⟨aa,1,none⟩ (.int .i64 bt)).setCell ⟨aa,2,none⟩ (.int .i64 bu)).setCell ⟨aa,3,none⟩ (.int .i64 bv)).setCell ⟨aa,4,none⟩ (.slice bl bc.length bm)).setCell ⟨aa,5,none⟩ (.slice bn bd.length bo)).setCell ⟨aa,6,none⟩ (.int .i64 bw)).setCell ⟨aa,7,none⟩ (.string bx)).setCell ⟨aa,8,none⟩ (.bool bz)) w.heap.size (fun k_ => some k_ ≠ (.slice aC ai.length aA : Value).ownBlock ∧ some k_ ≠ (.slice bl bc.length bm : Value).ownBlock ∧ some k_ ≠ (.slice bn bd.length bo : Value).ownBlock) (.slice aB ah.length ax) ah) := ⟨by (with_reducible repeat (first | apply zu | apply zt | apply zs)); exact zx (zr (p := ⟨aa,8,none⟩) (zr (p := ⟨aa,7,none⟩) (zr (p := ⟨aa,6,none⟩) (zr (p := ⟨aa,5,none⟩) (zr (p := ⟨aa,4,none⟩) (zr (p := ⟨aa,3,none⟩) (zr (p := ⟨aa,2,none⟩) (zr (p := ⟨aa,1,none⟩) (zr (p := ⟨aa,0,none⟩) (zy be.out ab.out (by decide)) (fun _ hk => hk.2) (.int .i64 bs)) (fun _ hk => hk.2) (.int .i64 bt)) (fun _ hk => hk.2) (.int .i64 bu)) (fun _ hk => hk.2) (.int .i64 bv)) (fun _ hk => hk.2) (.slice bl bc.length bm)) (fun _ hk => hk.2) (.slice bn bd.length bo)) (fun _ hk => hk.2) (.int .i64 bw)) (fun _ hk => hk.2) (.string bx)) (fun _ hk => hk.2) (.bool bz)) (fun _ hk => ⟨hk.1.1.1,⟨hk.1.1.2,hk.1.2⟩⟩)⟩
    have aR : Aside0 (Kd.R (Kd.int .i64) 3 (((((((((cF.setCell ⟨aa,0,none⟩ (.int .i64 bs)).setCell ⟨aa,1,none⟩ (.int .i64 bt)).setCell ⟨aa,2,none⟩ (.int .i64 bu)).setCell ⟨aa,3,none⟩ (.int .i64 bv)).setCell ⟨aa,4,none⟩ (.slice bl bc.length bm)).setCell ⟨aa,5,none⟩ (.slice bn bd.length bo)).setCell ⟨aa,6,none⟩ (.int .i64 bw)).setCell ⟨aa,7,none⟩ (.string bx)).setCell ⟨aa,8,none⟩ (.bool bz)) w.heap.size (fun k_ => some k_ ≠ (.slice aB ah.length ax : Value).ownBlock ∧ some k_ ≠ (.slice bl bc.length bm : Value).ownBlock ∧ some k_ ≠ (.slice bn bd.length bo : Value).ownBlock) (.slice aC ai.length aA) ai) := ⟨by (with_reducible repeat (first | apply zu | apply zt | apply zs)); exact zx (zr (p := ⟨aa,8,none⟩) (zr (p := ⟨aa,7,none⟩) (zr (p := ⟨aa,6,none⟩) (zr (p := ⟨aa,5,none⟩) (zr (p := ⟨aa,4,none⟩) (zr (p := ⟨aa,3,none⟩) (zr (p := ⟨aa,2,none⟩) (zr (p := ⟨aa,1,none⟩) (zr (p := ⟨aa,0,none⟩) (zy bf.out ab.out (by decide)) (fun _ hk => hk.2) (.int .i64 bs)) (fun _ hk => hk.2) (.int .i64 bt)) (fun _ hk => hk.2) (.int .i64 bu)) (fun _ hk => hk.2) (.int .i64 bv)) (fun _ hk => hk.2) (.slice bl bc.length bm)) (fun _ hk => hk.2) (.slice bn bd.length bo)) (fun _ hk => hk.2) (.int .i64 bw)) (fun _ hk => hk.2) (.string bx)) (fun _ hk => hk.2) (.bool bz)) (fun _ hk => ⟨hk.1.1.1,⟨hk.1.1.2,hk.1.2⟩⟩)⟩
    have aS : Aside0 (Kd.R (Kd.int .i64) 3 (((((((((cF.setCell ⟨aa,0,none⟩ (.int .i64 bs)).setCell ⟨aa,1,none⟩ (.int .i64 bt)).setCell ⟨aa,2,none⟩ (.int .i64 bu)).setCell ⟨aa,3,none⟩ (.int .i64 bv)).setCell ⟨aa,4,none⟩ (.slice bl bc.length bm)).setCell ⟨aa,5,none⟩ (.slice bn bd.length bo)).setCell ⟨aa,6,none⟩ (.int .i64 bw)).setCell ⟨aa,7,none⟩ (.string bx)).setCell ⟨aa,8,none⟩ (.bool bz)) w.heap.size (fun k_ => some k_ ≠ (.slice aB ah.length ax : Value).ownBlock ∧ some k_ ≠ (.slice aC ai.length aA : Value).ownBlock ∧ some k_ ≠ (.slice bn bd.length bo : Value).ownBlock) (.slice bl bc.length bm) bc) := ⟨by (with_reducible repeat (first | apply zu | apply zt | apply zs)); exact zx (zr (p := ⟨aa,8,none⟩) (zr (p := ⟨aa,7,none⟩) (zr (p := ⟨aa,6,none⟩) (zr (p := ⟨aa,5,none⟩) (zr (p := ⟨aa,4,none⟩) (zr (p := ⟨aa,3,none⟩) (zr (p := ⟨aa,2,none⟩) (zr (p := ⟨aa,1,none⟩) (zr (p := ⟨aa,0,none⟩) (zy bS.out ab.out (by decide)) (fun _ hk => hk.2) (.int .i64 bs)) (fun _ hk => hk.2) (.int .i64 bt)) (fun _ hk => hk.2) (.int .i64 bu)) (fun _ hk => hk.2) (.int .i64 bv)) (fun _ hk => hk.2) (.slice bl bc.length bm)) (fun _ hk => hk.2) (.slice bn bd.length bo)) (fun _ hk => hk.2) (.int .i64 bw)) (fun _ hk => hk.2) (.string bx)) (fun _ hk => hk.2) (.bool bz)) (fun _ hk => ⟨hk.1.1.2,⟨hk.1.2,hk.1.1.1⟩⟩)⟩
    have aV : Aside0 (Kd.R (Kd.int .i64) 3 (((((((((cF.setCell ⟨aa,0,none⟩ (.int .i64 bs)).setCell ⟨aa,1,none⟩ (.int .i64 bt)).setCell ⟨aa,2,none⟩ (.int .i64 bu)).setCell ⟨aa,3,none⟩ (.int .i64 bv)).setCell ⟨aa,4,none⟩ (.slice bl bc.length bm)).setCell ⟨aa,5,none⟩ (.slice bn bd.length bo)).setCell ⟨aa,6,none⟩ (.int .i64 bw)).setCell ⟨aa,7,none⟩ (.string bx)).setCell ⟨aa,8,none⟩ (.bool bz)) w.heap.size (fun k_ => some k_ ≠ (.slice aB ah.length ax : Value).ownBlock ∧ some k_ ≠ (.slice aC ai.length aA : Value).ownBlock ∧ some k_ ≠ (.slice bl bc.length bm : Value).ownBlock) (.slice bn bd.length bo) bd) := ⟨by (with_reducible repeat (first | apply zu | apply zt | apply zs)); exact zx (zr (p := ⟨aa,8,none⟩) (zr (p := ⟨aa,7,none⟩) (zr (p := ⟨aa,6,none⟩) (zr (p := ⟨aa,5,none⟩) (zr (p := ⟨aa,4,none⟩) (zr (p := ⟨aa,3,none⟩) (zr (p := ⟨aa,2,none⟩) (zr (p := ⟨aa,1,none⟩) (zr (p := ⟨aa,0,none⟩) (zy bT.out ab.out (by decide)) (fun _ hk => hk.2) (.int .i64 bs)) (fun _ hk => hk.2) (.int .i64 bt)) (fun _ hk => hk.2) (.int .i64 bu)) (fun _ hk => hk.2) (.int .i64 bv)) (fun _ hk => hk.2) (.slice bl bc.length bm)) (fun _ hk => hk.2) (.slice bn bd.length bo)) (fun _ hk => hk.2) (.int .i64 bw)) (fun _ hk => hk.2) (.string bx)) (fun _ hk => hk.2) (.bool bz)) (fun _ hk => ⟨hk.1.1.2,⟨hk.1.2,hk.1.1.1⟩⟩)⟩
    have aW : Aside0 ((((((((((cF.setCell ⟨aa,0,none⟩ (.int .i64 bs)).setCell ⟨aa,1,none⟩ (.int .i64 bt)).setCell ⟨aa,2,none⟩ (.int .i64 bu)).setCell ⟨aa,3,none⟩ (.int .i64 bv)).setCell ⟨aa,4,none⟩ (.slice bl bc.length bm)).setCell ⟨aa,5,none⟩ (.slice bn bd.length bo)).setCell ⟨aa,6,none⟩ (.int .i64 bw)).setCell ⟨aa,7,none⟩ (.string bx)).setCell ⟨aa,8,none⟩ (.bool bz)).heap[af]? = some (.cells #[.int .i64 ar,.int .i64 au,.slice aB ah.length ax,.slice aC ai.length aA,.string ak] 26 (0,0))) := ⟨by (with_reducible repeat (first | refine zj ?_ _ | refine zl ?_ | refine zk ?_ _)); refine zn ?_ ac.out _; (with_reducible repeat (first | refine zj ?_ _ | refine zl ?_ | refine zk ?_ _)); refine zn ?_ ac.out _; (with_reducible repeat (first | refine zj ?_ _ | refine zl ?_ | refine zk ?_ _)); refine zn ?_ ac.out _; (with_reducible repeat (first | refine zj ?_ _ | refine zl ?_ | refine zk ?_ _)); refine zn ?_ ac.out _; (with_reducible repeat (first | refine zj ?_ _ | refine zl ?_ | refine zk ?_ _)); refine zn ?_ ac.out _; (with_reducible repeat (first | refine zj ?_ _ | refine zl ?_ | refine zk ?_ _)); refine zn ?_ ac.out _; (with_reducible repeat (first | refine zj ?_ _ | refine zl ?_ | refine zk ?_ _)); refine zn ?_ ac.out _; (with_reducible repeat (first | refine zj ?_ _ | refine zl ?_ | refine zk ?_ _)); refine zn ?_ ac.out _; (with_reducible repeat (first | refine zj ?_ _ | refine zl ?_ | refine zk ?_ _)); refine zn ?_ ac.out _; (with_reducible repeat (first | refine zj ?_ _ | refine zl ?_ | refine zk ?_ _)); exact ad.out⟩
    have aX : Aside0 ((((((((((cF.setCell ⟨aa,0,none⟩ (.int .i64 bs)).setCell ⟨aa,1,none⟩ (.int .i64 bt)).setCell ⟨aa,2,none⟩ (.int .i64 bu)).setCell ⟨aa,3,none⟩ (.int .i64 bv)).setCell ⟨aa,4,none⟩ (.slice bl bc.length bm)).setCell ⟨aa,5,none⟩ (.slice bn bd.length bo)).setCell ⟨aa,6,none⟩ (.int .i64 bw)).setCell ⟨aa,7,none⟩ (.string bx)).setCell ⟨aa,8,none⟩ (.bool bz)).heap[aa]? = some (.cells #[.int .i64 bs,.int .i64 bt,.int .i64 bu,.int .i64 bv,.slice bl bc.length bm,.slice bn bd.length bo,.int .i64 bw,.string bx,.bool bz] 34 (0,0))) := ⟨by (with_reducible repeat (first | refine zj ?_ _ | refine zl ?_ | refine zk ?_ _)); refine zp (cs := #[.int .i64 bs,.int .i64 bt,.int .i64 bu,.int .i64 bv,.slice bl bc.length bm,.slice bn bd.length bo,.int .i64 bw,.string bx,.bool false]) ?_ 8 _ rfl; (with_reducible repeat (first | refine zj ?_ _ | refine zl ?_ | refine zk ?_ _)); refine zp (cs := #[.int .i64 bs,.int .i64 bt,.int .i64 bu,.int .i64 bv,.slice bl bc.length bm,.slice bn bd.length bo,.int .i64 bw,.string (⟨#[]⟩ : ByteArray),.bool false]) ?_ 7 _ rfl; (with_reducible repeat (first | refine zj ?_ _ | refine zl ?_ | refine zk ?_ _)); refine zp (cs := #[.int .i64 bs,.int .i64 bt,.int .i64 bu,.int .i64 bv,.slice bl bc.length bm,.slice bn bd.length bo,.int .i64 0,.string (⟨#[]⟩ : ByteArray),.bool false]) ?_ 6 _ rfl; (with_reducible repeat (first | refine zj ?_ _ | refine zl ?_ | refine zk ?_ _)); refine zp (cs := #[.int .i64 bs,.int .i64 bt,.int .i64 bu,.int .i64 bv,.slice bl bc.length bm,.slice none 0 0,.int .i64 0,.string (⟨#[]⟩ : ByteArray),.bool false]) ?_ 5 _ rfl; (with_reducible repeat (first | refine zj ?_ _ | refine zl ?_ | refine zk ?_ _)); refine zp (cs := #[.int .i64 bs,.int .i64 bt,.int .i64 bu,.int .i64 bv,.slice none 0 0,.slice none 0 0,.int .i64 0,.string (⟨#[]⟩ : ByteArray),.bool false]) ?_ 4 _ rfl; (with_reducible repeat (first | refine zj ?_ _ | refine zl ?_ | refine zk ?_ _)); refine zp (cs := #[.int .i64 bs,.int .i64 bt,.int .i64 bu,.int .i64 0,.slice none 0 0,.slice none 0 0,.int .i64 0,.string (⟨#[]⟩ : ByteArray),.bool false]) ?_ 3 _ rfl; (with_reducible repeat (first | refine zj ?_ _ | refine zl ?_ | refine zk ?_ _)); refine zp (cs := #[.int .i64 bs,.int .i64 bt,.int .i64 0,.int .i64 0,.slice none 0 0,.slice none 0 0,.int .i64 0,.string (⟨#[]⟩ : ByteArray),.bool false]) ?_ 2 _ rfl; (with_reducible repeat (first | refine zj ?_ _ | refine zl ?_ | refine zk ?_ _)); refine zp (cs := #[.int .i64 bs,.int .i64 0,.int .i64 0,.int .i64 0,.slice none 0 0,.slice none 0 0,.int .i64 0,.string (⟨#[]⟩ : ByteArray),.bool false]) ?_ 1 _ rfl; (with_reducible repeat (first | refine zj ?_ _ | refine zl ?_ | refine zk ?_ _)); refine zp (cs := #[.int .i64 0,.int .i64 0,.int .i64 0,.int .i64 0,.slice none 0 0,.slice none 0 0,.int .i64 0,.string (⟨#[]⟩ : ByteArray),.bool false]) ?_ 0 _ rfl; (with_reducible repeat (first | refine zj ?_ _ | refine zl ?_ | refine zk ?_ _)); exact ab.out⟩
    have bh : Aside0 (Below w.heap.size w (((((((((cF.setCell ⟨aa,0,none⟩ (.int .i64 bs)).setCell ⟨aa,1,none⟩ (.int .i64 bt)).setCell ⟨aa,2,none⟩ (.int .i64 bu)).setCell ⟨aa,3,none⟩ (.int .i64 bv)).setCell ⟨aa,4,none⟩ (.slice bl bc.length bm)).setCell ⟨aa,5,none⟩ (.slice bn bd.length bo)).setCell ⟨aa,6,none⟩ (.int .i64 bw)).setCell ⟨aa,7,none⟩ (.string bx)).setCell ⟨aa,8,none⟩ (.bool bz))) := ⟨by repeat (first | (with_reducible first | exact HB.out | apply Zq | apply Zp | apply Zo | refine Zn ?_ aJ.out | refine Zn ?_ ba.out) | exact HB.out)⟩
    (try clear be)
    (try clear bf)
    (try clear bS)
    (try clear bT)
    (try clear ad)
    (try clear ab)
    (try clear HB)
    generalize (((((((((cF.setCell ⟨aa,0,none⟩ (.int .i64 bs)).setCell ⟨aa,1,none⟩ (.int .i64 bt)).setCell ⟨aa,2,none⟩ (.int .i64 bu)).setCell ⟨aa,3,none⟩ (.int .i64 bv)).setCell ⟨aa,4,none⟩ (.slice bl bc.length bm)).setCell ⟨aa,5,none⟩ (.slice bn bd.length bo)).setCell ⟨aa,6,none⟩ (.int .i64 bw)).setCell ⟨aa,7,none⟩ (.string bx)).setCell ⟨aa,8,none⟩ (.bool bz)) = hz at aQ aR aS aV aW aX bh ⊢
    have be := aQ
    have bf := aR
    have bS := aS
    have bT := aV
    have ad := aW
    have ab := aX
    have HB := bh
    clear aQ aR aS aV aW aX bh
    have aQ := zzk (zs be.out)
    have aR := zzk (zs bf.out)
    have aS := zzk (zs bS.out)
    have aV := zzk (zs bT.out)
    have aW := zzk (zl ad.out)
    have aX := zzk (zl ab.out)
    have bh := zzk (Zo HB.out)
    clear be
    clear bf
    clear bS
    clear bT
    clear ad
    clear ab
    clear HB
    have be := aQ
    have bf := aR
    have bS := aS
    have bT := aV
    have ad := aW
    have ab := aX
    have HB := bh
    clear aQ aR aS aV aW aX bh
    refine start_ (n := 12) (S := fun w' => w'.cell? ⟨aa,0,none⟩ = some (.int .i64 bs) ∧ w'.cell? ⟨aa,1,none⟩ = some (.int .i64 bt) ∧ w'.cell? ⟨aa,2,none⟩ = some (.int .i64 bu) ∧ w'.cell? ⟨aa,3,none⟩ = some (.int .i64 bv) ∧ w'.cell? ⟨aa,4,none⟩ = some (.slice bl bc.length bm) ∧ w'.cell? ⟨aa,5,none⟩ = some (.slice bn bd.length bo) ∧ w'.cell? ⟨aa,6,none⟩ = some (.int .i64 bw) ∧ w'.cell? ⟨aa,7,none⟩ = some (.string bx) ∧ w'.cell? ⟨aa,8,none⟩ = some (.bool bz) ∧ w'.cell? ⟨af,0,none⟩ = some (.int .i64 ar) ∧ w'.cell? ⟨af,1,none⟩ = some (.int .i64 au) ∧ w'.cell? ⟨af,2,none⟩ = some (.slice aB ah.length ax) ∧ w'.cell? ⟨af,3,none⟩ = some (.slice aC ai.length aA) ∧ w'.cell? ⟨af,4,none⟩ = some (.string ak)) (ds := [9]) z34B0 (by kernel_rfl) rfl rfl ⟨(zi ab.out 0).trans rfl,(zi ab.out 1).trans rfl,(zi ab.out 2).trans rfl,(zi ab.out 3).trans rfl,(zi ab.out 4).trans rfl,(zi ab.out 5).trans rfl,(zi ab.out 6).trans rfl,(zi ab.out 7).trans rfl,(zi ab.out 8).trans rfl,(zi ad.out 0).trans rfl,(zi ad.out 1).trans rfl,(zi ad.out 2).trans rfl,(zi ad.out 3).trans rfl,(zi ad.out 4).trans rfl⟩ (fun hHeld => ?_); refine with_tabW L_takes.tab3 L_takes.bits3 (fun HT_ HW_ => ?_)
    generalize hz.drew = jm at be bf bS bT ad ab HB hHeld ⊢
    refine pure_ (i := 1) (N := some 22) (v := ?_) (a' := ?_) z34B1 rfl rfl (Zu HT_.out (by kernel_rfl)) (fun _ _ _ h => h) (Or.inl ⟨by rfl,?_⟩) ?_ ?_
    rotate_left
    ·
     intro w'
     go_simp
     with_reducible rfl
    rotate_left
    ·
     simp only [Act.put,za,zb,zc,Zv,Zw]
     rfl
    refine take_ (i := 0) (N := some 21) (v := ?_) (a' := ?_) z34B2 rfl rfl (take_ofW HT_.out HW_.out (by kernel_rfl)) (fun _ _ _ h => h) (Or.inl ⟨by rfl,?_⟩) hHeld ?_ ?_
    rotate_left
    ·
     rintro w' ⟨s0,s1,s2,s3,s4,s5,s6,s7,s8,s9,eN,eO,eP,eQ⟩
     go_simp
     with_reducible rfl
    rotate_left
    ·
     simp only [Act.put,za,zb,zc,Zv,Zw]
     rfl
    refine take_ (i := 2) (N := some 23) (v := ?_) (a' := ?_) z34B3 rfl rfl (take_ofW HT_.out HW_.out (by kernel_rfl)) (fun _ _ _ h => h) (Or.inl ⟨by rfl,?_⟩) hHeld ?_ ?_
    rotate_left
    ·
     rintro w' ⟨s0,s1,s2,s3,s4,s5,s6,s7,s8,s9,eN,eO,eP,eQ⟩
     go_simp
     with_reducible rfl
    rotate_left
    ·
     simp only [Act.put,za,zb,zc,Zv,Zw]
     rfl
    refine pure_ (i := 3) (N := some 24) (v := ?_) (a' := ?_) z34B4 rfl rfl (Zu HT_.out (by kernel_rfl)) (fun _ _ _ h => h) (Or.inl ⟨by rfl,?_⟩) ?_ ?_
    rotate_left
    ·
     intro w'
     go_simp
     with_reducible rfl
    rotate_left
    ·
     simp only [Act.put,za,zb,zc,Zv,Zw]
     rfl
    refine one_ (i := 4) (N := some 25) z34B5 rfl rfl (one_of HT_.out (by kernel_rfl)) (by decide) (fun K hK => ?_)
    refine goes_ Try.func22 (by kernel_rfl) rfl #[.agg #[.int .i64 bs,.int .i64 bt,.int .i64 bu,.int .i64 bv,.slice bl bc.length bm,.slice bn bd.length bo,.int .i64 bw,.string bx,.bool bz],.int .i64 0,.string (ak.extract 0 96)] (by rfl) rfl rfl (by (try simp only [zd,ze,zf]); first | done | rfl | (simp only [zg,zh]; rfl)) ?_
    with_reducible refine (chunk_Take.calls k bs bt bu bv _ _ bc _ _ bd bw bx bz 0 (ak.extract 0 96) cn cv cB cI cJ cZ dw dF dQ fa fb _ ?side1 ?side2 ?side3 ?side4 hy.out).mono ?_
    (case side1 => repeat (first | exact (zw bS.out).2.2 | (with_reducible refine Zk ?_ _) | (with_reducible refine Zj ?_ _) | (with_reducible refine Zl ?_)))
    (case side2 => exact (zw bS.out).2.1)
    (case side3 => repeat (first | exact (zw bT.out).2.2 | (with_reducible refine Zk ?_ _) | (with_reducible refine Zj ?_ _) | (with_reducible refine Zl ?_)))
    (case side4 => exact (zw bT.out).2.1)
    rintro e dS ⟨jb,jc,rfl,ho0,ho1,hb⟩
    refine ⟨_,rfl,?_⟩
    have aQ := zzk (zx (Zc (Zc (Kd.R_old (by (with_reducible repeat (first | apply zu | apply zt | apply zs)); exact be.out) hb) (Zd ho0)) (Zd ho1)) (fun _ h_ => h_.1))
    have aR := zzk (zx (Zc (Zc (Kd.R_old (by (with_reducible repeat (first | apply zu | apply zt | apply zs)); exact bf.out) hb) (Zd ho0)) (Zd ho1)) (fun _ h_ => h_.1))
    have aS := zzk (zx (Zc (Zc (Kd.R_old (by (with_reducible repeat (first | apply zu | apply zt | apply zs)); exact bS.out) hb) (Zd ho0)) (Zd ho1)) (fun _ h_ => h_.1))
    have aV := zzk (zx (Zc (Zc (Kd.R_old (by (with_reducible repeat (first | apply zu | apply zt | apply zs)); exact bT.out) hb) (Zd ho0)) (Zd ho1)) (fun _ h_ => h_.1))
    have aW := zzk (Za (Zb (Zb (Zb (Zb ho0 (Kd.R_lt (by (with_reducible repeat (first | apply zu | apply zt | apply zs)); exact be.out))) (Kd.R_lt (by (with_reducible repeat (first | apply zu | apply zt | apply zs)); exact bf.out))) (Kd.R_lt (by (with_reducible repeat (first | apply zu | apply zt | apply zs)); exact bS.out))) (Kd.R_lt (by (with_reducible repeat (first | apply zu | apply zt | apply zs)); exact bT.out))) (Zr (by repeat (first | (with_reducible first | exact HB.out | apply Zq | apply Zp | apply Zo | refine Zn ?_ aJ.out | refine Zn ?_ ba.out) | exact HB.out))))
    have aX := zzk (Za (Zb (Zb (Zb (Zb ho1 (Kd.R_lt (by (with_reducible repeat (first | apply zu | apply zt | apply zs)); exact be.out))) (Kd.R_lt (by (with_reducible repeat (first | apply zu | apply zt | apply zs)); exact bf.out))) (Kd.R_lt (by (with_reducible repeat (first | apply zu | apply zt | apply zs)); exact bS.out))) (Kd.R_lt (by (with_reducible repeat (first | apply zu | apply zt | apply zs)); exact bT.out))) (Zr (by repeat (first | (with_reducible first | exact HB.out | apply Zq | apply Zp | apply Zo | refine Zn ?_ aJ.out | refine Zn ?_ ba.out) | exact HB.out))))
    have bh := zzk (zo (g := af) (o := .cells #[.int .i64 ar,.int .i64 au,.slice aB ah.length ax,.slice aC ai.length aA,.string ak] 26 (0,0)) (by (with_reducible repeat (first | refine zj ?_ _ | refine zl ?_ | refine zk ?_ _)); exact ad.out) hb)
    have bM := zzk (zo (g := aa) (o := .cells #[.int .i64 bs,.int .i64 bt,.int .i64 bu,.int .i64 bv,.slice bl bc.length bm,.slice bn bd.length bo,.int .i64 bw,.string bx,.bool bz] 34 (0,0)) (by (with_reducible repeat (first | refine zj ?_ _ | refine zl ?_ | refine zk ?_ _)); exact ab.out) hb)
    have bN := zzk (Zs (by repeat (first | (with_reducible first | exact HB.out | apply Zq | apply Zp | apply Zo | refine Zn ?_ aJ.out | refine Zn ?_ ba.out) | exact HB.out)) hb)
    clear be
    clear bf
    clear bS
    clear bT
    clear ad
    clear ab
    clear HB
    have be := aQ
    have bf := aR
    have bS := aS
    have bT := aV
    have fj := aW
    have fk := aX
    have ad := bh
    have ab := bM
    have HB := bN
    clear aQ aR aS aV aW aX bh bM bN
    (try clear hb)
    (try clear hb2)
    (try clear hk)
    (try clear hi)
    (try clear ho0)
    (try clear ho1)
    obtain ⟨dx,dy,eo25⟩ := zz fj.out
    (first | subst eo25 | (injection eo25 with f1_ f2_ f3_; have f4_ := f1_.symm; have f5_ := f3_.symm; clear f1_ f2_ f3_; subst f4_; subst f5_))
    obtain ⟨dG,dH,eo27⟩ := zz fk.out
    (first | subst eo27 | (injection eo27 with f1_ f2_ f3_; have f4_ := f1_.symm; have f5_ := f3_.symm; clear f1_ f2_ f3_; subst f4_; subst f5_))
    refine hK.out _ _ ⟨(zi ab.out 0).trans rfl,(zi ab.out 1).trans rfl,(zi ab.out 2).trans rfl,(zi ab.out 3).trans rfl,(zi ab.out 4).trans rfl,(zi ab.out 5).trans rfl,(zi ab.out 6).trans rfl,(zi ab.out 7).trans rfl,(zi ab.out 8).trans rfl,(zi ad.out 0).trans rfl,(zi ad.out 1).trans rfl,(zi ad.out 2).trans rfl,(zi ad.out 3).trans rfl,(zi ad.out 4).trans rfl⟩ (fun hHeld => ?_)
    clear hK K
    refine norm_ (a' := ?_) ?_ ?_
    rotate_left
    ·
     show Act.put _ (some 25) _ = _
     simp only [Act.put,za,zb,zc,Zv,Zw]
     rfl
    refine pure_ (i := 5) (N := some 20) (v := ?_) (a' := ?_) z34B6 rfl rfl (Zu HT_.out (by kernel_rfl)) (fun _ _ _ h => h) (Or.inl ⟨by rfl,?_⟩) ?_ ?_
    rotate_left
    ·
     intro w'
     go_simp
     with_reducible rfl
    rotate_left
    ·
     simp only [Act.put,za,zb,zc,Zv,Zw]
     rfl
    refine pure_ (i := 6) (N := some 26) (v := ?_) (a' := ?_) z34B7 rfl rfl (Zu HT_.out (by kernel_rfl)) (fun _ _ _ h => h) (Or.inl ⟨by rfl,?_⟩) ?_ ?_
    rotate_left
    ·
     intro w'
     go_simp
     with_reducible rfl
    rotate_left
    ·
     simp only [Act.put,za,zb,zc,Zv,Zw]
     rfl
    refine pure_ (i := 7) (N := some 27) (v := ?_) (a' := ?_) z34B8 rfl rfl (Zu HT_.out (by kernel_rfl)) (fun _ _ _ h => h) (Or.inl ⟨by rfl,?_⟩) ?_ ?_
    rotate_left
    ·
     intro w'
     go_simp
     with_reducible rfl
    rotate_left
    ·
     simp only [Act.put,za,zb,zc,Zv,Zw]
     rfl
    refine pure_ (i := 8) (N := some 28) (v := ?_) (a' := ?_) z34B9 rfl rfl (Zu HT_.out (by kernel_rfl)) (fun _ _ _ h => h) (Or.inl ⟨by rfl,?_⟩) ?_ ?_
    rotate_left
    ·
     intro w'
     go_simp
     with_reducible rfl
    rotate_left
    ·
     simp only [Act.put,za,zb,zc,Zv,Zw]
     rfl
    refine last_ (i := 9) (N := none) z34B10 rfl rfl (one_of HT_.out (by kernel_rfl)) (by decide) (fun K hK => ?_)
    have hs21 : dS.cell? ⟨aa,0,none⟩ = some (.int .i64 bs) := (zi ab.out 0).trans rfl
    have hfs21 := zm ab.out 0
    have hns21_0 := ac.out
    have hms21_0 := am.out
    have hs22 : dS.cell? ⟨aa,1,none⟩ = some (.int .i64 bt) := (zi ab.out 1).trans rfl
    have hfs22 := zm ab.out 1
    have hns22_0 := ac.out
    have hms22_0 := am.out
    have hs23 : dS.cell? ⟨aa,2,none⟩ = some (.int .i64 bu) := (zi ab.out 2).trans rfl
    have hfs23 := zm ab.out 2
    have hns23_0 := ac.out
    have hms23_0 := am.out
    have hs24 : dS.cell? ⟨aa,3,none⟩ = some (.int .i64 bv) := (zi ab.out 3).trans rfl
    have hfs24 := zm ab.out 3
    have hns24_0 := ac.out
    have hms24_0 := am.out
    have hs26 : dS.cell? ⟨aa,4,none⟩ = some (.slice bl bc.length bm) := (zi ab.out 4).trans rfl
    have hfs26 := zm ab.out 4
    have hns26_0 := ac.out
    have hms26_0 := am.out
    have hs28 : dS.cell? ⟨aa,5,none⟩ = some (.slice bn bd.length bo) := (zi ab.out 5).trans rfl
    have hfs28 := zm ab.out 5
    have hns28_0 := ac.out
    have hms28_0 := am.out
    have hs29 : dS.cell? ⟨aa,6,none⟩ = some (.int .i64 bw) := (zi ab.out 6).trans rfl
    have hfs29 := zm ab.out 6
    have hns29_0 := ac.out
    have hms29_0 := am.out
    have hs30 : dS.cell? ⟨aa,7,none⟩ = some (.string bx) := (zi ab.out 7).trans rfl
    have hfs30 := zm ab.out 7
    have hns30_0 := ac.out
    have hms30_0 := am.out
    have hs31 : dS.cell? ⟨aa,8,none⟩ = some (.bool bz) := (zi ab.out 8).trans rfl
    have hfs31 := zm ab.out 8
    have hns31_0 := ac.out
    have hms31_0 := am.out
    refine skip_ (w1 := ?_) (by rfl) rfl ?_ ?_
    rotate_left
    ·
     go_simp
     rfl
    refine hK.out _ _ ?_
    clear hK K
    refine pure_ (i := 10) (N := some 4) (v := ?_) (a' := ?_) z34B11 rfl rfl (Zu HT_.out (by kernel_rfl)) (fun _ _ _ h => h) (Or.inl ⟨by rfl,?_⟩) ?_ ?_
    rotate_left
    ·
     intro w'
     go_simp
     with_reducible rfl
    rotate_left
    ·
     simp only [Act.put,za,zb,zc,Zv,Zw]
     rfl
    refine pure_ (i := 11) (N := some 5) (v := ?_) (a' := ?_) z34B12 rfl rfl (Zu HT_.out (by kernel_rfl)) (fun _ _ _ h => h) (Or.inl ⟨by rfl,?_⟩) ?_ ?_
    rotate_left
    ·
     intro w'
     go_simp
     with_reducible rfl
    rotate_left
    ·
     simp only [Act.put,za,zb,zc,Zv,Zw]
     rfl
    refine done_ (done_of HT_.out (by kernel_rfl)) ?_
    try go_wp2
    go_meet
    case rel => exact ⟨_,(fa),(fb),(cn),(cv),(cB),(cI),(cJ),(cZ),(dw),(dF),(dQ),(.slice dx cJ.length dy),(.slice dG cZ.length dH),(by first | rfl | (simp; done) | (simp [*]; done)),(by first | rfl | (simp; done) | (simp [*]; done)),H',⟨by first | omega | exact Nat.le_refl _⟩,⟨by (with_reducible repeat (first | apply zu | apply zt | apply zs)); exact zx (zr (p := ⟨aa,8,none⟩) (zr (p := ⟨aa,7,none⟩) (zr (p := ⟨aa,6,none⟩) (zr (p := ⟨aa,5,none⟩) (zr (p := ⟨aa,4,none⟩) (zr (p := ⟨aa,3,none⟩) (zr (p := ⟨aa,2,none⟩) (zr (p := ⟨aa,1,none⟩) (zr (p := ⟨aa,0,none⟩) (zy be.out ab.out (by decide)) (fun _ hk => hk.2) (.int .i64 cn)) (fun _ hk => hk.2) (.int .i64 cv)) (fun _ hk => hk.2) (.int .i64 cB)) (fun _ hk => hk.2) (.int .i64 cI)) (fun _ hk => hk.2) (.slice dx cJ.length dy)) (fun _ hk => hk.2) (.slice dG cZ.length dH)) (fun _ hk => hk.2) (.int .i64 dw)) (fun _ hk => hk.2) (.string dF)) (fun _ hk => hk.2) (.bool dQ)) (fun _ hk => ⟨hk.1.1.1.1,⟨hk.1.1.2,hk.1.2⟩⟩)⟩,⟨by (with_reducible repeat (first | apply zu | apply zt | apply zs)); exact zx (zr (p := ⟨aa,8,none⟩) (zr (p := ⟨aa,7,none⟩) (zr (p := ⟨aa,6,none⟩) (zr (p := ⟨aa,5,none⟩) (zr (p := ⟨aa,4,none⟩) (zr (p := ⟨aa,3,none⟩) (zr (p := ⟨aa,2,none⟩) (zr (p := ⟨aa,1,none⟩) (zr (p := ⟨aa,0,none⟩) (zy bf.out ab.out (by decide)) (fun _ hk => hk.2) (.int .i64 cn)) (fun _ hk => hk.2) (.int .i64 cv)) (fun _ hk => hk.2) (.int .i64 cB)) (fun _ hk => hk.2) (.int .i64 cI)) (fun _ hk => hk.2) (.slice dx cJ.length dy)) (fun _ hk => hk.2) (.slice dG cZ.length dH)) (fun _ hk => hk.2) (.int .i64 dw)) (fun _ hk => hk.2) (.string dF)) (fun _ hk => hk.2) (.bool dQ)) (fun _ hk => ⟨hk.1.1.1.1,⟨hk.1.1.2,hk.1.2⟩⟩)⟩,⟨by (with_reducible repeat (first | apply zu | apply zt | apply zs)); exact zx (zr (p := ⟨aa,8,none⟩) (zr (p := ⟨aa,7,none⟩) (zr (p := ⟨aa,6,none⟩) (zr (p := ⟨aa,5,none⟩) (zr (p := ⟨aa,4,none⟩) (zr (p := ⟨aa,3,none⟩) (zr (p := ⟨aa,2,none⟩) (zr (p := ⟨aa,1,none⟩) (zr (p := ⟨aa,0,none⟩) (zy fj.out ab.out (by decide)) (fun _ hk => hk.2) (.int .i64 cn)) (fun _ hk => hk.2) (.int .i64 cv)) (fun _ hk => hk.2) (.int .i64 cB)) (fun _ hk => hk.2) (.int .i64 cI)) (fun _ hk => hk.2) (.slice dx cJ.length dy)) (fun _ hk => hk.2) (.slice dG cZ.length dH)) (fun _ hk => hk.2) (.int .i64 dw)) (fun _ hk => hk.2) (.string dF)) (fun _ hk => hk.2) (.bool dQ)) (fun _ hk => ⟨hk.1.1.1.1.2,⟨hk.1.1.1.2,hk.1.1.1.1.1⟩⟩)⟩,⟨by (with_reducible repeat (first | apply zu | apply zt | apply zs)); exact zx (zr (p := ⟨aa,8,none⟩) (zr (p := ⟨aa,7,none⟩) (zr (p := ⟨aa,6,none⟩) (zr (p := ⟨aa,5,none⟩) (zr (p := ⟨aa,4,none⟩) (zr (p := ⟨aa,3,none⟩) (zr (p := ⟨aa,2,none⟩) (zr (p := ⟨aa,1,none⟩) (zr (p := ⟨aa,0,none⟩) (zy fk.out ab.out (by decide)) (fun _ hk => hk.2) (.int .i64 cn)) (fun _ hk => hk.2) (.int .i64 cv)) (fun _ hk => hk.2) (.int .i64 cB)) (fun _ hk => hk.2) (.int .i64 cI)) (fun _ hk => hk.2) (.slice dx cJ.length dy)) (fun _ hk => hk.2) (.slice dG cZ.length dH)) (fun _ hk => hk.2) (.int .i64 dw)) (fun _ hk => hk.2) (.string dF)) (fun _ hk => hk.2) (.bool dQ)) (fun _ hk => ⟨hk.1.1.1.1.2,⟨hk.1.1.1.2,hk.1.1.1.1.1⟩⟩)⟩,⟨by (with_reducible repeat (first | refine zj ?_ _ | refine zl ?_ | refine zk ?_ _)); refine zn ?_ ac.out _; (with_reducible repeat (first | refine zj ?_ _ | refine zl ?_ | refine zk ?_ _)); refine zn ?_ ac.out _; (with_reducible repeat (first | refine zj ?_ _ | refine zl ?_ | refine zk ?_ _)); refine zn ?_ ac.out _; (with_reducible repeat (first | refine zj ?_ _ | refine zl ?_ | refine zk ?_ _)); refine zn ?_ ac.out _; (with_reducible repeat (first | refine zj ?_ _ | refine zl ?_ | refine zk ?_ _)); refine zn ?_ ac.out _; (with_reducible repeat (first | refine zj ?_ _ | refine zl ?_ | refine zk ?_ _)); refine zn ?_ ac.out _; (with_reducible repeat (first | refine zj ?_ _ | refine zl ?_ | refine zk ?_ _)); refine zn ?_ ac.out _; (with_reducible repeat (first | refine zj ?_ _ | refine zl ?_ | refine zk ?_ _)); refine zn ?_ ac.out _; (with_reducible repeat (first | refine zj ?_ _ | refine zl ?_ | refine zk ?_ _)); refine zn ?_ ac.out _; (with_reducible repeat (first | refine zj ?_ _ | refine zl ?_ | refine zk ?_ _)); exact ad.out⟩,⟨by (with_reducible repeat (first | refine zj ?_ _ | refine zl ?_ | refine zk ?_ _)); refine zp (cs := #[.int .i64 cn,.int .i64 cv,.int .i64 cB,.int .i64 cI,.slice dx cJ.length dy,.slice dG cZ.length dH,.int .i64 dw,.string dF,.bool bz]) ?_ 8 _ rfl; (with_reducible repeat (first | refine zj ?_ _ | refine zl ?_ | refine zk ?_ _)); refine zp (cs := #[.int .i64 cn,.int .i64 cv,.int .i64 cB,.int .i64 cI,.slice dx cJ.length dy,.slice dG cZ.length dH,.int .i64 dw,.string bx,.bool bz]) ?_ 7 _ rfl; (with_reducible repeat (first | refine zj ?_ _ | refine zl ?_ | refine zk ?_ _)); refine zp (cs := #[.int .i64 cn,.int .i64 cv,.int .i64 cB,.int .i64 cI,.slice dx cJ.length dy,.slice dG cZ.length dH,.int .i64 bw,.string bx,.bool bz]) ?_ 6 _ rfl; (with_reducible repeat (first | refine zj ?_ _ | refine zl ?_ | refine zk ?_ _)); refine zp (cs := #[.int .i64 cn,.int .i64 cv,.int .i64 cB,.int .i64 cI,.slice dx cJ.length dy,.slice bn bd.length bo,.int .i64 bw,.string bx,.bool bz]) ?_ 5 _ rfl; (with_reducible repeat (first | refine zj ?_ _ | refine zl ?_ | refine zk ?_ _)); refine zp (cs := #[.int .i64 cn,.int .i64 cv,.int .i64 cB,.int .i64 cI,.slice bl bc.length bm,.slice bn bd.length bo,.int .i64 bw,.string bx,.bool bz]) ?_ 4 _ rfl; (with_reducible repeat (first | refine zj ?_ _ | refine zl ?_ | refine zk ?_ _)); refine zp (cs := #[.int .i64 cn,.int .i64 cv,.int .i64 cB,.int .i64 bv,.slice bl bc.length bm,.slice bn bd.length bo,.int .i64 bw,.string bx,.bool bz]) ?_ 3 _ rfl; (with_reducible repeat (first | refine zj ?_ _ | refine zl ?_ | refine zk ?_ _)); refine zp (cs := #[.int .i64 cn,.int .i64 cv,.int .i64 bu,.int .i64 bv,.slice bl bc.length bm,.slice bn bd.length bo,.int .i64 bw,.string bx,.bool bz]) ?_ 2 _ rfl; (with_reducible repeat (first | refine zj ?_ _ | refine zl ?_ | refine zk ?_ _)); refine zp (cs := #[.int .i64 cn,.int .i64 bt,.int .i64 bu,.int .i64 bv,.slice bl bc.length bm,.slice bn bd.length bo,.int .i64 bw,.string bx,.bool bz]) ?_ 1 _ rfl; (with_reducible repeat (first | refine zj ?_ _ | refine zl ?_ | refine zk ?_ _)); refine zp (cs := #[.int .i64 bs,.int .i64 bt,.int .i64 bu,.int .i64 bv,.slice bl bc.length bm,.slice bn bd.length bo,.int .i64 bw,.string bx,.bool bz]) ?_ 0 _ rfl; (with_reducible repeat (first | refine zj ?_ _ | refine zl ?_ | refine zk ?_ _)); exact ab.out⟩,⟨by repeat (first | (with_reducible first | exact HB.out | apply Zq | apply Zp | apply Zo | refine Zn ?_ aJ.out | refine Zn ?_ ba.out) | exact HB.out)⟩⟩
   ·
    rw [if_neg er] at H
    exact absurd H (by simp)
  ·
   rw [if_neg ep] at H
   exact absurd H (by simp)
 case rest =>
  clear fZ
  try clear c1
  try clear c2
  try clear p2
  try clear gv
  try clear gw
  try clear ep
  try clear eJ
  try clear eK
  try clear er
  try clear eL
  try clear eM
  try clear gx
  try clear gy
  try clear gz
  try clear dV
  try clear dW
  try clear dX
  try clear dY
  try clear dZ
  try clear ea
  try clear eb
  try clear ec
  try clear ed
  try clear et
  try clear eu
  try clear ev
  try clear ew
  try clear ex
  try clear ee
  try clear ef
  try clear eg
  try clear eh
  try clear ei
  try clear ej
  try clear ek
  try clear el
  try clear em
  try clear ey
  try clear ez
  try clear eA
  try clear eB
  try clear eC
  obtain ⟨kq,dg,cH,bZ,bQ,bJ,bI,bk,bg,bb,aT,aP,aK,aL,rfl,rfl,HA,HJ2,HO_398002,HO_398003,HO_413004,HO_413005,ad,ab,HB⟩ := hcut
  cases kq with
  | zero => exact absurd HA.out (by simp [L_takes.j0])
  | succ gb =>
   have H := HA.out
   clear HA
   simp only [L_takes.j0] at H
   have fc := zzk H
   clear H
   go_upto_region 4 with (fail)
   go_cut [6,7] (fun v6 v7 wc => ∃ (kq : Nat) (cN : Bool) (cE : Int) (aD : Int) (ay : Int) (aw : Int) (av : Int) (al : List Int) (aj : List Int) (ap : Int) (ao : ByteArray) (an : Bool) (aK : Value) (aL : Value),v6 = .bool cN ∧ v7 = .int .i64 cE ∧ Aside0 (L_takes.j1 kq cA dg cH cN cE ar au ah ai ak aD ay aw av al aj ap ao an = some r) ∧ Aside0 (kq ≤ gb) ∧ Aside0 (Kd.R (Kd.int .i64) 3 wc w.heap.size (fun k_ => some k_ ≠ ((.slice aC ai.length aA) : Value).ownBlock ∧ some k_ ≠ (aK : Value).ownBlock ∧ some k_ ≠ (aL : Value).ownBlock) (.slice aB ah.length ax) ah) ∧ Aside0 (Kd.R (Kd.int .i64) 3 wc w.heap.size (fun k_ => some k_ ≠ ((.slice aB ah.length ax) : Value).ownBlock ∧ some k_ ≠ (aK : Value).ownBlock ∧ some k_ ≠ (aL : Value).ownBlock) (.slice aC ai.length aA) ai) ∧ Aside0 (Kd.R (Kd.int .i64) 3 wc w.heap.size (fun k_ => some k_ ≠ ((.slice aB ah.length ax) : Value).ownBlock ∧ some k_ ≠ ((.slice aC ai.length aA) : Value).ownBlock ∧ some k_ ≠ (aL : Value).ownBlock) aK al) ∧ Aside0 (Kd.R (Kd.int .i64) 3 wc w.heap.size (fun k_ => some k_ ≠ ((.slice aB ah.length ax) : Value).ownBlock ∧ some k_ ≠ ((.slice aC ai.length aA) : Value).ownBlock ∧ some k_ ≠ (aK : Value).ownBlock) aL aj) ∧ Aside0 (wc.heap[af]? = some (.cells #[.int .i64 ar,.int .i64 au,(.slice aB ah.length ax),(.slice aC ai.length aA),.string ak] 26 (0,0))) ∧ Aside0 (wc.heap[aa]? = some (.cells #[.int .i64 aD,.int .i64 ay,.int .i64 aw,.int .i64 av,aK,aL,.int .i64 ap,.string ao,.bool an] 34 (0,0))) ∧ Aside0 (Below w.heap.size w wc))
   case first =>
    have H := fc.out
    clear fc
    by_cases eD : 0 ≤ 96
    ·
     rw [if_pos eD] at H
     have fl := eq_true eD
     have fm : decide (0 ≤ 96) = true := zzn eD
     clear eD
     by_cases eE : 96 ≤ (ak.size : Int)
     ·
      rw [if_pos eE] at H
      have fn := eq_true eE
      have fo : decide (96 ≤ (ak.size : Int)) = true := zzn eE
      clear eE
      replace H := Option.bind_eq_some_iff.mp H
      obtain ⟨⟨co,cw,cC,cK,cL,da,dz,dI,dR,fd,fe⟩,gc,H⟩ := H
      replace H : (L_takes.j1 gb cA dg cH fd fe ar au ah ai ak co cw cC cK cL da dz dI dR) = some r := H
      have ia := zzk gc
      clear gc
      have H' := zzk H
      clear H
      try go_wp2
      have aQ := zzk (zs HO_398002.out)
      have aR := zzk (zs HO_398003.out)
      have aS := zzk (zs HO_413004.out)
      have aV := zzk (zs HO_413005.out)
      have aW := zzk (zl ad.out)
      have aX := zzk (zl ab.out)
      have bh := zzk (Zo HB.out)
      clear HO_398002
      clear HO_398003
      clear HO_413004
      clear HO_413005
      clear ad
      clear ab
      clear HB
      have HO_398002 := aQ
      have HO_398003 := aR
      have HO_413004 := aS
      have HO_413005 := aV
      have ad := aW
      have ab := aX
      have HB := bh
      clear aQ aR aS aV aW aX bh
      obtain ⟨dA,dB,eo37⟩ := zz HO_413004.out
      (first | subst eo37 | (injection eo37 with f1_ f2_ f3_; have f4_ := f1_.symm; have f5_ := f3_.symm; clear f1_ f2_ f3_; subst f4_; subst f5_))
      obtain ⟨dh,di,eo38⟩ := zz HO_413005.out
      (first | subst eo38 | (injection eo38 with f1_ f2_ f3_; have f4_ := f1_.symm; have f5_ := f3_.symm; clear f1_ f2_ f3_; subst f4_; subst f5_))
      refine start_ (n := 12) (S := fun w' => w'.cell? ⟨aa,0,none⟩ = some (.int .i64 bZ) ∧ w'.cell? ⟨aa,1,none⟩ = some (.int .i64 bQ) ∧ w'.cell? ⟨aa,2,none⟩ = some (.int .i64 bJ) ∧ w'.cell? ⟨aa,3,none⟩ = some (.int .i64 bI) ∧ w'.cell? ⟨aa,4,none⟩ = some (.slice dA bk.length dB) ∧ w'.cell? ⟨aa,5,none⟩ = some (.slice dh bg.length di) ∧ w'.cell? ⟨aa,6,none⟩ = some (.int .i64 bb) ∧ w'.cell? ⟨aa,7,none⟩ = some (.string aT) ∧ w'.cell? ⟨aa,8,none⟩ = some (.bool aP) ∧ w'.cell? ⟨af,0,none⟩ = some (.int .i64 ar) ∧ w'.cell? ⟨af,1,none⟩ = some (.int .i64 au) ∧ w'.cell? ⟨af,2,none⟩ = some (.slice aB ah.length ax) ∧ w'.cell? ⟨af,3,none⟩ = some (.slice aC ai.length aA) ∧ w'.cell? ⟨af,4,none⟩ = some (.string ak)) (ds := [9]) z34B0 (by kernel_rfl) rfl rfl ⟨(zi ab.out 0).trans rfl,(zi ab.out 1).trans rfl,(zi ab.out 2).trans rfl,(zi ab.out 3).trans rfl,(zi ab.out 4).trans rfl,(zi ab.out 5).trans rfl,(zi ab.out 6).trans rfl,(zi ab.out 7).trans rfl,(zi ab.out 8).trans rfl,(zi ad.out 0).trans rfl,(zi ad.out 1).trans rfl,(zi ad.out 2).trans rfl,(zi ad.out 3).trans rfl,(zi ad.out 4).trans rfl⟩ (fun hHeld => ?_); refine with_tabW L_takes.tab4 L_takes.bits4 (fun HT_ HW_ => ?_)
      generalize wc.drew = jn at HO_398002 HO_398003 HO_413004 HO_413005 ad ab HB hHeld ⊢
      refine pure_ (i := 1) (N := some 31) (v := ?_) (a' := ?_) z34B1 rfl rfl (Zu HT_.out (by kernel_rfl)) (fun _ _ _ h => h) (Or.inl ⟨by rfl,?_⟩) ?_ ?_
      rotate_left
      ·
       intro w'
       go_simp
       with_reducible rfl
      rotate_left
      ·
       simp only [Act.put,za,zb,zc,Zv,Zw]
       rfl
      refine take_ (i := 0) (N := some 30) (v := ?_) (a' := ?_) z34B2 rfl rfl (take_ofW HT_.out HW_.out (by kernel_rfl)) (fun _ _ _ h => h) (Or.inl ⟨by rfl,?_⟩) hHeld ?_ ?_
      rotate_left
      ·
       rintro w' ⟨s0,s1,s2,s3,s4,s5,s6,s7,s8,s9,eN,eO,eP,eQ⟩
       go_simp
       with_reducible rfl
      rotate_left
      ·
       simp only [Act.put,za,zb,zc,Zv,Zw]
       rfl
      refine take_ (i := 2) (N := some 32) (v := ?_) (a' := ?_) z34B3 rfl rfl (take_ofW HT_.out HW_.out (by kernel_rfl)) (fun _ _ _ h => h) (Or.inl ⟨by rfl,?_⟩) hHeld ?_ ?_
      rotate_left
      ·
       rintro w' ⟨s0,s1,s2,s3,s4,s5,s6,s7,s8,s9,eN,eO,eP,eQ⟩
       go_simp
       with_reducible rfl
      rotate_left
      ·
       simp only [Act.put,za,zb,zc,Zv,Zw]
       rfl
      refine pure_ (i := 3) (N := some 33) (v := ?_) (a' := ?_) z34B4 rfl rfl (Zu HT_.out (by kernel_rfl)) (fun _ _ _ h => h) (Or.inl ⟨by rfl,?_⟩) ?_ ?_
      rotate_left
      ·
       intro w'
       go_simp
       with_reducible rfl
      rotate_left
      ·
       simp only [Act.put,za,zb,zc,Zv,Zw]
       rfl
      refine one_ (i := 4) (N := some 34) z34B5 rfl rfl (one_of HT_.out (by kernel_rfl)) (by decide) (fun K hK => ?_)
      refine goes_ Try.func22 (by kernel_rfl) rfl #[.agg #[.int .i64 bZ,.int .i64 bQ,.int .i64 bJ,.int .i64 bI,.slice dA bk.length dB,.slice dh bg.length di,.int .i64 bb,.string aT,.bool aP],.int .i64 0,.string (ak.extract 0 96)] (by rfl) rfl rfl (by (try simp only [zd,ze,zf]); first | done | rfl | (simp only [zg,zh]; rfl)) ?_
      with_reducible refine (chunk_Take.calls gb bZ bQ bJ bI _ _ bk _ _ bg bb aT aP 0 (ak.extract 0 96) co cw cC cK cL da dz dI dR fd fe _ ?side1 ?side2 ?side3 ?side4 ia.out).mono ?_
      (case side1 => repeat (first | exact (zw HO_413004.out).2.2 | (with_reducible refine Zk ?_ _) | (with_reducible refine Zj ?_ _) | (with_reducible refine Zl ?_)))
      (case side2 => exact (zw HO_413004.out).2.1)
      (case side3 => repeat (first | exact (zw HO_413005.out).2.2 | (with_reducible refine Zk ?_ _) | (with_reducible refine Zj ?_ _) | (with_reducible refine Zl ?_)))
      (case side4 => exact (zw HO_413005.out).2.1)
      rintro e dT ⟨jd,je,rfl,ho0,ho1,hb⟩
      refine ⟨_,rfl,?_⟩
      have aQ := zzk (zx (Zc (Zc (Kd.R_old (by (with_reducible repeat (first | apply zu | apply zt | apply zs)); exact HO_398002.out) hb) (Zd ho0)) (Zd ho1)) (fun _ h_ => h_.1))
      have aR := zzk (zx (Zc (Zc (Kd.R_old (by (with_reducible repeat (first | apply zu | apply zt | apply zs)); exact HO_398003.out) hb) (Zd ho0)) (Zd ho1)) (fun _ h_ => h_.1))
      have aS := zzk (zx (Zc (Zc (Kd.R_old (by (with_reducible repeat (first | apply zu | apply zt | apply zs)); exact HO_413004.out) hb) (Zd ho0)) (Zd ho1)) (fun _ h_ => h_.1))
      have aV := zzk (zx (Zc (Zc (Kd.R_old (by (with_reducible repeat (first | apply zu | apply zt | apply zs)); exact HO_413005.out) hb) (Zd ho0)) (Zd ho1)) (fun _ h_ => h_.1))
      have aW := zzk (Za (Zb (Zb (Zb (Zb ho0 (Kd.R_lt (by (with_reducible repeat (first | apply zu | apply zt | apply zs)); exact HO_398002.out))) (Kd.R_lt (by (with_reducible repeat (first | apply zu | apply zt | apply zs)); exact HO_398003.out))) (Kd.R_lt (by (with_reducible repeat (first | apply zu | apply zt | apply zs)); exact HO_413004.out))) (Kd.R_lt (by (with_reducible repeat (first | apply zu | apply zt | apply zs)); exact HO_413005.out))) (Zr (by repeat (first | (with_reducible first | exact HB.out | apply Zq | apply Zp | apply Zo | refine Zn ?_ aJ.out | refine Zn ?_ ba.out) | exact HB.out))))
      have aX := zzk (Za (Zb (Zb (Zb (Zb ho1 (Kd.R_lt (by (with_reducible repeat (first | apply zu | apply zt | apply zs)); exact HO_398002.out))) (Kd.R_lt (by (with_reducible repeat (first | apply zu | apply zt | apply zs)); exact HO_398003.out))) (Kd.R_lt (by (with_reducible repeat (first | apply zu | apply zt | apply zs)); exact HO_413004.out))) (Kd.R_lt (by (with_reducible repeat (first | apply zu | apply zt | apply zs)); exact HO_413005.out))) (Zr (by repeat (first | (with_reducible first | exact HB.out | apply Zq | apply Zp | apply Zo | refine Zn ?_ aJ.out | refine Zn ?_ ba.out) | exact HB.out))))
      have bh := zzk (zo (g := af) (o := .cells #[.int .i64 ar,.int .i64 au,.slice aB ah.length ax,.slice aC ai.length aA,.string ak] 26 (0,0)) (by (with_reducible repeat (first | refine zj ?_ _ | refine zl ?_ | refine zk ?_ _)); exact ad.out) hb)
      have bM := zzk (zo (g := aa) (o := .cells #[.int .i64 bZ,.int .i64 bQ,.int .i64 bJ,.int .i64 bI,.slice dA bk.length dB,.slice dh bg.length di,.int .i64 bb,.string aT,.bool aP] 34 (0,0)) (by (with_reducible repeat (first | refine zj ?_ _ | refine zl ?_ | refine zk ?_ _)); exact ab.out) hb)
      have bN := zzk (Zs (by repeat (first | (with_reducible first | exact HB.out | apply Zq | apply Zp | apply Zo | refine Zn ?_ aJ.out | refine Zn ?_ ba.out) | exact HB.out)) hb)
      clear HO_398002
      clear HO_398003
      clear HO_413004
      clear HO_413005
      clear ad
      clear ab
      clear HB
      have HO_398002 := aQ
      have HO_398003 := aR
      have HO_413004 := aS
      have HO_413005 := aV
      have fp := aW
      have fq := aX
      have ad := bh
      have ab := bM
      have HB := bN
      clear aQ aR aS aV aW aX bh bM bN
      (try clear hb)
      (try clear hb2)
      (try clear hk)
      (try clear hi)
      (try clear ho0)
      (try clear ho1)
      obtain ⟨dC,dD,eo44⟩ := zz fp.out
      (first | subst eo44 | (injection eo44 with f1_ f2_ f3_; have f4_ := f1_.symm; have f5_ := f3_.symm; clear f1_ f2_ f3_; subst f4_; subst f5_))
      obtain ⟨dJ,dK,eo46⟩ := zz fq.out
      (first | subst eo46 | (injection eo46 with f1_ f2_ f3_; have f4_ := f1_.symm; have f5_ := f3_.symm; clear f1_ f2_ f3_; subst f4_; subst f5_))
      refine hK.out _ _ ⟨(zi ab.out 0).trans rfl,(zi ab.out 1).trans rfl,(zi ab.out 2).trans rfl,(zi ab.out 3).trans rfl,(zi ab.out 4).trans rfl,(zi ab.out 5).trans rfl,(zi ab.out 6).trans rfl,(zi ab.out 7).trans rfl,(zi ab.out 8).trans rfl,(zi ad.out 0).trans rfl,(zi ad.out 1).trans rfl,(zi ad.out 2).trans rfl,(zi ad.out 3).trans rfl,(zi ad.out 4).trans rfl⟩ (fun hHeld => ?_)
      clear hK K
      refine norm_ (a' := ?_) ?_ ?_
      rotate_left
      ·
       show Act.put _ (some 34) _ = _
       simp only [Act.put,za,zb,zc,Zv,Zw]
       rfl
      refine pure_ (i := 5) (N := some 29) (v := ?_) (a' := ?_) z34B6 rfl rfl (Zu HT_.out (by kernel_rfl)) (fun _ _ _ h => h) (Or.inl ⟨by rfl,?_⟩) ?_ ?_
      rotate_left
      ·
       intro w'
       go_simp
       with_reducible rfl
      rotate_left
      ·
       simp only [Act.put,za,zb,zc,Zv,Zw]
       rfl
      refine pure_ (i := 6) (N := some 35) (v := ?_) (a' := ?_) z34B7 rfl rfl (Zu HT_.out (by kernel_rfl)) (fun _ _ _ h => h) (Or.inl ⟨by rfl,?_⟩) ?_ ?_
      rotate_left
      ·
       intro w'
       go_simp
       with_reducible rfl
      rotate_left
      ·
       simp only [Act.put,za,zb,zc,Zv,Zw]
       rfl
      refine pure_ (i := 7) (N := some 36) (v := ?_) (a' := ?_) z34B8 rfl rfl (Zu HT_.out (by kernel_rfl)) (fun _ _ _ h => h) (Or.inl ⟨by rfl,?_⟩) ?_ ?_
      rotate_left
      ·
       intro w'
       go_simp
       with_reducible rfl
      rotate_left
      ·
       simp only [Act.put,za,zb,zc,Zv,Zw]
       rfl
      refine pure_ (i := 8) (N := some 37) (v := ?_) (a' := ?_) z34B9 rfl rfl (Zu HT_.out (by kernel_rfl)) (fun _ _ _ h => h) (Or.inl ⟨by rfl,?_⟩) ?_ ?_
      rotate_left
      ·
       intro w'
       go_simp
       with_reducible rfl
      rotate_left
      ·
       simp only [Act.put,za,zb,zc,Zv,Zw]
       rfl
      refine last_ (i := 9) (N := none) z34B10 rfl rfl (one_of HT_.out (by kernel_rfl)) (by decide) (fun K hK => ?_)
      have hs40 : dT.cell? ⟨aa,0,none⟩ = some (.int .i64 bZ) := (zi ab.out 0).trans rfl
      have hfs40 := zm ab.out 0
      have hns40_0 := ac.out
      have hms40_0 := am.out
      have hs41 : dT.cell? ⟨aa,1,none⟩ = some (.int .i64 bQ) := (zi ab.out 1).trans rfl
      have hfs41 := zm ab.out 1
      have hns41_0 := ac.out
      have hms41_0 := am.out
      have hs42 : dT.cell? ⟨aa,2,none⟩ = some (.int .i64 bJ) := (zi ab.out 2).trans rfl
      have hfs42 := zm ab.out 2
      have hns42_0 := ac.out
      have hms42_0 := am.out
      have hs43 : dT.cell? ⟨aa,3,none⟩ = some (.int .i64 bI) := (zi ab.out 3).trans rfl
      have hfs43 := zm ab.out 3
      have hns43_0 := ac.out
      have hms43_0 := am.out
      have hs45 : dT.cell? ⟨aa,4,none⟩ = some (.slice dA bk.length dB) := (zi ab.out 4).trans rfl
      have hfs45 := zm ab.out 4
      have hns45_0 := ac.out
      have hms45_0 := am.out
      have hs47 : dT.cell? ⟨aa,5,none⟩ = some (.slice dh bg.length di) := (zi ab.out 5).trans rfl
      have hfs47 := zm ab.out 5
      have hns47_0 := ac.out
      have hms47_0 := am.out
      have hs48 : dT.cell? ⟨aa,6,none⟩ = some (.int .i64 bb) := (zi ab.out 6).trans rfl
      have hfs48 := zm ab.out 6
      have hns48_0 := ac.out
      have hms48_0 := am.out
      have hs49 : dT.cell? ⟨aa,7,none⟩ = some (.string aT) := (zi ab.out 7).trans rfl
      have hfs49 := zm ab.out 7
      have hns49_0 := ac.out
      have hms49_0 := am.out
      have hs50 : dT.cell? ⟨aa,8,none⟩ = some (.bool aP) := (zi ab.out 8).trans rfl
      have hfs50 := zm ab.out 8
      have hns50_0 := ac.out
      have hms50_0 := am.out
      refine skip_ (w1 := ?_) (by rfl) rfl ?_ ?_
      rotate_left
      ·
       go_simp
       rfl
      refine hK.out _ _ ?_
      clear hK K
      refine pure_ (i := 10) (N := some 6) (v := ?_) (a' := ?_) z34B11 rfl rfl (Zu HT_.out (by kernel_rfl)) (fun _ _ _ h => h) (Or.inl ⟨by rfl,?_⟩) ?_ ?_
      rotate_left
      ·
       intro w'
       go_simp
       with_reducible rfl
      rotate_left
      ·
       simp only [Act.put,za,zb,zc,Zv,Zw]
       rfl
      refine pure_ (i := 11) (N := some 7) (v := ?_) (a' := ?_) z34B12 rfl rfl (Zu HT_.out (by kernel_rfl)) (fun _ _ _ h => h) (Or.inl ⟨by rfl,?_⟩) ?_ ?_
      rotate_left
      ·
       intro w'
       go_simp
       with_reducible rfl
      rotate_left
      ·
       simp only [Act.put,za,zb,zc,Zv,Zw]
       rfl
      refine done_ (done_of HT_.out (by kernel_rfl)) ?_
      try go_wp2
      go_meet
      case rel => exact ⟨_,(fd),(fe),(co),(cw),(cC),(cK),(cL),(da),(dz),(dI),(dR),(.slice dC cL.length dD),(.slice dJ da.length dK),(by first | rfl | (simp; done) | (simp [*]; done)),(by first | rfl | (simp; done) | (simp [*]; done)),H',⟨by have := HJ2.out; first | omega | exact Nat.le_refl _⟩,⟨by (with_reducible repeat (first | apply zu | apply zt | apply zs)); exact zx (zr (p := ⟨aa,8,none⟩) (zr (p := ⟨aa,7,none⟩) (zr (p := ⟨aa,6,none⟩) (zr (p := ⟨aa,5,none⟩) (zr (p := ⟨aa,4,none⟩) (zr (p := ⟨aa,3,none⟩) (zr (p := ⟨aa,2,none⟩) (zr (p := ⟨aa,1,none⟩) (zr (p := ⟨aa,0,none⟩) (zy HO_398002.out ab.out (by decide)) (fun _ hk => hk.2) (.int .i64 co)) (fun _ hk => hk.2) (.int .i64 cw)) (fun _ hk => hk.2) (.int .i64 cC)) (fun _ hk => hk.2) (.int .i64 cK)) (fun _ hk => hk.2) (.slice dC cL.length dD)) (fun _ hk => hk.2) (.slice dJ da.length dK)) (fun _ hk => hk.2) (.int .i64 dz)) (fun _ hk => hk.2) (.string dI)) (fun _ hk => hk.2) (.bool dR)) (fun _ hk => ⟨hk.1.1.1.1,⟨hk.1.1.2,hk.1.2⟩⟩)⟩,⟨by (with_reducible repeat (first | apply zu | apply zt | apply zs)); exact zx (zr (p := ⟨aa,8,none⟩) (zr (p := ⟨aa,7,none⟩) (zr (p := ⟨aa,6,none⟩) (zr (p := ⟨aa,5,none⟩) (zr (p := ⟨aa,4,none⟩) (zr (p := ⟨aa,3,none⟩) (zr (p := ⟨aa,2,none⟩) (zr (p := ⟨aa,1,none⟩) (zr (p := ⟨aa,0,none⟩) (zy HO_398003.out ab.out (by decide)) (fun _ hk => hk.2) (.int .i64 co)) (fun _ hk => hk.2) (.int .i64 cw)) (fun _ hk => hk.2) (.int .i64 cC)) (fun _ hk => hk.2) (.int .i64 cK)) (fun _ hk => hk.2) (.slice dC cL.length dD)) (fun _ hk => hk.2) (.slice dJ da.length dK)) (fun _ hk => hk.2) (.int .i64 dz)) (fun _ hk => hk.2) (.string dI)) (fun _ hk => hk.2) (.bool dR)) (fun _ hk => ⟨hk.1.1.1.1,⟨hk.1.1.2,hk.1.2⟩⟩)⟩,⟨by (with_reducible repeat (first | apply zu | apply zt | apply zs)); exact zx (zr (p := ⟨aa,8,none⟩) (zr (p := ⟨aa,7,none⟩) (zr (p := ⟨aa,6,none⟩) (zr (p := ⟨aa,5,none⟩) (zr (p := ⟨aa,4,none⟩) (zr (p := ⟨aa,3,none⟩) (zr (p := ⟨aa,2,none⟩) (zr (p := ⟨aa,1,none⟩) (zr (p := ⟨aa,0,none⟩) (zy fp.out ab.out (by decide)) (fun _ hk => hk.2) (.int .i64 co)) (fun _ hk => hk.2) (.int .i64 cw)) (fun _ hk => hk.2) (.int .i64 cC)) (fun _ hk => hk.2) (.int .i64 cK)) (fun _ hk => hk.2) (.slice dC cL.length dD)) (fun _ hk => hk.2) (.slice dJ da.length dK)) (fun _ hk => hk.2) (.int .i64 dz)) (fun _ hk => hk.2) (.string dI)) (fun _ hk => hk.2) (.bool dR)) (fun _ hk => ⟨hk.1.1.1.1.2,⟨hk.1.1.1.2,hk.1.1.1.1.1⟩⟩)⟩,⟨by (with_reducible repeat (first | apply zu | apply zt | apply zs)); exact zx (zr (p := ⟨aa,8,none⟩) (zr (p := ⟨aa,7,none⟩) (zr (p := ⟨aa,6,none⟩) (zr (p := ⟨aa,5,none⟩) (zr (p := ⟨aa,4,none⟩) (zr (p := ⟨aa,3,none⟩) (zr (p := ⟨aa,2,none⟩) (zr (p := ⟨aa,1,none⟩) (zr (p := ⟨aa,0,none⟩) (zy fq.out ab.out (by decide)) (fun _ hk => hk.2) (.int .i64 co)) (fun _ hk => hk.2) (.int .i64 cw)) (fun _ hk => hk.2) (.int .i64 cC)) (fun _ hk => hk.2) (.int .i64 cK)) (fun _ hk => hk.2) (.slice dC cL.length dD)) (fun _ hk => hk.2) (.slice dJ da.length dK)) (fun _ hk => hk.2) (.int .i64 dz)) (fun _ hk => hk.2) (.string dI)) (fun _ hk => hk.2) (.bool dR)) (fun _ hk => ⟨hk.1.1.1.1.2,⟨hk.1.1.1.2,hk.1.1.1.1.1⟩⟩)⟩,⟨by (with_reducible repeat (first | refine zj ?_ _ | refine zl ?_ | refine zk ?_ _)); refine zn ?_ ac.out _; (with_reducible repeat (first | refine zj ?_ _ | refine zl ?_ | refine zk ?_ _)); refine zn ?_ ac.out _; (with_reducible repeat (first | refine zj ?_ _ | refine zl ?_ | refine zk ?_ _)); refine zn ?_ ac.out _; (with_reducible repeat (first | refine zj ?_ _ | refine zl ?_ | refine zk ?_ _)); refine zn ?_ ac.out _; (with_reducible repeat (first | refine zj ?_ _ | refine zl ?_ | refine zk ?_ _)); refine zn ?_ ac.out _; (with_reducible repeat (first | refine zj ?_ _ | refine zl ?_ | refine zk ?_ _)); refine zn ?_ ac.out _; (with_reducible repeat (first | refine zj ?_ _ | refine zl ?_ | refine zk ?_ _)); refine zn ?_ ac.out _; (with_reducible repeat (first | refine zj ?_ _ | refine zl ?_ | refine zk ?_ _)); refine zn ?_ ac.out _; (with_reducible repeat (first | refine zj ?_ _ | refine zl ?_ | refine zk ?_ _)); refine zn ?_ ac.out _; (with_reducible repeat (first | refine zj ?_ _ | refine zl ?_ | refine zk ?_ _)); exact ad.out⟩,⟨by (with_reducible repeat (first | refine zj ?_ _ | refine zl ?_ | refine zk ?_ _)); refine zp (cs := #[.int .i64 co,.int .i64 cw,.int .i64 cC,.int .i64 cK,.slice dC cL.length dD,.slice dJ da.length dK,.int .i64 dz,.string dI,.bool aP]) ?_ 8 _ rfl; (with_reducible repeat (first | refine zj ?_ _ | refine zl ?_ | refine zk ?_ _)); refine zp (cs := #[.int .i64 co,.int .i64 cw,.int .i64 cC,.int .i64 cK,.slice dC cL.length dD,.slice dJ da.length dK,.int .i64 dz,.string aT,.bool aP]) ?_ 7 _ rfl; (with_reducible repeat (first | refine zj ?_ _ | refine zl ?_ | refine zk ?_ _)); refine zp (cs := #[.int .i64 co,.int .i64 cw,.int .i64 cC,.int .i64 cK,.slice dC cL.length dD,.slice dJ da.length dK,.int .i64 bb,.string aT,.bool aP]) ?_ 6 _ rfl; (with_reducible repeat (first | refine zj ?_ _ | refine zl ?_ | refine zk ?_ _)); refine zp (cs := #[.int .i64 co,.int .i64 cw,.int .i64 cC,.int .i64 cK,.slice dC cL.length dD,.slice dh bg.length di,.int .i64 bb,.string aT,.bool aP]) ?_ 5 _ rfl; (with_reducible repeat (first | refine zj ?_ _ | refine zl ?_ | refine zk ?_ _)); refine zp (cs := #[.int .i64 co,.int .i64 cw,.int .i64 cC,.int .i64 cK,.slice dA bk.length dB,.slice dh bg.length di,.int .i64 bb,.string aT,.bool aP]) ?_ 4 _ rfl; (with_reducible repeat (first | refine zj ?_ _ | refine zl ?_ | refine zk ?_ _)); refine zp (cs := #[.int .i64 co,.int .i64 cw,.int .i64 cC,.int .i64 bI,.slice dA bk.length dB,.slice dh bg.length di,.int .i64 bb,.string aT,.bool aP]) ?_ 3 _ rfl; (with_reducible repeat (first | refine zj ?_ _ | refine zl ?_ | refine zk ?_ _)); refine zp (cs := #[.int .i64 co,.int .i64 cw,.int .i64 bJ,.int .i64 bI,.slice dA bk.length dB,.slice dh bg.length di,.int .i64 bb,.string aT,.bool aP]) ?_ 2 _ rfl; (with_reducible repeat (first | refine zj ?_ _ | refine zl ?_ | refine zk ?_ _)); refine zp (cs := #[.int .i64 co,.int .i64 bQ,.int .i64 bJ,.int .i64 bI,.slice dA bk.length dB,.slice dh bg.length di,.int .i64 bb,.string aT,.bool aP]) ?_ 1 _ rfl; (with_reducible repeat (first | refine zj ?_ _ | refine zl ?_ | refine zk ?_ _)); refine zp (cs := #[.int .i64 bZ,.int .i64 bQ,.int .i64 bJ,.int .i64 bI,.slice dA bk.length dB,.slice dh bg.length di,.int .i64 bb,.string aT,.bool aP]) ?_ 0 _ rfl; (with_reducible repeat (first | refine zj ?_ _ | refine zl ?_ | refine zk ?_ _)); exact ab.out⟩,⟨by repeat (first | (with_reducible first | exact HB.out | apply Zq | apply Zp | apply Zo | refine Zn ?_ aJ.out | refine Zn ?_ ba.out) | exact HB.out)⟩⟩
     ·
      rw [if_neg eE] at H
      exact absurd H (by simp)
    ·
     rw [if_neg eD] at H
     exact absurd H (by simp)
   case rest =>
    clear fc
    try clear c1
    try clear c2
    try clear p2
    try clear c3
    try clear gv
    try clear gw
    try clear ep
    try clear eJ
    try clear eK
    try clear er
    try clear eL
    try clear eM
    try clear gx
    try clear gy
    try clear gz
    try clear eD
    try clear fl
    try clear fm
    try clear eE
    try clear fn
    try clear fo
    try clear dV
    try clear dW
    try clear dX
    try clear dY
    try clear dZ
    try clear ea
    try clear eb
    try clear ec
    try clear ed
    try clear et
    try clear eu
    try clear ev
    try clear ew
    try clear ex
    try clear ee
    try clear ef
    try clear eg
    try clear eh
    try clear ei
    try clear ej
    try clear ek
    try clear el
    try clear em
    try clear ey
    try clear ez
    try clear eA
    try clear eB
    try clear eC
    try clear p2
    obtain ⟨kq,cN,cE,aD,ay,aw,av,al,aj,ap,ao,an,aK,aL,rfl,rfl,HA,HJ31,HO_398002,HO_398003,HO_413004,HO_413005,ad,ab,HB⟩ := hcut
    cases kq with
    | zero => exact absurd HA.out (by simp [L_takes.j1])
    | succ en =>
     have H := HA.out
     clear HA
     simp only [L_takes.j1] at H
     replace H := Option.bind_eq_some_iff.mp H
     obtain ⟨⟨bq,bA,aF,aG,bK,dL⟩,gd,H⟩ := H
     replace H : (if 96 ≤ (ak.size : Int) then ((chunk_Take.f en aD ay aw av al aj ap ao an 96 (ak.extract 96 ak.size)).bind fun br => (L_takes.j2 en cA dg cH cN cE dL br.2.2.2.2.2.2.2.2.2.1 br.2.2.2.2.2.2.2.2.2.2 ar au ah ai ak br.1 br.2.1 br.2.2.1 br.2.2.2.1 br.2.2.2.2.1 br.2.2.2.2.2.1 br.2.2.2.2.2.2.1 br.2.2.2.2.2.2.2.1 br.2.2.2.2.2.2.2.2.1)) else (none)) = some r := H
     have ib := zzk gd
     clear gd
     have fg := zzk H
     clear H
     have iv := am.out
     have iw := ac.out
     have fx : wc.cell? ⟨aa,0,none⟩ = some (.int .i64 aD) := (zi ab.out 0).trans rfl
     have fy : wc.cell? ⟨aa,1,none⟩ = some (.int .i64 ay) := (zi ab.out 1).trans rfl
     have fz : wc.cell? ⟨aa,2,none⟩ = some (.int .i64 aw) := (zi ab.out 2).trans rfl
     have fA : wc.cell? ⟨aa,3,none⟩ = some (.int .i64 av) := (zi ab.out 3).trans rfl
     have fB : wc.cell? ⟨aa,4,none⟩ = some (aK) := (zi ab.out 4).trans rfl
     have fC : wc.cell? ⟨aa,5,none⟩ = some (aL) := (zi ab.out 5).trans rfl
     have fD : wc.cell? ⟨aa,6,none⟩ = some (.int .i64 ap) := (zi ab.out 6).trans rfl
     have fE : wc.cell? ⟨aa,7,none⟩ = some (.string ao) := (zi ab.out 7).trans rfl
     have fF : wc.cell? ⟨aa,8,none⟩ = some (.bool an) := (zi ab.out 8).trans rfl
     have fG := zm ab.out 0
     have fH := zm ab.out 1
     have fI := zm ab.out 2
     have fJ := zm ab.out 3
     have fK := zm ab.out 4
     have fL := zm ab.out 5
     have fM := zm ab.out 6
     have fN := zm ab.out 7
     have fO := zm ab.out 8
     obtain ⟨cd,ce,eo55⟩ := zz HO_413004.out
     subst eo55
     obtain ⟨bW,bX,eo56⟩ := zz HO_413005.out
     subst eo56
     go_upto_region 6 with (first | ((with_reducible refine zza (f := 24) rfl ?_); refine zzd (some 40) rfl rfl Try.func24 (by kernel_rfl) rfl #[.agg #[.int .i64 aD,.int .i64 ay,.int .i64 aw,.int .i64 av,.slice cd al.length ce,.slice bW aj.length bX,.int .i64 ap,.string ao,.bool an]] rfl (by (try simp only [zd,ze,zf]); first | done | rfl | (simp only [zg,zh]; rfl)) ?_; (with_reducible refine (chunk_Whole.calls en aD ay aw av _ _ al _ _ aj ap ao an bq bA aF aG bK dL _ ?side1 ?side2 ?side3 ?side4 ib.out).mono ?_); (case side1 => repeat (first | exact (zw HO_413004.out).2.2 | (with_reducible refine Zk ?_ _) | (with_reducible refine Zj ?_ _) | (with_reducible refine Zl ?_))); (case side2 => exact (zw HO_413004.out).2.1); (case side3 => repeat (first | exact (zw HO_413005.out).2.2 | (with_reducible refine Zk ?_ _) | (with_reducible refine Zj ?_ _) | (with_reducible refine Zl ?_))); (case side4 => exact (zw HO_413005.out).2.1); rintro e jo ⟨jf,jg,rfl,ho0,ho1,hb⟩; refine ⟨_,rfl,?_⟩; have aQ := zzk (zx (Zc (Zc (Kd.R_old (by (with_reducible repeat (first | apply zu | apply zt | apply zs)); exact HO_398002.out) hb) (Zd ho0)) (Zd ho1)) (fun _ h_ => h_.1)); have aR := zzk (zx (Zc (Zc (Kd.R_old (by (with_reducible repeat (first | apply zu | apply zt | apply zs)); exact HO_398003.out) hb) (Zd ho0)) (Zd ho1)) (fun _ h_ => h_.1)); have aS := zzk (zx (Zc (Zc (Kd.R_old (by (with_reducible repeat (first | apply zu | apply zt | apply zs)); exact HO_413004.out) hb) (Zd ho0)) (Zd ho1)) (fun _ h_ => h_.1)); have aV := zzk (zx (Zc (Zc (Kd.R_old (by (with_reducible repeat (first | apply zu | apply zt | apply zs)); exact HO_413005.out) hb) (Zd ho0)) (Zd ho1)) (fun _ h_ => h_.1)); have aW := zzk (Za (Zb (Zb (Zb (Zb ho0 (Kd.R_lt (by (with_reducible repeat (first | apply zu | apply zt | apply zs)); exact HO_398002.out))) (Kd.R_lt (by (with_reducible repeat (first | apply zu | apply zt | apply zs)); exact HO_398003.out))) (Kd.R_lt (by (with_reducible repeat (first | apply zu | apply zt | apply zs)); exact HO_413004.out))) (Kd.R_lt (by (with_reducible repeat (first | apply zu | apply zt | apply zs)); exact HO_413005.out))) (Zr (by repeat (first | (with_reducible first | exact HB.out | apply Zq | apply Zp | apply Zo | refine Zn ?_ aJ.out | refine Zn ?_ ba.out) | exact HB.out)))); have aX := zzk (Za (Zb (Zb (Zb (Zb ho1 (Kd.R_lt (by (with_reducible repeat (first | apply zu | apply zt | apply zs)); exact HO_398002.out))) (Kd.R_lt (by (with_reducible repeat (first | apply zu | apply zt | apply zs)); exact HO_398003.out))) (Kd.R_lt (by (with_reducible repeat (first | apply zu | apply zt | apply zs)); exact HO_413004.out))) (Kd.R_lt (by (with_reducible repeat (first | apply zu | apply zt | apply zs)); exact HO_413005.out))) (Zr (by repeat (first | (with_reducible first | exact HB.out | apply Zq | apply Zp | apply Zo | refine Zn ?_ aJ.out | refine Zn ?_ ba.out) | exact HB.out)))); have bh := zzk (zo (g := af) (o := .cells #[.int .i64 ar,.int .i64 au,.slice aB ah.length ax,.slice aC ai.length aA,.string ak] 26 (0,0)) (by (with_reducible repeat (first | refine zj ?_ _ | refine zl ?_ | refine zk ?_ _)); exact ad.out) hb); have bM := zzk (zo (g := aa) (o := .cells #[.int .i64 aD,.int .i64 ay,.int .i64 aw,.int .i64 av,.slice cd al.length ce,.slice bW aj.length bX,.int .i64 ap,.string ao,.bool an] 34 (0,0)) (by (with_reducible repeat (first | refine zj ?_ _ | refine zl ?_ | refine zk ?_ _)); exact ab.out) hb); have bN := zzk (Zs (by repeat (first | (with_reducible first | exact HB.out | apply Zq | apply Zp | apply Zo | refine Zn ?_ aJ.out | refine Zn ?_ ba.out) | exact HB.out)) hb); clear HO_398002; clear HO_398003; clear HO_413004; clear HO_413005; clear ad; clear ab; clear HB; have HO_398002 := aQ; have HO_398003 := aR; have HO_413004 := aS; have HO_413005 := aV; have ca := aW; have cb := aX; have ad := bh; have ab := bM; have HB := bN; clear aQ aR aS aV aW aX bh bM bN; (try clear hb); (try clear hb2); (try clear hk); (try clear hi); (try clear ho0); (try clear ho1)) | ((with_reducible refine Zy (N := 8) rfl ?_); refine zzc ?hg (N := 8) ?hd (cs := #[.int .i64 0,.int .i64 0,.slice none 0 0,.slice none 0 0,.string (⟨#[]⟩ : ByteArray)]) (t := 26) ?hr ?_; (case hd => rfl); (case hg => rfl); (case hr => first | (go_simp; done) | (go_simp; rfl)); intro ae hg cM hbox hb; have aQ := zzk (zv (by (with_reducible repeat (first | apply zu | apply zt | apply zs)); exact HO_398002.out) hb); have aR := zzk (zv (by (with_reducible repeat (first | apply zu | apply zt | apply zs)); exact HO_398003.out) hb); have aS := zzk (zv (by (with_reducible repeat (first | apply zu | apply zt | apply zs)); exact HO_413004.out) hb); have aV := zzk (zv (by (with_reducible repeat (first | apply zu | apply zt | apply zs)); exact HO_413005.out) hb); have aW := zzk (zv (by (with_reducible repeat (first | apply zu | apply zt | apply zs)); exact ca.out) hb); have aX := zzk (zv (by (with_reducible repeat (first | apply zu | apply zt | apply zs)); exact cb.out) hb); have bh := zzk (zo (g := af) (o := .cells #[.int .i64 ar,.int .i64 au,.slice aB ah.length ax,.slice aC ai.length aA,.string ak] 26 (0,0)) (by (with_reducible repeat (first | refine zj ?_ _ | refine zl ?_ | refine zk ?_ _)); exact ad.out) hb); have bM := zzk (zo (g := aa) (o := .cells #[.int .i64 aD,.int .i64 ay,.int .i64 aw,.int .i64 av,.slice cd al.length ce,.slice bW aj.length bX,.int .i64 ap,.string ao,.bool an] 34 (0,0)) (by (with_reducible repeat (first | refine zj ?_ _ | refine zl ?_ | refine zk ?_ _)); exact ab.out) hb); have bN := zzk (Zs (by repeat (first | (with_reducible first | exact HB.out | apply Zq | apply Zp | apply Zo | refine Zn ?_ aJ.out | refine Zn ?_ ba.out) | exact HB.out)) hb); have ch := zzk (hbox); have ci := zzk ((by rw [hg]; exact (Zr (by repeat (first | (with_reducible first | exact HB.out | apply Zq | apply Zp | apply Zo | refine Zn ?_ aJ.out | refine Zn ?_ ba.out) | exact HB.out))) : w.heap.size ≤ ae)); have cx := zzk ((by rw [hg]; exact (Zr (by repeat (first | (with_reducible first | exact HB.out | apply Zq | apply Zp | apply Zo | refine Zn ?_ aJ.out | refine Zn ?_ ba.out) | exact HB.out))) : w.heap.size ≤ ae)); have dM := zzk ((by rw [hg]; exact Nat.ne_of_lt (zq (g := af) (o := .cells #[.int .i64 ar,.int .i64 au,.slice aB ah.length ax,.slice aC ai.length aA,.string ak] 26 (0,0)) (by (with_reducible repeat (first | refine zj ?_ _ | refine zl ?_ | refine zk ?_ _)); exact ad.out)) : af ≠ ae)); have eF := zzk ((by rw [hg]; exact Nat.ne_of_gt (zq (g := af) (o := .cells #[.int .i64 ar,.int .i64 au,.slice aB ah.length ax,.slice aC ai.length aA,.string ak] 26 (0,0)) (by (with_reducible repeat (first | refine zj ?_ _ | refine zl ?_ | refine zk ?_ _)); exact ad.out)) : ae ≠ af)); have eG := zzk ((by rw [hg]; exact Nat.ne_of_lt (zq (g := aa) (o := .cells #[.int .i64 aD,.int .i64 ay,.int .i64 aw,.int .i64 av,.slice cd al.length ce,.slice bW aj.length bX,.int .i64 ap,.string ao,.bool an] 34 (0,0)) (by (with_reducible repeat (first | refine zj ?_ _ | refine zl ?_ | refine zk ?_ _)); exact ab.out)) : aa ≠ ae)); have eH := zzk ((by rw [hg]; exact Nat.ne_of_gt (zq (g := aa) (o := .cells #[.int .i64 aD,.int .i64 ay,.int .i64 aw,.int .i64 av,.slice cd al.length ce,.slice bW aj.length bX,.int .i64 ap,.string ao,.bool an] 34 (0,0)) (by (with_reducible repeat (first | refine zj ?_ _ | refine zl ?_ | refine zk ?_ _)); exact ab.out)) : ae ≠ aa)); clear HO_398002; clear HO_398003; clear HO_413004; clear HO_413005; clear ca; clear cb; clear ad; clear ab; clear HB; have HO_398002 := aQ; have HO_398003 := aR; have HO_413004 := aS; have HO_413005 := aV; have ca := aW; have cb := aX; have ad := bh; have ab := bM; have HB := bN; have az := ch; have ix := ci; have cl := cx; have cj := dM; have es := eF; have aU := eG; have aE := eH; clear aQ aR aS aV aW aX bh bM bN ch ci cx dM eF eG eH; clear hb hbox hg; have iy := es.out; have iz := cj.out; have iA := aE.out; have iB := aU.out; have fP : cM.cell? ⟨ae,0,none⟩ = some (.int .i64 0) := (zi az.out 0).trans rfl; have fQ : cM.cell? ⟨ae,1,none⟩ = some (.int .i64 0) := (zi az.out 1).trans rfl; have fR : cM.cell? ⟨ae,2,none⟩ = some (.slice none 0 0) := (zi az.out 2).trans rfl; have fS : cM.cell? ⟨ae,3,none⟩ = some (.slice none 0 0) := (zi az.out 3).trans rfl; have fT : cM.cell? ⟨ae,4,none⟩ = some (.string (⟨#[]⟩ : ByteArray)) := (zi az.out 4).trans rfl; have fU := zm az.out 0; have fV := zm az.out 1; have fW := zm az.out 2; have fX := zm az.out 3; have fY := zm az.out 4; obtain ⟨aH,aI,eo62⟩ := zz ca.out; subst eo62; obtain ⟨aM,aN,eo63⟩ := zz cb.out; subst eo63))
     (try simp only [Act.put,za,zb,zc])
     go_cut [10,11] (fun ic ie wc => ∃ (kq : Nat) (db : Bool) (dc : Int) (bB : Int) (bC : Int) (bD : Int) (bE : Int) (aY : List Int) (aZ : List Int) (bF : Int) (bG : ByteArray) (bH : Bool) (aK : Value) (aL : Value),ic = .bool db ∧ ie = .int .i64 dc ∧ Aside0 (L_takes.j2 kq cA dg cH cN cE dL db dc ar au ah ai ak bB bC bD bE aY aZ bF bG bH = some r) ∧ Aside0 (kq ≤ en) ∧ Aside0 (Kd.R (Kd.int .i64) 3 wc w.heap.size (fun k_ => some k_ ≠ ((.slice aC ai.length aA) : Value).ownBlock ∧ some k_ ≠ (aK : Value).ownBlock ∧ some k_ ≠ (aL : Value).ownBlock ∧ some k_ ≠ ((.slice aH aF.length aI) : Value).ownBlock ∧ some k_ ≠ ((.slice aM aG.length aN) : Value).ownBlock) (.slice aB ah.length ax) ah) ∧ Aside0 (Kd.R (Kd.int .i64) 3 wc w.heap.size (fun k_ => some k_ ≠ ((.slice aB ah.length ax) : Value).ownBlock ∧ some k_ ≠ (aK : Value).ownBlock ∧ some k_ ≠ (aL : Value).ownBlock ∧ some k_ ≠ ((.slice aH aF.length aI) : Value).ownBlock ∧ some k_ ≠ ((.slice aM aG.length aN) : Value).ownBlock) (.slice aC ai.length aA) ai) ∧ Aside0 (Kd.R (Kd.int .i64) 3 wc w.heap.size (fun k_ => some k_ ≠ ((.slice aB ah.length ax) : Value).ownBlock ∧ some k_ ≠ ((.slice aC ai.length aA) : Value).ownBlock ∧ some k_ ≠ (aL : Value).ownBlock ∧ some k_ ≠ ((.slice aH aF.length aI) : Value).ownBlock ∧ some k_ ≠ ((.slice aM aG.length aN) : Value).ownBlock) aK aY) ∧ Aside0 (Kd.R (Kd.int .i64) 3 wc w.heap.size (fun k_ => some k_ ≠ ((.slice aB ah.length ax) : Value).ownBlock ∧ some k_ ≠ ((.slice aC ai.length aA) : Value).ownBlock ∧ some k_ ≠ (aK : Value).ownBlock ∧ some k_ ≠ ((.slice aH aF.length aI) : Value).ownBlock ∧ some k_ ≠ ((.slice aM aG.length aN) : Value).ownBlock) aL aZ) ∧ Aside0 (Kd.R (Kd.int .i64) 3 wc w.heap.size (fun k_ => some k_ ≠ ((.slice aB ah.length ax) : Value).ownBlock ∧ some k_ ≠ ((.slice aC ai.length aA) : Value).ownBlock ∧ some k_ ≠ (aK : Value).ownBlock ∧ some k_ ≠ (aL : Value).ownBlock ∧ some k_ ≠ ((.slice aM aG.length aN) : Value).ownBlock) (.slice aH aF.length aI) aF) ∧ Aside0 (Kd.R (Kd.int .i64) 3 wc w.heap.size (fun k_ => some k_ ≠ ((.slice aB ah.length ax) : Value).ownBlock ∧ some k_ ≠ ((.slice aC ai.length aA) : Value).ownBlock ∧ some k_ ≠ (aK : Value).ownBlock ∧ some k_ ≠ (aL : Value).ownBlock ∧ some k_ ≠ ((.slice aH aF.length aI) : Value).ownBlock) (.slice aM aG.length aN) aG) ∧ Aside0 (wc.heap[af]? = some (.cells #[.int .i64 ar,.int .i64 au,(.slice aB ah.length ax),(.slice aC ai.length aA),.string ak] 26 (0,0))) ∧ Aside0 (wc.heap[aa]? = some (.cells #[.int .i64 bB,.int .i64 bC,.int .i64 bD,.int .i64 bE,aK,aL,.int .i64 bF,.string bG,.bool bH] 34 (0,0))) ∧ Aside0 (wc.heap[ae]? = some (.cells #[.int .i64 bq,.int .i64 bA,(.slice aH aF.length aI),(.slice aM aG.length aN),.string bK] 26 (0,0))) ∧ Aside0 (Below w.heap.size w wc))
     case first =>
      have H := fg.out
      clear fg
      by_cases eI : 96 ≤ (ak.size : Int)
      ·
       rw [if_pos eI] at H
       have gq := eq_true eI
       have gr : decide (96 ≤ (ak.size : Int)) = true := zzn eI
       clear eI
       replace H := Option.bind_eq_some_iff.mp H
       obtain ⟨⟨ck,cm,cp,cy,cz,cD,dd,dj,dE,fh,fi⟩,gf,H⟩ := H
       replace H : (L_takes.j2 en cA dg cH cN cE dL fh fi ar au ah ai ak ck cm cp cy cz cD dd dj dE) = some r := H
       have ig := zzk gf
       clear gf
       have H' := zzk H
       clear H
       try go_wp2
       have aQ : Aside0 (Kd.R (Kd.int .i64) 3 (((((cM.setCell ⟨ae,0,none⟩ (.int .i64 bq)).setCell ⟨ae,1,none⟩ (.int .i64 bA)).setCell ⟨ae,2,none⟩ (.slice aH aF.length aI)).setCell ⟨ae,3,none⟩ (.slice aM aG.length aN)).setCell ⟨ae,4,none⟩ (.string bK)) w.heap.size (fun k_ => some k_ ≠ (.slice aC ai.length aA : Value).ownBlock ∧ some k_ ≠ (.slice cd al.length ce : Value).ownBlock ∧ some k_ ≠ (.slice bW aj.length bX : Value).ownBlock ∧ some k_ ≠ (.slice aH aF.length aI : Value).ownBlock ∧ some k_ ≠ (.slice aM aG.length aN : Value).ownBlock) (.slice aB ah.length ax) ah) := ⟨by (with_reducible repeat (first | apply zu | apply zt | apply zs)); exact zx (zr (p := ⟨ae,4,none⟩) (zr (p := ⟨ae,3,none⟩) (zr (p := ⟨ae,2,none⟩) (zr (p := ⟨ae,1,none⟩) (zr (p := ⟨ae,0,none⟩) (zy HO_398002.out az.out (by decide)) (fun _ hk => hk.2) (.int .i64 bq)) (fun _ hk => hk.2) (.int .i64 bA)) (fun _ hk => hk.2) (.slice aH aF.length aI)) (fun _ hk => hk.2) (.slice aM aG.length aN)) (fun _ hk => hk.2) (.string bK)) (fun _ hk => ⟨hk.1.1.1.1,⟨hk.1.1.1.2.1,⟨hk.1.1.1.2.2,⟨hk.1.1.2,hk.1.2⟩⟩⟩⟩)⟩
       have aR : Aside0 (Kd.R (Kd.int .i64) 3 (((((cM.setCell ⟨ae,0,none⟩ (.int .i64 bq)).setCell ⟨ae,1,none⟩ (.int .i64 bA)).setCell ⟨ae,2,none⟩ (.slice aH aF.length aI)).setCell ⟨ae,3,none⟩ (.slice aM aG.length aN)).setCell ⟨ae,4,none⟩ (.string bK)) w.heap.size (fun k_ => some k_ ≠ (.slice aB ah.length ax : Value).ownBlock ∧ some k_ ≠ (.slice cd al.length ce : Value).ownBlock ∧ some k_ ≠ (.slice bW aj.length bX : Value).ownBlock ∧ some k_ ≠ (.slice aH aF.length aI : Value).ownBlock ∧ some k_ ≠ (.slice aM aG.length aN : Value).ownBlock) (.slice aC ai.length aA) ai) := ⟨by (with_reducible repeat (first | apply zu | apply zt | apply zs)); exact zx (zr (p := ⟨ae,4,none⟩) (zr (p := ⟨ae,3,none⟩) (zr (p := ⟨ae,2,none⟩) (zr (p := ⟨ae,1,none⟩) (zr (p := ⟨ae,0,none⟩) (zy HO_398003.out az.out (by decide)) (fun _ hk => hk.2) (.int .i64 bq)) (fun _ hk => hk.2) (.int .i64 bA)) (fun _ hk => hk.2) (.slice aH aF.length aI)) (fun _ hk => hk.2) (.slice aM aG.length aN)) (fun _ hk => hk.2) (.string bK)) (fun _ hk => ⟨hk.1.1.1.1,⟨hk.1.1.1.2.1,⟨hk.1.1.1.2.2,⟨hk.1.1.2,hk.1.2⟩⟩⟩⟩)⟩
       have aS : Aside0 (Kd.R (Kd.int .i64) 3 (((((cM.setCell ⟨ae,0,none⟩ (.int .i64 bq)).setCell ⟨ae,1,none⟩ (.int .i64 bA)).setCell ⟨ae,2,none⟩ (.slice aH aF.length aI)).setCell ⟨ae,3,none⟩ (.slice aM aG.length aN)).setCell ⟨ae,4,none⟩ (.string bK)) w.heap.size (fun k_ => some k_ ≠ (.slice aB ah.length ax : Value).ownBlock ∧ some k_ ≠ (.slice aC ai.length aA : Value).ownBlock ∧ some k_ ≠ (.slice bW aj.length bX : Value).ownBlock ∧ some k_ ≠ (.slice aH aF.length aI : Value).ownBlock ∧ some k_ ≠ (.slice aM aG.length aN : Value).ownBlock) (.slice cd al.length ce) al) := ⟨by (with_reducible repeat (first | apply zu | apply zt | apply zs)); exact zx (zr (p := ⟨ae,4,none⟩) (zr (p := ⟨ae,3,none⟩) (zr (p := ⟨ae,2,none⟩) (zr (p := ⟨ae,1,none⟩) (zr (p := ⟨ae,0,none⟩) (zy HO_413004.out az.out (by decide)) (fun _ hk => hk.2) (.int .i64 bq)) (fun _ hk => hk.2) (.int .i64 bA)) (fun _ hk => hk.2) (.slice aH aF.length aI)) (fun _ hk => hk.2) (.slice aM aG.length aN)) (fun _ hk => hk.2) (.string bK)) (fun _ hk => ⟨hk.1.1.1.1,⟨hk.1.1.1.2.1,⟨hk.1.1.1.2.2,⟨hk.1.1.2,hk.1.2⟩⟩⟩⟩)⟩
       have aV : Aside0 (Kd.R (Kd.int .i64) 3 (((((cM.setCell ⟨ae,0,none⟩ (.int .i64 bq)).setCell ⟨ae,1,none⟩ (.int .i64 bA)).setCell ⟨ae,2,none⟩ (.slice aH aF.length aI)).setCell ⟨ae,3,none⟩ (.slice aM aG.length aN)).setCell ⟨ae,4,none⟩ (.string bK)) w.heap.size (fun k_ => some k_ ≠ (.slice aB ah.length ax : Value).ownBlock ∧ some k_ ≠ (.slice aC ai.length aA : Value).ownBlock ∧ some k_ ≠ (.slice cd al.length ce : Value).ownBlock ∧ some k_ ≠ (.slice aH aF.length aI : Value).ownBlock ∧ some k_ ≠ (.slice aM aG.length aN : Value).ownBlock) (.slice bW aj.length bX) aj) := ⟨by (with_reducible repeat (first | apply zu | apply zt | apply zs)); exact zx (zr (p := ⟨ae,4,none⟩) (zr (p := ⟨ae,3,none⟩) (zr (p := ⟨ae,2,none⟩) (zr (p := ⟨ae,1,none⟩) (zr (p := ⟨ae,0,none⟩) (zy HO_413005.out az.out (by decide)) (fun _ hk => hk.2) (.int .i64 bq)) (fun _ hk => hk.2) (.int .i64 bA)) (fun _ hk => hk.2) (.slice aH aF.length aI)) (fun _ hk => hk.2) (.slice aM aG.length aN)) (fun _ hk => hk.2) (.string bK)) (fun _ hk => ⟨hk.1.1.1.1,⟨hk.1.1.1.2.1,⟨hk.1.1.1.2.2,⟨hk.1.1.2,hk.1.2⟩⟩⟩⟩)⟩
       have aW : Aside0 (Kd.R (Kd.int .i64) 3 (((((cM.setCell ⟨ae,0,none⟩ (.int .i64 bq)).setCell ⟨ae,1,none⟩ (.int .i64 bA)).setCell ⟨ae,2,none⟩ (.slice aH aF.length aI)).setCell ⟨ae,3,none⟩ (.slice aM aG.length aN)).setCell ⟨ae,4,none⟩ (.string bK)) w.heap.size (fun k_ => some k_ ≠ (.slice aB ah.length ax : Value).ownBlock ∧ some k_ ≠ (.slice aC ai.length aA : Value).ownBlock ∧ some k_ ≠ (.slice cd al.length ce : Value).ownBlock ∧ some k_ ≠ (.slice bW aj.length bX : Value).ownBlock ∧ some k_ ≠ (.slice aM aG.length aN : Value).ownBlock) (.slice aH aF.length aI) aF) := ⟨by (with_reducible repeat (first | apply zu | apply zt | apply zs)); exact zx (zr (p := ⟨ae,4,none⟩) (zr (p := ⟨ae,3,none⟩) (zr (p := ⟨ae,2,none⟩) (zr (p := ⟨ae,1,none⟩) (zr (p := ⟨ae,0,none⟩) (zy ca.out az.out (by decide)) (fun _ hk => hk.2) (.int .i64 bq)) (fun _ hk => hk.2) (.int .i64 bA)) (fun _ hk => hk.2) (.slice aH aF.length aI)) (fun _ hk => hk.2) (.slice aM aG.length aN)) (fun _ hk => hk.2) (.string bK)) (fun _ hk => ⟨hk.1.1.1.1.2,⟨hk.1.1.1.2,⟨hk.1.1.2,⟨hk.1.2,hk.1.1.1.1.1⟩⟩⟩⟩)⟩
       have aX : Aside0 (Kd.R (Kd.int .i64) 3 (((((cM.setCell ⟨ae,0,none⟩ (.int .i64 bq)).setCell ⟨ae,1,none⟩ (.int .i64 bA)).setCell ⟨ae,2,none⟩ (.slice aH aF.length aI)).setCell ⟨ae,3,none⟩ (.slice aM aG.length aN)).setCell ⟨ae,4,none⟩ (.string bK)) w.heap.size (fun k_ => some k_ ≠ (.slice aB ah.length ax : Value).ownBlock ∧ some k_ ≠ (.slice aC ai.length aA : Value).ownBlock ∧ some k_ ≠ (.slice cd al.length ce : Value).ownBlock ∧ some k_ ≠ (.slice bW aj.length bX : Value).ownBlock ∧ some k_ ≠ (.slice aH aF.length aI : Value).ownBlock) (.slice aM aG.length aN) aG) := ⟨by (with_reducible repeat (first | apply zu | apply zt | apply zs)); exact zx (zr (p := ⟨ae,4,none⟩) (zr (p := ⟨ae,3,none⟩) (zr (p := ⟨ae,2,none⟩) (zr (p := ⟨ae,1,none⟩) (zr (p := ⟨ae,0,none⟩) (zy cb.out az.out (by decide)) (fun _ hk => hk.2) (.int .i64 bq)) (fun _ hk => hk.2) (.int .i64 bA)) (fun _ hk => hk.2) (.slice aH aF.length aI)) (fun _ hk => hk.2) (.slice aM aG.length aN)) (fun _ hk => hk.2) (.string bK)) (fun _ hk => ⟨hk.1.1.1.1.2,⟨hk.1.1.1.2,⟨hk.1.1.2,⟨hk.1.2,hk.1.1.1.1.1⟩⟩⟩⟩)⟩
       have bh : Aside0 ((((((cM.setCell ⟨ae,0,none⟩ (.int .i64 bq)).setCell ⟨ae,1,none⟩ (.int .i64 bA)).setCell ⟨ae,2,none⟩ (.slice aH aF.length aI)).setCell ⟨ae,3,none⟩ (.slice aM aG.length aN)).setCell ⟨ae,4,none⟩ (.string bK)).heap[af]? = some (.cells #[.int .i64 ar,.int .i64 au,.slice aB ah.length ax,.slice aC ai.length aA,.string ak] 26 (0,0))) := ⟨by (with_reducible repeat (first | refine zj ?_ _ | refine zl ?_ | refine zk ?_ _)); refine zn ?_ cj.out _; (with_reducible repeat (first | refine zj ?_ _ | refine zl ?_ | refine zk ?_ _)); refine zn ?_ cj.out _; (with_reducible repeat (first | refine zj ?_ _ | refine zl ?_ | refine zk ?_ _)); refine zn ?_ cj.out _; (with_reducible repeat (first | refine zj ?_ _ | refine zl ?_ | refine zk ?_ _)); refine zn ?_ cj.out _; (with_reducible repeat (first | refine zj ?_ _ | refine zl ?_ | refine zk ?_ _)); refine zn ?_ cj.out _; (with_reducible repeat (first | refine zj ?_ _ | refine zl ?_ | refine zk ?_ _)); exact ad.out⟩
       have bM : Aside0 ((((((cM.setCell ⟨ae,0,none⟩ (.int .i64 bq)).setCell ⟨ae,1,none⟩ (.int .i64 bA)).setCell ⟨ae,2,none⟩ (.slice aH aF.length aI)).setCell ⟨ae,3,none⟩ (.slice aM aG.length aN)).setCell ⟨ae,4,none⟩ (.string bK)).heap[aa]? = some (.cells #[.int .i64 aD,.int .i64 ay,.int .i64 aw,.int .i64 av,.slice cd al.length ce,.slice bW aj.length bX,.int .i64 ap,.string ao,.bool an] 34 (0,0))) := ⟨by (with_reducible repeat (first | refine zj ?_ _ | refine zl ?_ | refine zk ?_ _)); refine zn ?_ aU.out _; (with_reducible repeat (first | refine zj ?_ _ | refine zl ?_ | refine zk ?_ _)); refine zn ?_ aU.out _; (with_reducible repeat (first | refine zj ?_ _ | refine zl ?_ | refine zk ?_ _)); refine zn ?_ aU.out _; (with_reducible repeat (first | refine zj ?_ _ | refine zl ?_ | refine zk ?_ _)); refine zn ?_ aU.out _; (with_reducible repeat (first | refine zj ?_ _ | refine zl ?_ | refine zk ?_ _)); refine zn ?_ aU.out _; (with_reducible repeat (first | refine zj ?_ _ | refine zl ?_ | refine zk ?_ _)); exact ab.out⟩
       have bN : Aside0 ((((((cM.setCell ⟨ae,0,none⟩ (.int .i64 bq)).setCell ⟨ae,1,none⟩ (.int .i64 bA)).setCell ⟨ae,2,none⟩ (.slice aH aF.length aI)).setCell ⟨ae,3,none⟩ (.slice aM aG.length aN)).setCell ⟨ae,4,none⟩ (.string bK)).heap[ae]? = some (.cells #[.int .i64 bq,.int .i64 bA,.slice aH aF.length aI,.slice aM aG.length aN,.string bK] 26 (0,0))) := ⟨by (with_reducible repeat (first | refine zj ?_ _ | refine zl ?_ | refine zk ?_ _)); refine zp (cs := #[.int .i64 bq,.int .i64 bA,.slice aH aF.length aI,.slice aM aG.length aN,.string (⟨#[]⟩ : ByteArray)]) ?_ 4 _ rfl; (with_reducible repeat (first | refine zj ?_ _ | refine zl ?_ | refine zk ?_ _)); refine zp (cs := #[.int .i64 bq,.int .i64 bA,.slice aH aF.length aI,.slice none 0 0,.string (⟨#[]⟩ : ByteArray)]) ?_ 3 _ rfl; (with_reducible repeat (first | refine zj ?_ _ | refine zl ?_ | refine zk ?_ _)); refine zp (cs := #[.int .i64 bq,.int .i64 bA,.slice none 0 0,.slice none 0 0,.string (⟨#[]⟩ : ByteArray)]) ?_ 2 _ rfl; (with_reducible repeat (first | refine zj ?_ _ | refine zl ?_ | refine zk ?_ _)); refine zp (cs := #[.int .i64 bq,.int .i64 0,.slice none 0 0,.slice none 0 0,.string (⟨#[]⟩ : ByteArray)]) ?_ 1 _ rfl; (with_reducible repeat (first | refine zj ?_ _ | refine zl ?_ | refine zk ?_ _)); refine zp (cs := #[.int .i64 0,.int .i64 0,.slice none 0 0,.slice none 0 0,.string (⟨#[]⟩ : ByteArray)]) ?_ 0 _ rfl; (with_reducible repeat (first | refine zj ?_ _ | refine zl ?_ | refine zk ?_ _)); exact az.out⟩
       have ch : Aside0 (Below w.heap.size w (((((cM.setCell ⟨ae,0,none⟩ (.int .i64 bq)).setCell ⟨ae,1,none⟩ (.int .i64 bA)).setCell ⟨ae,2,none⟩ (.slice aH aF.length aI)).setCell ⟨ae,3,none⟩ (.slice aM aG.length aN)).setCell ⟨ae,4,none⟩ (.string bK))) := ⟨by repeat (first | (with_reducible first | exact HB.out | apply Zq | apply Zp | apply Zo | refine Zn ?_ aJ.out | refine Zn ?_ ba.out | refine Zn ?_ cl.out) | exact HB.out)⟩
       (try clear HO_398002)
       (try clear HO_398003)
       (try clear HO_413004)
       (try clear HO_413005)
       (try clear ca)
       (try clear cb)
       (try clear ad)
       (try clear ab)
       (try clear az)
       (try clear HB)
       generalize (((((cM.setCell ⟨ae,0,none⟩ (.int .i64 bq)).setCell ⟨ae,1,none⟩ (.int .i64 bA)).setCell ⟨ae,2,none⟩ (.slice aH aF.length aI)).setCell ⟨ae,3,none⟩ (.slice aM aG.length aN)).setCell ⟨ae,4,none⟩ (.string bK)) = ih at aQ aR aS aV aW aX bh bM bN ch ⊢
       have HO_398002 := aQ
       have HO_398003 := aR
       have HO_413004 := aS
       have HO_413005 := aV
       have ca := aW
       have cb := aX
       have ad := bh
       have ab := bM
       have az := bN
       have HB := ch
       clear aQ aR aS aV aW aX bh bM bN ch
       have aQ := zzk (zs HO_398002.out)
       have aR := zzk (zs HO_398003.out)
       have aS := zzk (zs HO_413004.out)
       have aV := zzk (zs HO_413005.out)
       have aW := zzk (zs ca.out)
       have aX := zzk (zs cb.out)
       have bh := zzk (zl ad.out)
       have bM := zzk (zl ab.out)
       have bN := zzk (zl az.out)
       have ch := zzk (Zo HB.out)
       clear HO_398002
       clear HO_398003
       clear HO_413004
       clear HO_413005
       clear ca
       clear cb
       clear ad
       clear ab
       clear az
       clear HB
       have HO_398002 := aQ
       have HO_398003 := aR
       have HO_413004 := aS
       have HO_413005 := aV
       have ca := aW
       have cb := aX
       have ad := bh
       have ab := bM
       have az := bN
       have HB := ch
       clear aQ aR aS aV aW aX bh bM bN ch
       refine start_ (n := 12) (S := fun w' => w'.cell? ⟨aa,0,none⟩ = some (.int .i64 aD) ∧ w'.cell? ⟨aa,1,none⟩ = some (.int .i64 ay) ∧ w'.cell? ⟨aa,2,none⟩ = some (.int .i64 aw) ∧ w'.cell? ⟨aa,3,none⟩ = some (.int .i64 av) ∧ w'.cell? ⟨aa,4,none⟩ = some (.slice cd al.length ce) ∧ w'.cell? ⟨aa,5,none⟩ = some (.slice bW aj.length bX) ∧ w'.cell? ⟨aa,6,none⟩ = some (.int .i64 ap) ∧ w'.cell? ⟨aa,7,none⟩ = some (.string ao) ∧ w'.cell? ⟨aa,8,none⟩ = some (.bool an) ∧ w'.cell? ⟨af,0,none⟩ = some (.int .i64 ar) ∧ w'.cell? ⟨af,1,none⟩ = some (.int .i64 au) ∧ w'.cell? ⟨af,2,none⟩ = some (.slice aB ah.length ax) ∧ w'.cell? ⟨af,3,none⟩ = some (.slice aC ai.length aA) ∧ w'.cell? ⟨af,4,none⟩ = some (.string ak)) (ds := [9]) z34B0 (by kernel_rfl) rfl rfl ⟨(zi ab.out 0).trans rfl,(zi ab.out 1).trans rfl,(zi ab.out 2).trans rfl,(zi ab.out 3).trans rfl,(zi ab.out 4).trans rfl,(zi ab.out 5).trans rfl,(zi ab.out 6).trans rfl,(zi ab.out 7).trans rfl,(zi ab.out 8).trans rfl,(zi ad.out 0).trans rfl,(zi ad.out 1).trans rfl,(zi ad.out 2).trans rfl,(zi ad.out 3).trans rfl,(zi ad.out 4).trans rfl⟩ (fun hHeld => ?_); refine with_tabW L_takes.tab6 L_takes.bits6 (fun HT_ HW_ => ?_)
       generalize ih.drew = jp at HO_398002 HO_398003 HO_413004 HO_413005 ca cb ad ab az HB hHeld ⊢
       refine pure_ (i := 1) (N := some 45) (v := ?_) (a' := ?_) z34B1 rfl rfl (Zu HT_.out (by kernel_rfl)) (fun _ _ _ h => h) (Or.inl ⟨by rfl,?_⟩) ?_ ?_
       rotate_left
       ·
        intro w'
        go_simp
        with_reducible rfl
       rotate_left
       ·
        simp only [Act.put,za,zb,zc,Zv,Zw]
        rfl
       refine take_ (i := 0) (N := some 44) (v := ?_) (a' := ?_) z34B2 rfl rfl (take_ofW HT_.out HW_.out (by kernel_rfl)) (fun _ _ _ h => h) (Or.inl ⟨by rfl,?_⟩) hHeld ?_ ?_
       rotate_left
       ·
        rintro w' ⟨s0,s1,s2,s3,s4,s5,s6,s7,s8,s9,eN,eO,eP,eQ⟩
        go_simp
        with_reducible rfl
       rotate_left
       ·
        simp only [Act.put,za,zb,zc,Zv,Zw]
        rfl
       refine take_ (i := 2) (N := some 46) (v := ?_) (a' := ?_) z34B3 rfl rfl (take_ofW HT_.out HW_.out (by kernel_rfl)) (fun _ _ _ h => h) (Or.inl ⟨by rfl,?_⟩) hHeld ?_ ?_
       rotate_left
       ·
        rintro w' ⟨s0,s1,s2,s3,s4,s5,s6,s7,s8,s9,eN,eO,eP,eQ⟩
        go_simp
        with_reducible rfl
       rotate_left
       ·
        simp only [Act.put,za,zb,zc,Zv,Zw]
        rfl
       refine pure_ (i := 3) (N := some 47) (v := ?_) (a' := ?_) z34B4 rfl rfl (Zu HT_.out (by kernel_rfl)) (fun _ _ _ h => h) (Or.inl ⟨by rfl,?_⟩) ?_ ?_
       rotate_left
       ·
        intro w'
        go_simp
        with_reducible rfl
       rotate_left
       ·
        simp only [Act.put,za,zb,zc,Zv,Zw]
        rfl
       refine one_ (i := 4) (N := some 48) z34B5 rfl rfl (one_of HT_.out (by kernel_rfl)) (by decide) (fun K hK => ?_)
       refine goes_ Try.func22 (by kernel_rfl) rfl #[.agg #[.int .i64 aD,.int .i64 ay,.int .i64 aw,.int .i64 av,.slice cd al.length ce,.slice bW aj.length bX,.int .i64 ap,.string ao,.bool an],.int .i64 96,.string (ak.extract 96 ak.size)] (by rfl) rfl rfl (by (try simp only [zd,ze,zf]); first | done | rfl | (simp only [zg,zh]; rfl)) ?_
       with_reducible refine (chunk_Take.calls en aD ay aw av _ _ al _ _ aj ap ao an 96 (ak.extract 96 ak.size) ck cm cp cy cz cD dd dj dE fh fi _ ?side1 ?side2 ?side3 ?side4 ig.out).mono ?_
       (case side1 => repeat (first | exact (zw HO_413004.out).2.2 | (with_reducible refine Zk ?_ _) | (with_reducible refine Zj ?_ _) | (with_reducible refine Zl ?_)))
       (case side2 => exact (zw HO_413004.out).2.1)
       (case side3 => repeat (first | exact (zw HO_413005.out).2.2 | (with_reducible refine Zk ?_ _) | (with_reducible refine Zj ?_ _) | (with_reducible refine Zl ?_)))
       (case side4 => exact (zw HO_413005.out).2.1)
       rintro e dU ⟨jh,ji,rfl,ho0,ho1,hb⟩
       refine ⟨_,rfl,?_⟩
       have aQ := zzk (zx (Zc (Zc (Kd.R_old (by (with_reducible repeat (first | apply zu | apply zt | apply zs)); exact HO_398002.out) hb) (Zd ho0)) (Zd ho1)) (fun _ h_ => h_.1))
       have aR := zzk (zx (Zc (Zc (Kd.R_old (by (with_reducible repeat (first | apply zu | apply zt | apply zs)); exact HO_398003.out) hb) (Zd ho0)) (Zd ho1)) (fun _ h_ => h_.1))
       have aS := zzk (zx (Zc (Zc (Kd.R_old (by (with_reducible repeat (first | apply zu | apply zt | apply zs)); exact HO_413004.out) hb) (Zd ho0)) (Zd ho1)) (fun _ h_ => h_.1))
       have aV := zzk (zx (Zc (Zc (Kd.R_old (by (with_reducible repeat (first | apply zu | apply zt | apply zs)); exact HO_413005.out) hb) (Zd ho0)) (Zd ho1)) (fun _ h_ => h_.1))
       have aW := zzk (zx (Zc (Zc (Kd.R_old (by (with_reducible repeat (first | apply zu | apply zt | apply zs)); exact ca.out) hb) (Zd ho0)) (Zd ho1)) (fun _ h_ => h_.1))
       have aX := zzk (zx (Zc (Zc (Kd.R_old (by (with_reducible repeat (first | apply zu | apply zt | apply zs)); exact cb.out) hb) (Zd ho0)) (Zd ho1)) (fun _ h_ => h_.1))
       have bh := zzk (Za (Zb (Zb (Zb (Zb (Zb (Zb ho0 (Kd.R_lt (by (with_reducible repeat (first | apply zu | apply zt | apply zs)); exact HO_398002.out))) (Kd.R_lt (by (with_reducible repeat (first | apply zu | apply zt | apply zs)); exact HO_398003.out))) (Kd.R_lt (by (with_reducible repeat (first | apply zu | apply zt | apply zs)); exact HO_413004.out))) (Kd.R_lt (by (with_reducible repeat (first | apply zu | apply zt | apply zs)); exact HO_413005.out))) (Kd.R_lt (by (with_reducible repeat (first | apply zu | apply zt | apply zs)); exact ca.out))) (Kd.R_lt (by (with_reducible repeat (first | apply zu | apply zt | apply zs)); exact cb.out))) (Zr (by repeat (first | (with_reducible first | exact HB.out | apply Zq | apply Zp | apply Zo | refine Zn ?_ aJ.out | refine Zn ?_ ba.out | refine Zn ?_ cl.out) | exact HB.out))))
       have bM := zzk (Za (Zb (Zb (Zb (Zb (Zb (Zb ho1 (Kd.R_lt (by (with_reducible repeat (first | apply zu | apply zt | apply zs)); exact HO_398002.out))) (Kd.R_lt (by (with_reducible repeat (first | apply zu | apply zt | apply zs)); exact HO_398003.out))) (Kd.R_lt (by (with_reducible repeat (first | apply zu | apply zt | apply zs)); exact HO_413004.out))) (Kd.R_lt (by (with_reducible repeat (first | apply zu | apply zt | apply zs)); exact HO_413005.out))) (Kd.R_lt (by (with_reducible repeat (first | apply zu | apply zt | apply zs)); exact ca.out))) (Kd.R_lt (by (with_reducible repeat (first | apply zu | apply zt | apply zs)); exact cb.out))) (Zr (by repeat (first | (with_reducible first | exact HB.out | apply Zq | apply Zp | apply Zo | refine Zn ?_ aJ.out | refine Zn ?_ ba.out | refine Zn ?_ cl.out) | exact HB.out))))
       have bN := zzk (zo (g := af) (o := .cells #[.int .i64 ar,.int .i64 au,.slice aB ah.length ax,.slice aC ai.length aA,.string ak] 26 (0,0)) (by (with_reducible repeat (first | refine zj ?_ _ | refine zl ?_ | refine zk ?_ _)); exact ad.out) hb)
       have ch := zzk (zo (g := aa) (o := .cells #[.int .i64 aD,.int .i64 ay,.int .i64 aw,.int .i64 av,.slice cd al.length ce,.slice bW aj.length bX,.int .i64 ap,.string ao,.bool an] 34 (0,0)) (by (with_reducible repeat (first | refine zj ?_ _ | refine zl ?_ | refine zk ?_ _)); exact ab.out) hb)
       have ci := zzk (zo (g := ae) (o := .cells #[.int .i64 bq,.int .i64 bA,.slice aH aF.length aI,.slice aM aG.length aN,.string bK] 26 (0,0)) (by (with_reducible repeat (first | refine zj ?_ _ | refine zl ?_ | refine zk ?_ _)); exact az.out) hb)
       have cx := zzk (Zs (by repeat (first | (with_reducible first | exact HB.out | apply Zq | apply Zp | apply Zo | refine Zn ?_ aJ.out | refine Zn ?_ ba.out | refine Zn ?_ cl.out) | exact HB.out)) hb)
       clear HO_398002
       clear HO_398003
       clear HO_413004
       clear HO_413005
       clear ca
       clear cb
       clear ad
       clear ab
       clear az
       clear HB
       have HO_398002 := aQ
       have HO_398003 := aR
       have HO_413004 := aS
       have HO_413005 := aV
       have ca := aW
       have cb := aX
       have fr := bh
       have fs := bM
       have ad := bN
       have ab := ch
       have az := ci
       have HB := cx
       clear aQ aR aS aV aW aX bh bM bN ch ci cx
       (try clear hb)
       (try clear hb2)
       (try clear hk)
       (try clear hi)
       (try clear ho0)
       (try clear ho1)
       obtain ⟨de,df,eo73⟩ := zz fr.out
       (first | subst eo73 | (injection eo73 with f1_ f2_ f3_; have f4_ := f1_.symm; have f5_ := f3_.symm; clear f1_ f2_ f3_; subst f4_; subst f5_))
       obtain ⟨dk,dl,eo75⟩ := zz fs.out
       (first | subst eo75 | (injection eo75 with f1_ f2_ f3_; have f4_ := f1_.symm; have f5_ := f3_.symm; clear f1_ f2_ f3_; subst f4_; subst f5_))
       refine hK.out _ _ ⟨(zi ab.out 0).trans rfl,(zi ab.out 1).trans rfl,(zi ab.out 2).trans rfl,(zi ab.out 3).trans rfl,(zi ab.out 4).trans rfl,(zi ab.out 5).trans rfl,(zi ab.out 6).trans rfl,(zi ab.out 7).trans rfl,(zi ab.out 8).trans rfl,(zi ad.out 0).trans rfl,(zi ad.out 1).trans rfl,(zi ad.out 2).trans rfl,(zi ad.out 3).trans rfl,(zi ad.out 4).trans rfl⟩ (fun hHeld => ?_)
       clear hK K
       refine norm_ (a' := ?_) ?_ ?_
       rotate_left
       ·
        show Act.put _ (some 48) _ = _
        simp only [Act.put,za,zb,zc,Zv,Zw]
        rfl
       refine pure_ (i := 5) (N := some 43) (v := ?_) (a' := ?_) z34B6 rfl rfl (Zu HT_.out (by kernel_rfl)) (fun _ _ _ h => h) (Or.inl ⟨by rfl,?_⟩) ?_ ?_
       rotate_left
       ·
        intro w'
        go_simp
        with_reducible rfl
       rotate_left
       ·
        simp only [Act.put,za,zb,zc,Zv,Zw]
        rfl
       refine pure_ (i := 6) (N := some 49) (v := ?_) (a' := ?_) z34B7 rfl rfl (Zu HT_.out (by kernel_rfl)) (fun _ _ _ h => h) (Or.inl ⟨by rfl,?_⟩) ?_ ?_
       rotate_left
       ·
        intro w'
        go_simp
        with_reducible rfl
       rotate_left
       ·
        simp only [Act.put,za,zb,zc,Zv,Zw]
        rfl
       refine pure_ (i := 7) (N := some 50) (v := ?_) (a' := ?_) z34B8 rfl rfl (Zu HT_.out (by kernel_rfl)) (fun _ _ _ h => h) (Or.inl ⟨by rfl,?_⟩) ?_ ?_
       rotate_left
       ·
        intro w'
        go_simp
        with_reducible rfl
       rotate_left
       ·
        simp only [Act.put,za,zb,zc,Zv,Zw]
        rfl
       refine pure_ (i := 8) (N := some 51) (v := ?_) (a' := ?_) z34B9 rfl rfl (Zu HT_.out (by kernel_rfl)) (fun _ _ _ h => h) (Or.inl ⟨by rfl,?_⟩) ?_ ?_
       rotate_left
       ·
        intro w'
        go_simp
        with_reducible rfl
       rotate_left
       ·
        simp only [Act.put,za,zb,zc,Zv,Zw]
        rfl
       refine last_ (i := 9) (N := none) z34B10 rfl rfl (one_of HT_.out (by kernel_rfl)) (by decide) (fun K hK => ?_)
       have hs69 : dU.cell? ⟨aa,0,none⟩ = some (.int .i64 aD) := (zi ab.out 0).trans rfl
       have hfs69 := zm ab.out 0
       have hns69_0 := ac.out
       have hns69_2 := aE.out
       have hms69_0 := am.out
       have hms69_2 := aU.out
       have hs70 : dU.cell? ⟨aa,1,none⟩ = some (.int .i64 ay) := (zi ab.out 1).trans rfl
       have hfs70 := zm ab.out 1
       have hns70_0 := ac.out
       have hns70_2 := aE.out
       have hms70_0 := am.out
       have hms70_2 := aU.out
       have hs71 : dU.cell? ⟨aa,2,none⟩ = some (.int .i64 aw) := (zi ab.out 2).trans rfl
       have hfs71 := zm ab.out 2
       have hns71_0 := ac.out
       have hns71_2 := aE.out
       have hms71_0 := am.out
       have hms71_2 := aU.out
       have hs72 : dU.cell? ⟨aa,3,none⟩ = some (.int .i64 av) := (zi ab.out 3).trans rfl
       have hfs72 := zm ab.out 3
       have hns72_0 := ac.out
       have hns72_2 := aE.out
       have hms72_0 := am.out
       have hms72_2 := aU.out
       have hs74 : dU.cell? ⟨aa,4,none⟩ = some (.slice cd al.length ce) := (zi ab.out 4).trans rfl
       have hfs74 := zm ab.out 4
       have hns74_0 := ac.out
       have hns74_2 := aE.out
       have hms74_0 := am.out
       have hms74_2 := aU.out
       have hs76 : dU.cell? ⟨aa,5,none⟩ = some (.slice bW aj.length bX) := (zi ab.out 5).trans rfl
       have hfs76 := zm ab.out 5
       have hns76_0 := ac.out
       have hns76_2 := aE.out
       have hms76_0 := am.out
       have hms76_2 := aU.out
       have hs77 : dU.cell? ⟨aa,6,none⟩ = some (.int .i64 ap) := (zi ab.out 6).trans rfl
       have hfs77 := zm ab.out 6
       have hns77_0 := ac.out
       have hns77_2 := aE.out
       have hms77_0 := am.out
       have hms77_2 := aU.out
       have hs78 : dU.cell? ⟨aa,7,none⟩ = some (.string ao) := (zi ab.out 7).trans rfl
       have hfs78 := zm ab.out 7
       have hns78_0 := ac.out
       have hns78_2 := aE.out
       have hms78_0 := am.out
       have hms78_2 := aU.out
       have hs79 : dU.cell? ⟨aa,8,none⟩ = some (.bool an) := (zi ab.out 8).trans rfl
       have hfs79 := zm ab.out 8
       have hns79_0 := ac.out
       have hns79_2 := aE.out
       have hms79_0 := am.out
       have hms79_2 := aU.out
       refine skip_ (w1 := ?_) (by rfl) rfl ?_ ?_
       rotate_left
       ·
        go_simp
        rfl
       refine hK.out _ _ ?_
       clear hK K
       refine pure_ (i := 10) (N := some 10) (v := ?_) (a' := ?_) z34B11 rfl rfl (Zu HT_.out (by kernel_rfl)) (fun _ _ _ h => h) (Or.inl ⟨by rfl,?_⟩) ?_ ?_
       rotate_left
       ·
        intro w'
        go_simp
        with_reducible rfl
       rotate_left
       ·
        simp only [Act.put,za,zb,zc,Zv,Zw]
        rfl
       refine pure_ (i := 11) (N := some 11) (v := ?_) (a' := ?_) z34B12 rfl rfl (Zu HT_.out (by kernel_rfl)) (fun _ _ _ h => h) (Or.inl ⟨by rfl,?_⟩) ?_ ?_
       rotate_left
       ·
        intro w'
        go_simp
        with_reducible rfl
       rotate_left
       ·
        simp only [Act.put,za,zb,zc,Zv,Zw]
        rfl
       refine done_ (done_of HT_.out (by kernel_rfl)) ?_
       try go_wp2
       go_meet
       case rel => exact ⟨_,(fh),(fi),(ck),(cm),(cp),(cy),(cz),(cD),(dd),(dj),(dE),(.slice de cz.length df),(.slice dk cD.length dl),(by first | rfl | (simp; done) | (simp [*]; done)),(by first | rfl | (simp; done) | (simp [*]; done)),H',⟨by have := HJ2.out; have := HJ31.out; first | omega | exact Nat.le_refl _⟩,⟨by (with_reducible repeat (first | apply zu | apply zt | apply zs)); exact zx (zr (p := ⟨aa,8,none⟩) (zr (p := ⟨aa,7,none⟩) (zr (p := ⟨aa,6,none⟩) (zr (p := ⟨aa,5,none⟩) (zr (p := ⟨aa,4,none⟩) (zr (p := ⟨aa,3,none⟩) (zr (p := ⟨aa,2,none⟩) (zr (p := ⟨aa,1,none⟩) (zr (p := ⟨aa,0,none⟩) (zy HO_398002.out ab.out (by decide)) (fun _ hk => hk.2) (.int .i64 ck)) (fun _ hk => hk.2) (.int .i64 cm)) (fun _ hk => hk.2) (.int .i64 cp)) (fun _ hk => hk.2) (.int .i64 cy)) (fun _ hk => hk.2) (.slice de cz.length df)) (fun _ hk => hk.2) (.slice dk cD.length dl)) (fun _ hk => hk.2) (.int .i64 dd)) (fun _ hk => hk.2) (.string dj)) (fun _ hk => hk.2) (.bool dE)) (fun _ hk => ⟨hk.1.1.1.1,⟨hk.1.1.2,⟨hk.1.2,⟨hk.1.1.1.2.2.2.1,hk.1.1.1.2.2.2.2⟩⟩⟩⟩)⟩,⟨by (with_reducible repeat (first | apply zu | apply zt | apply zs)); exact zx (zr (p := ⟨aa,8,none⟩) (zr (p := ⟨aa,7,none⟩) (zr (p := ⟨aa,6,none⟩) (zr (p := ⟨aa,5,none⟩) (zr (p := ⟨aa,4,none⟩) (zr (p := ⟨aa,3,none⟩) (zr (p := ⟨aa,2,none⟩) (zr (p := ⟨aa,1,none⟩) (zr (p := ⟨aa,0,none⟩) (zy HO_398003.out ab.out (by decide)) (fun _ hk => hk.2) (.int .i64 ck)) (fun _ hk => hk.2) (.int .i64 cm)) (fun _ hk => hk.2) (.int .i64 cp)) (fun _ hk => hk.2) (.int .i64 cy)) (fun _ hk => hk.2) (.slice de cz.length df)) (fun _ hk => hk.2) (.slice dk cD.length dl)) (fun _ hk => hk.2) (.int .i64 dd)) (fun _ hk => hk.2) (.string dj)) (fun _ hk => hk.2) (.bool dE)) (fun _ hk => ⟨hk.1.1.1.1,⟨hk.1.1.2,⟨hk.1.2,⟨hk.1.1.1.2.2.2.1,hk.1.1.1.2.2.2.2⟩⟩⟩⟩)⟩,⟨by (with_reducible repeat (first | apply zu | apply zt | apply zs)); exact zx (zr (p := ⟨aa,8,none⟩) (zr (p := ⟨aa,7,none⟩) (zr (p := ⟨aa,6,none⟩) (zr (p := ⟨aa,5,none⟩) (zr (p := ⟨aa,4,none⟩) (zr (p := ⟨aa,3,none⟩) (zr (p := ⟨aa,2,none⟩) (zr (p := ⟨aa,1,none⟩) (zr (p := ⟨aa,0,none⟩) (zy fr.out ab.out (by decide)) (fun _ hk => hk.2) (.int .i64 ck)) (fun _ hk => hk.2) (.int .i64 cm)) (fun _ hk => hk.2) (.int .i64 cp)) (fun _ hk => hk.2) (.int .i64 cy)) (fun _ hk => hk.2) (.slice de cz.length df)) (fun _ hk => hk.2) (.slice dk cD.length dl)) (fun _ hk => hk.2) (.int .i64 dd)) (fun _ hk => hk.2) (.string dj)) (fun _ hk => hk.2) (.bool dE)) (fun _ hk => ⟨hk.1.1.1.1.1.1.2,⟨hk.1.1.1.1.1.2,⟨hk.1.1.1.1.1.1.1,⟨hk.1.1.2,hk.1.2⟩⟩⟩⟩)⟩,⟨by (with_reducible repeat (first | apply zu | apply zt | apply zs)); exact zx (zr (p := ⟨aa,8,none⟩) (zr (p := ⟨aa,7,none⟩) (zr (p := ⟨aa,6,none⟩) (zr (p := ⟨aa,5,none⟩) (zr (p := ⟨aa,4,none⟩) (zr (p := ⟨aa,3,none⟩) (zr (p := ⟨aa,2,none⟩) (zr (p := ⟨aa,1,none⟩) (zr (p := ⟨aa,0,none⟩) (zy fs.out ab.out (by decide)) (fun _ hk => hk.2) (.int .i64 ck)) (fun _ hk => hk.2) (.int .i64 cm)) (fun _ hk => hk.2) (.int .i64 cp)) (fun _ hk => hk.2) (.int .i64 cy)) (fun _ hk => hk.2) (.slice de cz.length df)) (fun _ hk => hk.2) (.slice dk cD.length dl)) (fun _ hk => hk.2) (.int .i64 dd)) (fun _ hk => hk.2) (.string dj)) (fun _ hk => hk.2) (.bool dE)) (fun _ hk => ⟨hk.1.1.1.1.1.1.2,⟨hk.1.1.1.1.1.2,⟨hk.1.1.1.1.1.1.1,⟨hk.1.1.2,hk.1.2⟩⟩⟩⟩)⟩,⟨by (with_reducible repeat (first | apply zu | apply zt | apply zs)); exact zx (zr (p := ⟨aa,8,none⟩) (zr (p := ⟨aa,7,none⟩) (zr (p := ⟨aa,6,none⟩) (zr (p := ⟨aa,5,none⟩) (zr (p := ⟨aa,4,none⟩) (zr (p := ⟨aa,3,none⟩) (zr (p := ⟨aa,2,none⟩) (zr (p := ⟨aa,1,none⟩) (zr (p := ⟨aa,0,none⟩) (zy ca.out ab.out (by decide)) (fun _ hk => hk.2) (.int .i64 ck)) (fun _ hk => hk.2) (.int .i64 cm)) (fun _ hk => hk.2) (.int .i64 cp)) (fun _ hk => hk.2) (.int .i64 cy)) (fun _ hk => hk.2) (.slice de cz.length df)) (fun _ hk => hk.2) (.slice dk cD.length dl)) (fun _ hk => hk.2) (.int .i64 dd)) (fun _ hk => hk.2) (.string dj)) (fun _ hk => hk.2) (.bool dE)) (fun _ hk => ⟨hk.1.1.1.1,⟨hk.1.1.1.2.1,⟨hk.1.1.2,⟨hk.1.2,hk.1.1.1.2.2.2.2⟩⟩⟩⟩)⟩,⟨by (with_reducible repeat (first | apply zu | apply zt | apply zs)); exact zx (zr (p := ⟨aa,8,none⟩) (zr (p := ⟨aa,7,none⟩) (zr (p := ⟨aa,6,none⟩) (zr (p := ⟨aa,5,none⟩) (zr (p := ⟨aa,4,none⟩) (zr (p := ⟨aa,3,none⟩) (zr (p := ⟨aa,2,none⟩) (zr (p := ⟨aa,1,none⟩) (zr (p := ⟨aa,0,none⟩) (zy cb.out ab.out (by decide)) (fun _ hk => hk.2) (.int .i64 ck)) (fun _ hk => hk.2) (.int .i64 cm)) (fun _ hk => hk.2) (.int .i64 cp)) (fun _ hk => hk.2) (.int .i64 cy)) (fun _ hk => hk.2) (.slice de cz.length df)) (fun _ hk => hk.2) (.slice dk cD.length dl)) (fun _ hk => hk.2) (.int .i64 dd)) (fun _ hk => hk.2) (.string dj)) (fun _ hk => hk.2) (.bool dE)) (fun _ hk => ⟨hk.1.1.1.1,⟨hk.1.1.1.2.1,⟨hk.1.1.2,⟨hk.1.2,hk.1.1.1.2.2.2.2⟩⟩⟩⟩)⟩,⟨by (with_reducible repeat (first | refine zj ?_ _ | refine zl ?_ | refine zk ?_ _)); refine zn ?_ ac.out _; (with_reducible repeat (first | refine zj ?_ _ | refine zl ?_ | refine zk ?_ _)); refine zn ?_ ac.out _; (with_reducible repeat (first | refine zj ?_ _ | refine zl ?_ | refine zk ?_ _)); refine zn ?_ ac.out _; (with_reducible repeat (first | refine zj ?_ _ | refine zl ?_ | refine zk ?_ _)); refine zn ?_ ac.out _; (with_reducible repeat (first | refine zj ?_ _ | refine zl ?_ | refine zk ?_ _)); refine zn ?_ ac.out _; (with_reducible repeat (first | refine zj ?_ _ | refine zl ?_ | refine zk ?_ _)); refine zn ?_ ac.out _; (with_reducible repeat (first | refine zj ?_ _ | refine zl ?_ | refine zk ?_ _)); refine zn ?_ ac.out _; (with_reducible repeat (first | refine zj ?_ _ | refine zl ?_ | refine zk ?_ _)); refine zn ?_ ac.out _; (with_reducible repeat (first | refine zj ?_ _ | refine zl ?_ | refine zk ?_ _)); refine zn ?_ ac.out _; (with_reducible repeat (first | refine zj ?_ _ | refine zl ?_ | refine zk ?_ _)); exact ad.out⟩,⟨by (with_reducible repeat (first | refine zj ?_ _ | refine zl ?_ | refine zk ?_ _)); refine zp (cs := #[.int .i64 ck,.int .i64 cm,.int .i64 cp,.int .i64 cy,.slice de cz.length df,.slice dk cD.length dl,.int .i64 dd,.string dj,.bool an]) ?_ 8 _ rfl; (with_reducible repeat (first | refine zj ?_ _ | refine zl ?_ | refine zk ?_ _)); refine zp (cs := #[.int .i64 ck,.int .i64 cm,.int .i64 cp,.int .i64 cy,.slice de cz.length df,.slice dk cD.length dl,.int .i64 dd,.string ao,.bool an]) ?_ 7 _ rfl; (with_reducible repeat (first | refine zj ?_ _ | refine zl ?_ | refine zk ?_ _)); refine zp (cs := #[.int .i64 ck,.int .i64 cm,.int .i64 cp,.int .i64 cy,.slice de cz.length df,.slice dk cD.length dl,.int .i64 ap,.string ao,.bool an]) ?_ 6 _ rfl; (with_reducible repeat (first | refine zj ?_ _ | refine zl ?_ | refine zk ?_ _)); refine zp (cs := #[.int .i64 ck,.int .i64 cm,.int .i64 cp,.int .i64 cy,.slice de cz.length df,.slice bW aj.length bX,.int .i64 ap,.string ao,.bool an]) ?_ 5 _ rfl; (with_reducible repeat (first | refine zj ?_ _ | refine zl ?_ | refine zk ?_ _)); refine zp (cs := #[.int .i64 ck,.int .i64 cm,.int .i64 cp,.int .i64 cy,.slice cd al.length ce,.slice bW aj.length bX,.int .i64 ap,.string ao,.bool an]) ?_ 4 _ rfl; (with_reducible repeat (first | refine zj ?_ _ | refine zl ?_ | refine zk ?_ _)); refine zp (cs := #[.int .i64 ck,.int .i64 cm,.int .i64 cp,.int .i64 av,.slice cd al.length ce,.slice bW aj.length bX,.int .i64 ap,.string ao,.bool an]) ?_ 3 _ rfl; (with_reducible repeat (first | refine zj ?_ _ | refine zl ?_ | refine zk ?_ _)); refine zp (cs := #[.int .i64 ck,.int .i64 cm,.int .i64 aw,.int .i64 av,.slice cd al.length ce,.slice bW aj.length bX,.int .i64 ap,.string ao,.bool an]) ?_ 2 _ rfl; (with_reducible repeat (first | refine zj ?_ _ | refine zl ?_ | refine zk ?_ _)); refine zp (cs := #[.int .i64 ck,.int .i64 ay,.int .i64 aw,.int .i64 av,.slice cd al.length ce,.slice bW aj.length bX,.int .i64 ap,.string ao,.bool an]) ?_ 1 _ rfl; (with_reducible repeat (first | refine zj ?_ _ | refine zl ?_ | refine zk ?_ _)); refine zp (cs := #[.int .i64 aD,.int .i64 ay,.int .i64 aw,.int .i64 av,.slice cd al.length ce,.slice bW aj.length bX,.int .i64 ap,.string ao,.bool an]) ?_ 0 _ rfl; (with_reducible repeat (first | refine zj ?_ _ | refine zl ?_ | refine zk ?_ _)); exact ab.out⟩,⟨by (with_reducible repeat (first | refine zj ?_ _ | refine zl ?_ | refine zk ?_ _)); refine zn ?_ aE.out _; (with_reducible repeat (first | refine zj ?_ _ | refine zl ?_ | refine zk ?_ _)); refine zn ?_ aE.out _; (with_reducible repeat (first | refine zj ?_ _ | refine zl ?_ | refine zk ?_ _)); refine zn ?_ aE.out _; (with_reducible repeat (first | refine zj ?_ _ | refine zl ?_ | refine zk ?_ _)); refine zn ?_ aE.out _; (with_reducible repeat (first | refine zj ?_ _ | refine zl ?_ | refine zk ?_ _)); refine zn ?_ aE.out _; (with_reducible repeat (first | refine zj ?_ _ | refine zl ?_ | refine zk ?_ _)); refine zn ?_ aE.out _; (with_reducible repeat (first | refine zj ?_ _ | refine zl ?_ | refine zk ?_ _)); refine zn ?_ aE.out _; (with_reducible repeat (first | refine zj ?_ _ | refine zl ?_ | refine zk ?_ _)); refine zn ?_ aE.out _; (with_reducible repeat (first | refine zj ?_ _ | refine zl ?_ | refine zk ?_ _)); refine zn ?_ aE.out _; (with_reducible repeat (first | refine zj ?_ _ | refine zl ?_ | refine zk ?_ _)); exact az.out⟩,⟨by repeat (first | (with_reducible first | exact HB.out | apply Zq | apply Zp | apply Zo | refine Zn ?_ aJ.out | refine Zn ?_ ba.out | refine Zn ?_ cl.out) | exact HB.out)⟩⟩
      ·
       rw [if_neg eI] at H
       exact absurd H (by simp)
     case rest =>
      clear fg
      try clear c1
      try clear c2
      try clear p2
      try clear c3
      try clear c5
      try clear c6
      try clear gv
      try clear gw
      try clear ep
      try clear eJ
      try clear eK
      try clear er
      try clear eL
      try clear eM
      try clear gx
      try clear jq
      try clear gy
      try clear gz
      try clear eD
      try clear fl
      try clear fm
      try clear eE
      try clear fn
      try clear fo
      try clear jr
      try clear js
      try clear jt
      try clear eI
      try clear gq
      try clear gr
      try clear dV
      try clear dW
      try clear dX
      try clear dY
      try clear dZ
      try clear ea
      try clear eb
      try clear ec
      try clear ed
      try clear fx
      try clear fy
      try clear fz
      try clear fA
      try clear fB
      try clear fC
      try clear fD
      try clear fE
      try clear fF
      try clear fP
      try clear fQ
      try clear fR
      try clear fS
      try clear fT
      try clear et
      try clear eu
      try clear ev
      try clear ew
      try clear ex
      try clear ee
      try clear ef
      try clear eg
      try clear eh
      try clear ei
      try clear ej
      try clear ek
      try clear el
      try clear em
      try clear fG
      try clear fH
      try clear fI
      try clear fJ
      try clear fK
      try clear fL
      try clear fM
      try clear fN
      try clear fO
      try clear fU
      try clear fV
      try clear fW
      try clear fX
      try clear fY
      try clear ey
      try clear ez
      try clear eA
      try clear eB
      try clear eC
      try clear p2
      obtain ⟨kq,db,dc,bB,bC,bD,bE,aY,aZ,bF,bG,bH,aK,aL,rfl,rfl,HA,HJ51,HO_398002,HO_398003,HO_413004,HO_413005,HO_454002,HO_454003,ad,ab,az,HB⟩ := hcut
      cases kq with
      | zero => exact absurd HA.out (by simp [L_takes.j2])
      | succ eo =>
       have H := HA.out
       clear HA
       simp only [L_takes.j2] at H
       replace H := Option.bind_eq_some_iff.mp H
       obtain ⟨⟨bR,bY,bL,bO,cf,dN⟩,gg,H⟩ := H
       replace H : (if cA = 0 then (if cH = 0 then (if cE = 0 then (if dL = 150 then (if dc = 0 then (if dg = true then (if cN = true then (none) else (if db = true then (if dN = 0 then ((r08_SameSnap.f eo bR bY bL bO cf ar au ah ai ak).bind fun cG => (some cG)) else (none)) else (none))) else (none)) else (none)) else (none)) else (none)) else (none)) else (none)) = some r := H
       have ii := zzk gg
       clear gg
       by_cases eR : cA = 0
       ·
        rw [if_pos eR] at H
        have iC : (cA == 0) = true := beq_iff_eq.mpr eR
        have iD : (cA != 0) = false := bne_eq_false_iff_eq.mpr eR
        clear eR
        by_cases eS : cH = 0
        ·
         rw [if_pos eS] at H
         have iE : (cH == 0) = true := beq_iff_eq.mpr eS
         have iF : (cH != 0) = false := bne_eq_false_iff_eq.mpr eS
         clear eS
         by_cases eT : cE = 0
         ·
          rw [if_pos eT] at H
          have iG : (cE == 0) = true := beq_iff_eq.mpr eT
          have iH : (cE != 0) = false := bne_eq_false_iff_eq.mpr eT
          clear eT
          by_cases eU : dL = 150
          ·
           rw [if_pos eU] at H
           have iI : (dL == 150) = true := beq_iff_eq.mpr eU
           have iJ : (dL != 150) = false := bne_eq_false_iff_eq.mpr eU
           clear eU
           by_cases eV : dc = 0
           ·
            rw [if_pos eV] at H
            have iK : (dc == 0) = true := beq_iff_eq.mpr eV
            have iL : (dc != 0) = false := bne_eq_false_iff_eq.mpr eV
            clear eV
            by_cases ft : dg = true
            ·
             subst ft
             have H1 : (if cN = true then (none) else (if db = true then (if dN = 0 then ((r08_SameSnap.f eo bR bY bL bO cf ar au ah ai ak).bind fun cG => (some cG)) else (none)) else (none))) = some r := by rw [if_pos rfl] at H; exact H
             clear H
             have H := H1
             clear H1
             by_cases fu : cN = true
             ·
              subst fu
              have H1 : (none) = some r := by rw [if_pos rfl] at H; exact H
              clear H
              have H := H1
              clear H1
              exact absurd H (by simp)
             ·
              replace fu := Bool.eq_false_iff.mpr fu
              subst fu
              have H1 : (if db = true then (if dN = 0 then ((r08_SameSnap.f eo bR bY bL bO cf ar au ah ai ak).bind fun cG => (some cG)) else (none)) else (none)) = some r := by rw [if_neg (show ¬ (false = true) by decide)] at H; exact H
              clear H
              have H := H1
              clear H1
              by_cases fv : db = true
              ·
               subst fv
               have H1 : (if dN = 0 then ((r08_SameSnap.f eo bR bY bL bO cf ar au ah ai ak).bind fun cG => (some cG)) else (none)) = some r := by rw [if_pos rfl] at H; exact H
               clear H
               have H := H1
               clear H1
               by_cases eW : dN = 0
               ·
                rw [if_pos eW] at H
                have iM : (dN == 0) = true := beq_iff_eq.mpr eW
                have iN : (dN != 0) = false := bne_eq_false_iff_eq.mpr eW
                clear eW
                replace H := Option.bind_eq_some_iff.mp H
                obtain ⟨cG,gh,H⟩ := H
                replace H : (some cG) = some r := H
                have ij := zzk gh
                clear gh
                obtain rfl := zzu H
                have iO := am.out
                have iP := ac.out
                have iQ := aU.out
                have iR := aE.out
                have gU : wc.cell? ⟨aa,0,none⟩ = some (.int .i64 bB) := (zi ab.out 0).trans rfl
                have gV : wc.cell? ⟨aa,1,none⟩ = some (.int .i64 bC) := (zi ab.out 1).trans rfl
                have gW : wc.cell? ⟨aa,2,none⟩ = some (.int .i64 bD) := (zi ab.out 2).trans rfl
                have gX : wc.cell? ⟨aa,3,none⟩ = some (.int .i64 bE) := (zi ab.out 3).trans rfl
                have gY : wc.cell? ⟨aa,4,none⟩ = some (aK) := (zi ab.out 4).trans rfl
                have gZ : wc.cell? ⟨aa,5,none⟩ = some (aL) := (zi ab.out 5).trans rfl
                have ha : wc.cell? ⟨aa,6,none⟩ = some (.int .i64 bF) := (zi ab.out 6).trans rfl
                have hc : wc.cell? ⟨aa,7,none⟩ = some (.string bG) := (zi ab.out 7).trans rfl
                have hf : wc.cell? ⟨aa,8,none⟩ = some (.bool bH) := (zi ab.out 8).trans rfl
                have hh := zm ab.out 0
                have hj := zm ab.out 1
                have hl := zm ab.out 2
                have hm := zm ab.out 3
                have hn := zm ab.out 4
                have hq := zm ab.out 5
                have ht := zm ab.out 6
                have hu := zm ab.out 7
                have hv := zm ab.out 8
                obtain ⟨dm,dn,eo94⟩ := zz HO_413004.out
                subst eo94
                obtain ⟨dp,dq,eo95⟩ := zz HO_413005.out
                subst eo95
                go_wp2_with (first | ((with_reducible refine zza (f := 24) rfl ?_); refine zzd (some 54) rfl rfl Try.func24 (by kernel_rfl) rfl #[.agg #[.int .i64 bB,.int .i64 bC,.int .i64 bD,.int .i64 bE,.slice dm aY.length dn,.slice dp aZ.length dq,.int .i64 bF,.string bG,.bool bH]] rfl (by (try simp only [zd,ze,zf]); first | done | rfl | (simp only [zg,zh]; rfl)) ?_; (with_reducible refine (chunk_Whole.calls eo bB bC bD bE _ _ aY _ _ aZ bF bG bH bR bY bL bO cf dN _ ?side1 ?side2 ?side3 ?side4 ii.out).mono ?_); (case side1 => repeat (first | exact (zw HO_413004.out).2.2 | (with_reducible refine Zk ?_ _) | (with_reducible refine Zj ?_ _) | (with_reducible refine Zl ?_))); (case side2 => exact (zw HO_413004.out).2.1); (case side3 => repeat (first | exact (zw HO_413005.out).2.2 | (with_reducible refine Zk ?_ _) | (with_reducible refine Zj ?_ _) | (with_reducible refine Zl ?_))); (case side4 => exact (zw HO_413005.out).2.1); rintro e ju ⟨jj,jk,rfl,ho0,ho1,hb⟩; refine ⟨_,rfl,?_⟩; have aQ := zzk (zx (Zc (Zc (Kd.R_old (by (with_reducible repeat (first | apply zu | apply zt | apply zs)); exact HO_398002.out) hb) (Zd ho0)) (Zd ho1)) (fun _ h_ => h_.1)); have aR := zzk (zx (Zc (Zc (Kd.R_old (by (with_reducible repeat (first | apply zu | apply zt | apply zs)); exact HO_398003.out) hb) (Zd ho0)) (Zd ho1)) (fun _ h_ => h_.1)); have aS := zzk (zx (Zc (Zc (Kd.R_old (by (with_reducible repeat (first | apply zu | apply zt | apply zs)); exact HO_413004.out) hb) (Zd ho0)) (Zd ho1)) (fun _ h_ => h_.1)); have aV := zzk (zx (Zc (Zc (Kd.R_old (by (with_reducible repeat (first | apply zu | apply zt | apply zs)); exact HO_413005.out) hb) (Zd ho0)) (Zd ho1)) (fun _ h_ => h_.1)); have aW := zzk (zx (Zc (Zc (Kd.R_old (by (with_reducible repeat (first | apply zu | apply zt | apply zs)); exact HO_454002.out) hb) (Zd ho0)) (Zd ho1)) (fun _ h_ => h_.1)); have aX := zzk (zx (Zc (Zc (Kd.R_old (by (with_reducible repeat (first | apply zu | apply zt | apply zs)); exact HO_454003.out) hb) (Zd ho0)) (Zd ho1)) (fun _ h_ => h_.1)); have bh := zzk (Za (Zb (Zb (Zb (Zb (Zb (Zb ho0 (Kd.R_lt (by (with_reducible repeat (first | apply zu | apply zt | apply zs)); exact HO_398002.out))) (Kd.R_lt (by (with_reducible repeat (first | apply zu | apply zt | apply zs)); exact HO_398003.out))) (Kd.R_lt (by (with_reducible repeat (first | apply zu | apply zt | apply zs)); exact HO_413004.out))) (Kd.R_lt (by (with_reducible repeat (first | apply zu | apply zt | apply zs)); exact HO_413005.out))) (Kd.R_lt (by (with_reducible repeat (first | apply zu | apply zt | apply zs)); exact HO_454002.out))) (Kd.R_lt (by (with_reducible repeat (first | apply zu | apply zt | apply zs)); exact HO_454003.out))) (Zr (by repeat (first | (with_reducible first | exact HB.out | apply Zq | apply Zp | apply Zo | refine Zn ?_ aJ.out | refine Zn ?_ ba.out | refine Zn ?_ cl.out) | exact HB.out)))); have bM := zzk (Za (Zb (Zb (Zb (Zb (Zb (Zb ho1 (Kd.R_lt (by (with_reducible repeat (first | apply zu | apply zt | apply zs)); exact HO_398002.out))) (Kd.R_lt (by (with_reducible repeat (first | apply zu | apply zt | apply zs)); exact HO_398003.out))) (Kd.R_lt (by (with_reducible repeat (first | apply zu | apply zt | apply zs)); exact HO_413004.out))) (Kd.R_lt (by (with_reducible repeat (first | apply zu | apply zt | apply zs)); exact HO_413005.out))) (Kd.R_lt (by (with_reducible repeat (first | apply zu | apply zt | apply zs)); exact HO_454002.out))) (Kd.R_lt (by (with_reducible repeat (first | apply zu | apply zt | apply zs)); exact HO_454003.out))) (Zr (by repeat (first | (with_reducible first | exact HB.out | apply Zq | apply Zp | apply Zo | refine Zn ?_ aJ.out | refine Zn ?_ ba.out | refine Zn ?_ cl.out) | exact HB.out)))); have bN := zzk (zo (g := af) (o := .cells #[.int .i64 ar,.int .i64 au,.slice aB ah.length ax,.slice aC ai.length aA,.string ak] 26 (0,0)) (by (with_reducible repeat (first | refine zj ?_ _ | refine zl ?_ | refine zk ?_ _)); exact ad.out) hb); have ch := zzk (zo (g := aa) (o := .cells #[.int .i64 bB,.int .i64 bC,.int .i64 bD,.int .i64 bE,.slice dm aY.length dn,.slice dp aZ.length dq,.int .i64 bF,.string bG,.bool bH] 34 (0,0)) (by (with_reducible repeat (first | refine zj ?_ _ | refine zl ?_ | refine zk ?_ _)); exact ab.out) hb); have ci := zzk (zo (g := ae) (o := .cells #[.int .i64 bq,.int .i64 bA,.slice aH aF.length aI,.slice aM aG.length aN,.string bK] 26 (0,0)) (by (with_reducible repeat (first | refine zj ?_ _ | refine zl ?_ | refine zk ?_ _)); exact az.out) hb); have cx := zzk (Zs (by repeat (first | (with_reducible first | exact HB.out | apply Zq | apply Zp | apply Zo | refine Zn ?_ aJ.out | refine Zn ?_ ba.out | refine Zn ?_ cl.out) | exact HB.out)) hb); clear HO_398002; clear HO_398003; clear HO_413004; clear HO_413005; clear HO_454002; clear HO_454003; clear ad; clear ab; clear az; clear HB; have HO_398002 := aQ; have HO_398003 := aR; have HO_413004 := aS; have HO_413005 := aV; have HO_454002 := aW; have HO_454003 := aX; have cO := bh; have cP := bM; have ad := bN; have ab := ch; have az := ci; have HB := cx; clear aQ aR aS aV aW aX bh bM bN ch ci cx; (try clear hb); (try clear hb2); (try clear hk); (try clear hi); (try clear ho0); (try clear ho1)) | ((with_reducible refine Zy (N := 12) rfl ?_); refine zzc ?hg (N := 12) ?hd (cs := #[.int .i64 0,.int .i64 0,.slice none 0 0,.slice none 0 0,.string (⟨#[]⟩ : ByteArray)]) (t := 26) ?hr ?_; (case hd => rfl); (case hg => rfl); (case hr => first | (go_simp; done) | (go_simp; rfl)); intro ag hg dP hbox hb; have aQ := zzk (zv (by (with_reducible repeat (first | apply zu | apply zt | apply zs)); exact HO_398002.out) hb); have aR := zzk (zv (by (with_reducible repeat (first | apply zu | apply zt | apply zs)); exact HO_398003.out) hb); have aS := zzk (zv (by (with_reducible repeat (first | apply zu | apply zt | apply zs)); exact HO_413004.out) hb); have aV := zzk (zv (by (with_reducible repeat (first | apply zu | apply zt | apply zs)); exact HO_413005.out) hb); have aW := zzk (zv (by (with_reducible repeat (first | apply zu | apply zt | apply zs)); exact HO_454002.out) hb); have aX := zzk (zv (by (with_reducible repeat (first | apply zu | apply zt | apply zs)); exact HO_454003.out) hb); have bh := zzk (zv (by (with_reducible repeat (first | apply zu | apply zt | apply zs)); exact cO.out) hb); have bM := zzk (zv (by (with_reducible repeat (first | apply zu | apply zt | apply zs)); exact cP.out) hb); have bN := zzk (zo (g := af) (o := .cells #[.int .i64 ar,.int .i64 au,.slice aB ah.length ax,.slice aC ai.length aA,.string ak] 26 (0,0)) (by (with_reducible repeat (first | refine zj ?_ _ | refine zl ?_ | refine zk ?_ _)); exact ad.out) hb); have ch := zzk (zo (g := aa) (o := .cells #[.int .i64 bB,.int .i64 bC,.int .i64 bD,.int .i64 bE,.slice dm aY.length dn,.slice dp aZ.length dq,.int .i64 bF,.string bG,.bool bH] 34 (0,0)) (by (with_reducible repeat (first | refine zj ?_ _ | refine zl ?_ | refine zk ?_ _)); exact ab.out) hb); have ci := zzk (zo (g := ae) (o := .cells #[.int .i64 bq,.int .i64 bA,.slice aH aF.length aI,.slice aM aG.length aN,.string bK] 26 (0,0)) (by (with_reducible repeat (first | refine zj ?_ _ | refine zl ?_ | refine zk ?_ _)); exact az.out) hb); have cx := zzk (Zs (by repeat (first | (with_reducible first | exact HB.out | apply Zq | apply Zp | apply Zo | refine Zn ?_ aJ.out | refine Zn ?_ ba.out | refine Zn ?_ cl.out) | exact HB.out)) hb); have dM := zzk (hbox); have eF := zzk ((by rw [hg]; exact (Zr (by repeat (first | (with_reducible first | exact HB.out | apply Zq | apply Zp | apply Zo | refine Zn ?_ aJ.out | refine Zn ?_ ba.out | refine Zn ?_ cl.out) | exact HB.out))) : w.heap.size ≤ ag)); have eG := zzk ((by rw [hg]; exact (Zr (by repeat (first | (with_reducible first | exact HB.out | apply Zq | apply Zp | apply Zo | refine Zn ?_ aJ.out | refine Zn ?_ ba.out | refine Zn ?_ cl.out) | exact HB.out))) : w.heap.size ≤ ag)); have eH := zzk ((by rw [hg]; exact Nat.ne_of_lt (zq (g := af) (o := .cells #[.int .i64 ar,.int .i64 au,.slice aB ah.length ax,.slice aC ai.length aA,.string ak] 26 (0,0)) (by (with_reducible repeat (first | refine zj ?_ _ | refine zl ?_ | refine zk ?_ _)); exact ad.out)) : af ≠ ag)); have gi := zzk ((by rw [hg]; exact Nat.ne_of_gt (zq (g := af) (o := .cells #[.int .i64 ar,.int .i64 au,.slice aB ah.length ax,.slice aC ai.length aA,.string ak] 26 (0,0)) (by (with_reducible repeat (first | refine zj ?_ _ | refine zl ?_ | refine zk ?_ _)); exact ad.out)) : ag ≠ af)); have gj := zzk ((by rw [hg]; exact Nat.ne_of_lt (zq (g := aa) (o := .cells #[.int .i64 bB,.int .i64 bC,.int .i64 bD,.int .i64 bE,.slice dm aY.length dn,.slice dp aZ.length dq,.int .i64 bF,.string bG,.bool bH] 34 (0,0)) (by (with_reducible repeat (first | refine zj ?_ _ | refine zl ?_ | refine zk ?_ _)); exact ab.out)) : aa ≠ ag)); have gl := zzk ((by rw [hg]; exact Nat.ne_of_gt (zq (g := aa) (o := .cells #[.int .i64 bB,.int .i64 bC,.int .i64 bD,.int .i64 bE,.slice dm aY.length dn,.slice dp aZ.length dq,.int .i64 bF,.string bG,.bool bH] 34 (0,0)) (by (with_reducible repeat (first | refine zj ?_ _ | refine zl ?_ | refine zk ?_ _)); exact ab.out)) : ag ≠ aa)); have gm := zzk ((by rw [hg]; exact Nat.ne_of_lt (zq (g := ae) (o := .cells #[.int .i64 bq,.int .i64 bA,.slice aH aF.length aI,.slice aM aG.length aN,.string bK] 26 (0,0)) (by (with_reducible repeat (first | refine zj ?_ _ | refine zl ?_ | refine zk ?_ _)); exact az.out)) : ae ≠ ag)); have gn := zzk ((by rw [hg]; exact Nat.ne_of_gt (zq (g := ae) (o := .cells #[.int .i64 bq,.int .i64 bA,.slice aH aF.length aI,.slice aM aG.length aN,.string bK] 26 (0,0)) (by (with_reducible repeat (first | refine zj ?_ _ | refine zl ?_ | refine zk ?_ _)); exact az.out)) : ag ≠ ae)); clear HO_398002; clear HO_398003; clear HO_413004; clear HO_413005; clear HO_454002; clear HO_454003; clear cO; clear cP; clear ad; clear ab; clear az; clear HB; have HO_398002 := aQ; have HO_398003 := aR; have HO_413004 := aS; have HO_413005 := aV; have HO_454002 := aW; have HO_454003 := aX; have cO := bh; have cP := bM; have ad := bN; have ab := ch; have az := ci; have HB := cx; have bj := dM; have iS := eF; have fw := eG; have cq := eH; have eX := gi; have cr := gj; have eY := gl; have ct := gm; have eZ := gn; clear aQ aR aS aV aW aX bh bM bN ch ci cx dM eF eG eH gi gj gl gm gn; clear hb hbox hg; have iT := eX.out; have iU := cq.out; have iV := eY.out; have iW := cr.out; have ik := eZ.out; have il := ct.out; have gA : dP.cell? ⟨ag,0,none⟩ = some (.int .i64 0) := (zi bj.out 0).trans rfl; have gB : dP.cell? ⟨ag,1,none⟩ = some (.int .i64 0) := (zi bj.out 1).trans rfl; have gC : dP.cell? ⟨ag,2,none⟩ = some (.slice none 0 0) := (zi bj.out 2).trans rfl; have gD : dP.cell? ⟨ag,3,none⟩ = some (.slice none 0 0) := (zi bj.out 3).trans rfl; have gE : dP.cell? ⟨ag,4,none⟩ = some (.string (⟨#[]⟩ : ByteArray)) := (zi bj.out 4).trans rfl; have gF := zm bj.out 0; have gG := zm bj.out 1; have gH := zm bj.out 2; have gI := zm bj.out 3; have gJ := zm bj.out 4; obtain ⟨bU,bP,eo102⟩ := zz cO.out; subst eo102; obtain ⟨cc,bV,eo103⟩ := zz cP.out; subst eo103; have im := cj.out; have ip := es.out; have gK : dP.cell? ⟨af,0,none⟩ = some (.int .i64 ar) := (zi ad.out 0).trans rfl; have gL : dP.cell? ⟨af,1,none⟩ = some (.int .i64 au) := (zi ad.out 1).trans rfl; have gM : dP.cell? ⟨af,2,none⟩ = some (.slice aB ah.length ax) := (zi ad.out 2).trans rfl; have gN : dP.cell? ⟨af,3,none⟩ = some (.slice aC ai.length aA) := (zi ad.out 3).trans rfl; have gO : dP.cell? ⟨af,4,none⟩ = some (.string ak) := (zi ad.out 4).trans rfl; have gP := zm ad.out 0; have gQ := zm ad.out 1; have gR := zm ad.out 2; have gS := zm ad.out 3; have gT := zm ad.out 4) | (go_at_call 19; (with_reducible refine (r08_SameSnap.calls eo bR bY _ _ bL _ _ bO cf ar au _ _ ah _ _ ai ak cG _ ?side1 ?side2 ?side3 ?side4 ?side5 ?side6 ?side7 ?side8 ij.out).mono ?_); (case side1 => refine (zw (e := 3) (base := w.heap.size) (ok := fun k_ => ((((((some k_ ≠ (.slice cc bO.length bV : Value).ownBlock ∧ some k_ ≠ (.slice aB ah.length ax : Value).ownBlock) ∧ some k_ ≠ (.slice aC ai.length aA : Value).ownBlock) ∧ some k_ ≠ (.slice dm aY.length dn : Value).ownBlock) ∧ some k_ ≠ (.slice dp aZ.length dq : Value).ownBlock) ∧ some k_ ≠ (.slice aH aF.length aI : Value).ownBlock) ∧ some k_ ≠ (.slice aM aG.length aN : Value).ownBlock)) (n := bL.length) (c := bP) ?_).2.2; exact (by (with_reducible repeat (first | apply zu | apply zt | apply zs)); exact (zx (zr (p := ⟨ag,4,none⟩) (zr (p := ⟨ag,3,none⟩) (zr (p := ⟨ag,2,none⟩) (zr (p := ⟨ag,1,none⟩) (zr (p := ⟨ag,0,none⟩) (zy cO.out bj.out (by decide)) (fun _ hk => hk.2) (.int .i64 bR)) (fun _ hk => hk.2) (.int .i64 bY)) (fun _ hk => hk.2) (.slice bU bL.length bP)) (fun _ hk => hk.2) (.slice cc bO.length bV)) (fun _ hk => hk.2) (.string cf)) (fun _ h_ => h_.1)))); (case side2 => exact (zw cO.out).2.1); (case side3 => refine (zw (e := 3) (base := w.heap.size) (ok := fun k_ => ((((((some k_ ≠ (.slice bU bL.length bP : Value).ownBlock ∧ some k_ ≠ (.slice aB ah.length ax : Value).ownBlock) ∧ some k_ ≠ (.slice aC ai.length aA : Value).ownBlock) ∧ some k_ ≠ (.slice dm aY.length dn : Value).ownBlock) ∧ some k_ ≠ (.slice dp aZ.length dq : Value).ownBlock) ∧ some k_ ≠ (.slice aH aF.length aI : Value).ownBlock) ∧ some k_ ≠ (.slice aM aG.length aN : Value).ownBlock)) (n := bO.length) (c := bV) ?_).2.2; exact (by (with_reducible repeat (first | apply zu | apply zt | apply zs)); exact (zx (zr (p := ⟨ag,4,none⟩) (zr (p := ⟨ag,3,none⟩) (zr (p := ⟨ag,2,none⟩) (zr (p := ⟨ag,1,none⟩) (zr (p := ⟨ag,0,none⟩) (zy cP.out bj.out (by decide)) (fun _ hk => hk.2) (.int .i64 bR)) (fun _ hk => hk.2) (.int .i64 bY)) (fun _ hk => hk.2) (.slice bU bL.length bP)) (fun _ hk => hk.2) (.slice cc bO.length bV)) (fun _ hk => hk.2) (.string cf)) (fun _ h_ => h_.1)))); (case side4 => exact (zw cP.out).2.1); (case side5 => refine (zw (e := 3) (base := w.heap.size) (ok := fun k_ => (((some k_ ≠ (.slice aC ai.length aA : Value).ownBlock ∧ (some k_ ≠ (.slice dm aY.length dn : Value).ownBlock ∧ (some k_ ≠ (.slice dp aZ.length dq : Value).ownBlock ∧ (some k_ ≠ (.slice aH aF.length aI : Value).ownBlock ∧ some k_ ≠ (.slice aM aG.length aN : Value).ownBlock)))) ∧ some k_ ≠ (.slice bU bL.length bP : Value).ownBlock) ∧ some k_ ≠ (.slice cc bO.length bV : Value).ownBlock)) (n := ah.length) (c := ax) ?_).2.2; exact (by (with_reducible repeat (first | apply zu | apply zt | apply zs)); exact (zx (zr (p := ⟨ag,4,none⟩) (zr (p := ⟨ag,3,none⟩) (zr (p := ⟨ag,2,none⟩) (zr (p := ⟨ag,1,none⟩) (zr (p := ⟨ag,0,none⟩) (zy HO_398002.out bj.out (by decide)) (fun _ hk => hk.2) (.int .i64 bR)) (fun _ hk => hk.2) (.int .i64 bY)) (fun _ hk => hk.2) (.slice bU bL.length bP)) (fun _ hk => hk.2) (.slice cc bO.length bV)) (fun _ hk => hk.2) (.string cf)) (fun _ h_ => h_.1)))); (case side6 => exact (zw HO_398002.out).2.1); (case side7 => refine (zw (e := 3) (base := w.heap.size) (ok := fun k_ => (((some k_ ≠ (.slice aB ah.length ax : Value).ownBlock ∧ (some k_ ≠ (.slice dm aY.length dn : Value).ownBlock ∧ (some k_ ≠ (.slice dp aZ.length dq : Value).ownBlock ∧ (some k_ ≠ (.slice aH aF.length aI : Value).ownBlock ∧ some k_ ≠ (.slice aM aG.length aN : Value).ownBlock)))) ∧ some k_ ≠ (.slice bU bL.length bP : Value).ownBlock) ∧ some k_ ≠ (.slice cc bO.length bV : Value).ownBlock)) (n := ai.length) (c := aA) ?_).2.2; exact (by (with_reducible repeat (first | apply zu | apply zt | apply zs)); exact (zx (zr (p := ⟨ag,4,none⟩) (zr (p := ⟨ag,3,none⟩) (zr (p := ⟨ag,2,none⟩) (zr (p := ⟨ag,1,none⟩) (zr (p := ⟨ag,0,none⟩) (zy HO_398003.out bj.out (by decide)) (fun _ hk => hk.2) (.int .i64 bR)) (fun _ hk => hk.2) (.int .i64 bY)) (fun _ hk => hk.2) (.slice bU bL.length bP)) (fun _ hk => hk.2) (.slice cc bO.length bV)) (fun _ hk => hk.2) (.string cf)) (fun _ h_ => h_.1)))); (case side8 => exact (zw HO_398003.out).2.1); rintro e jl ⟨rfl,hb⟩; have aQ := zzk (zv (by (with_reducible repeat (first | apply zu | apply zt | apply zs)); exact (zx (zr (p := ⟨ag,4,none⟩) (zr (p := ⟨ag,3,none⟩) (zr (p := ⟨ag,2,none⟩) (zr (p := ⟨ag,1,none⟩) (zr (p := ⟨ag,0,none⟩) (zy HO_398002.out bj.out (by decide)) (fun _ hk => hk.2) (.int .i64 bR)) (fun _ hk => hk.2) (.int .i64 bY)) (fun _ hk => hk.2) (.slice bU bL.length bP)) (fun _ hk => hk.2) (.slice cc bO.length bV)) (fun _ hk => hk.2) (.string cf)) (fun _ h_ => h_.1))) hb); have aR := zzk (zv (by (with_reducible repeat (first | apply zu | apply zt | apply zs)); exact (zx (zr (p := ⟨ag,4,none⟩) (zr (p := ⟨ag,3,none⟩) (zr (p := ⟨ag,2,none⟩) (zr (p := ⟨ag,1,none⟩) (zr (p := ⟨ag,0,none⟩) (zy HO_398003.out bj.out (by decide)) (fun _ hk => hk.2) (.int .i64 bR)) (fun _ hk => hk.2) (.int .i64 bY)) (fun _ hk => hk.2) (.slice bU bL.length bP)) (fun _ hk => hk.2) (.slice cc bO.length bV)) (fun _ hk => hk.2) (.string cf)) (fun _ h_ => h_.1))) hb); have aS := zzk (zv (by (with_reducible repeat (first | apply zu | apply zt | apply zs)); exact (zx (zr (p := ⟨ag,4,none⟩) (zr (p := ⟨ag,3,none⟩) (zr (p := ⟨ag,2,none⟩) (zr (p := ⟨ag,1,none⟩) (zr (p := ⟨ag,0,none⟩) (zy HO_413004.out bj.out (by decide)) (fun _ hk => hk.2) (.int .i64 bR)) (fun _ hk => hk.2) (.int .i64 bY)) (fun _ hk => hk.2) (.slice bU bL.length bP)) (fun _ hk => hk.2) (.slice cc bO.length bV)) (fun _ hk => hk.2) (.string cf)) (fun _ h_ => h_.1))) hb); have aV := zzk (zv (by (with_reducible repeat (first | apply zu | apply zt | apply zs)); exact (zx (zr (p := ⟨ag,4,none⟩) (zr (p := ⟨ag,3,none⟩) (zr (p := ⟨ag,2,none⟩) (zr (p := ⟨ag,1,none⟩) (zr (p := ⟨ag,0,none⟩) (zy HO_413005.out bj.out (by decide)) (fun _ hk => hk.2) (.int .i64 bR)) (fun _ hk => hk.2) (.int .i64 bY)) (fun _ hk => hk.2) (.slice bU bL.length bP)) (fun _ hk => hk.2) (.slice cc bO.length bV)) (fun _ hk => hk.2) (.string cf)) (fun _ h_ => h_.1))) hb); have aW := zzk (zv (by (with_reducible repeat (first | apply zu | apply zt | apply zs)); exact (zx (zr (p := ⟨ag,4,none⟩) (zr (p := ⟨ag,3,none⟩) (zr (p := ⟨ag,2,none⟩) (zr (p := ⟨ag,1,none⟩) (zr (p := ⟨ag,0,none⟩) (zy HO_454002.out bj.out (by decide)) (fun _ hk => hk.2) (.int .i64 bR)) (fun _ hk => hk.2) (.int .i64 bY)) (fun _ hk => hk.2) (.slice bU bL.length bP)) (fun _ hk => hk.2) (.slice cc bO.length bV)) (fun _ hk => hk.2) (.string cf)) (fun _ h_ => h_.1))) hb); have aX := zzk (zv (by (with_reducible repeat (first | apply zu | apply zt | apply zs)); exact (zx (zr (p := ⟨ag,4,none⟩) (zr (p := ⟨ag,3,none⟩) (zr (p := ⟨ag,2,none⟩) (zr (p := ⟨ag,1,none⟩) (zr (p := ⟨ag,0,none⟩) (zy HO_454003.out bj.out (by decide)) (fun _ hk => hk.2) (.int .i64 bR)) (fun _ hk => hk.2) (.int .i64 bY)) (fun _ hk => hk.2) (.slice bU bL.length bP)) (fun _ hk => hk.2) (.slice cc bO.length bV)) (fun _ hk => hk.2) (.string cf)) (fun _ h_ => h_.1))) hb); have bh := zzk (zv (by (with_reducible repeat (first | apply zu | apply zt | apply zs)); exact (zx (zr (p := ⟨ag,4,none⟩) (zr (p := ⟨ag,3,none⟩) (zr (p := ⟨ag,2,none⟩) (zr (p := ⟨ag,1,none⟩) (zr (p := ⟨ag,0,none⟩) (zy cO.out bj.out (by decide)) (fun _ hk => hk.2) (.int .i64 bR)) (fun _ hk => hk.2) (.int .i64 bY)) (fun _ hk => hk.2) (.slice bU bL.length bP)) (fun _ hk => hk.2) (.slice cc bO.length bV)) (fun _ hk => hk.2) (.string cf)) (fun _ h_ => h_.1))) hb); have bM := zzk (zv (by (with_reducible repeat (first | apply zu | apply zt | apply zs)); exact (zx (zr (p := ⟨ag,4,none⟩) (zr (p := ⟨ag,3,none⟩) (zr (p := ⟨ag,2,none⟩) (zr (p := ⟨ag,1,none⟩) (zr (p := ⟨ag,0,none⟩) (zy cP.out bj.out (by decide)) (fun _ hk => hk.2) (.int .i64 bR)) (fun _ hk => hk.2) (.int .i64 bY)) (fun _ hk => hk.2) (.slice bU bL.length bP)) (fun _ hk => hk.2) (.slice cc bO.length bV)) (fun _ hk => hk.2) (.string cf)) (fun _ h_ => h_.1))) hb); have bN := zzk (zo (g := af) (o := .cells #[.int .i64 ar,.int .i64 au,.slice aB ah.length ax,.slice aC ai.length aA,.string ak] 26 (0,0)) (by (with_reducible repeat (first | refine zj ?_ _ | refine zl ?_ | refine zk ?_ _)); refine zn ?_ cq.out _; (with_reducible repeat (first | refine zj ?_ _ | refine zl ?_ | refine zk ?_ _)); refine zn ?_ cq.out _; (with_reducible repeat (first | refine zj ?_ _ | refine zl ?_ | refine zk ?_ _)); refine zn ?_ cq.out _; (with_reducible repeat (first | refine zj ?_ _ | refine zl ?_ | refine zk ?_ _)); refine zn ?_ cq.out _; (with_reducible repeat (first | refine zj ?_ _ | refine zl ?_ | refine zk ?_ _)); refine zn ?_ cq.out _; (with_reducible repeat (first | refine zj ?_ _ | refine zl ?_ | refine zk ?_ _)); exact ad.out) hb); have ch := zzk (zo (g := aa) (o := .cells #[.int .i64 bB,.int .i64 bC,.int .i64 bD,.int .i64 bE,.slice dm aY.length dn,.slice dp aZ.length dq,.int .i64 bF,.string bG,.bool bH] 34 (0,0)) (by (with_reducible repeat (first | refine zj ?_ _ | refine zl ?_ | refine zk ?_ _)); refine zn ?_ cr.out _; (with_reducible repeat (first | refine zj ?_ _ | refine zl ?_ | refine zk ?_ _)); refine zn ?_ cr.out _; (with_reducible repeat (first | refine zj ?_ _ | refine zl ?_ | refine zk ?_ _)); refine zn ?_ cr.out _; (with_reducible repeat (first | refine zj ?_ _ | refine zl ?_ | refine zk ?_ _)); refine zn ?_ cr.out _; (with_reducible repeat (first | refine zj ?_ _ | refine zl ?_ | refine zk ?_ _)); refine zn ?_ cr.out _; (with_reducible repeat (first | refine zj ?_ _ | refine zl ?_ | refine zk ?_ _)); exact ab.out) hb); have ci := zzk (zo (g := ae) (o := .cells #[.int .i64 bq,.int .i64 bA,.slice aH aF.length aI,.slice aM aG.length aN,.string bK] 26 (0,0)) (by (with_reducible repeat (first | refine zj ?_ _ | refine zl ?_ | refine zk ?_ _)); refine zn ?_ ct.out _; (with_reducible repeat (first | refine zj ?_ _ | refine zl ?_ | refine zk ?_ _)); refine zn ?_ ct.out _; (with_reducible repeat (first | refine zj ?_ _ | refine zl ?_ | refine zk ?_ _)); refine zn ?_ ct.out _; (with_reducible repeat (first | refine zj ?_ _ | refine zl ?_ | refine zk ?_ _)); refine zn ?_ ct.out _; (with_reducible repeat (first | refine zj ?_ _ | refine zl ?_ | refine zk ?_ _)); refine zn ?_ ct.out _; (with_reducible repeat (first | refine zj ?_ _ | refine zl ?_ | refine zk ?_ _)); exact az.out) hb); have cx := zzk (zo (g := ag) (o := .cells #[.int .i64 bR,.int .i64 bY,.slice bU bL.length bP,.slice cc bO.length bV,.string cf] 26 (0,0)) (by (with_reducible repeat (first | refine zj ?_ _ | refine zl ?_ | refine zk ?_ _)); refine zp (cs := #[.int .i64 bR,.int .i64 bY,.slice bU bL.length bP,.slice cc bO.length bV,.string (⟨#[]⟩ : ByteArray)]) ?_ 4 _ rfl; (with_reducible repeat (first | refine zj ?_ _ | refine zl ?_ | refine zk ?_ _)); refine zp (cs := #[.int .i64 bR,.int .i64 bY,.slice bU bL.length bP,.slice none 0 0,.string (⟨#[]⟩ : ByteArray)]) ?_ 3 _ rfl; (with_reducible repeat (first | refine zj ?_ _ | refine zl ?_ | refine zk ?_ _)); refine zp (cs := #[.int .i64 bR,.int .i64 bY,.slice none 0 0,.slice none 0 0,.string (⟨#[]⟩ : ByteArray)]) ?_ 2 _ rfl; (with_reducible repeat (first | refine zj ?_ _ | refine zl ?_ | refine zk ?_ _)); refine zp (cs := #[.int .i64 bR,.int .i64 0,.slice none 0 0,.slice none 0 0,.string (⟨#[]⟩ : ByteArray)]) ?_ 1 _ rfl; (with_reducible repeat (first | refine zj ?_ _ | refine zl ?_ | refine zk ?_ _)); refine zp (cs := #[.int .i64 0,.int .i64 0,.slice none 0 0,.slice none 0 0,.string (⟨#[]⟩ : ByteArray)]) ?_ 0 _ rfl; (with_reducible repeat (first | refine zj ?_ _ | refine zl ?_ | refine zk ?_ _)); exact bj.out) hb); have dM := zzk (Zs (by repeat (first | (with_reducible first | exact HB.out | apply Zq | apply Zp | apply Zo | refine Zn ?_ aJ.out | refine Zn ?_ ba.out | refine Zn ?_ cl.out | refine Zn ?_ fw.out) | exact HB.out)) hb); clear HO_398002; clear HO_398003; clear HO_413004; clear HO_413005; clear HO_454002; clear HO_454003; clear cO; clear cP; clear ad; clear ab; clear az; clear bj; clear HB; have HO_398002 := aQ; have HO_398003 := aR; have HO_413004 := aS; have HO_413005 := aV; have HO_454002 := aW; have HO_454003 := aX; have cO := bh; have cP := bM; have ad := bN; have ab := ch; have az := ci; have bj := cx; have HB := dM; clear aQ aR aS aV aW aX bh bM bN ch ci cx dM; (try clear hb); (try clear hb2); (try clear hk); (try clear hi)))
                go_ret
                exact ⟨by first | rfl | (simp [zzl,zzm] <;> rfl) | (simp [*,zzl,zzm] <;> rfl),by repeat (first | (with_reducible first | exact HB.out | apply Zq | apply Zp | apply Zo | refine Zn ?_ aJ.out | refine Zn ?_ ba.out | refine Zn ?_ cl.out | refine Zn ?_ fw.out) | exact HB.out)⟩
               ·
                rw [if_neg eW] at H
                exact absurd H (by simp)
              ·
               replace fv := Bool.eq_false_iff.mpr fv
               subst fv
               have H1 : (none) = some r := by rw [if_neg (show ¬ (false = true) by decide)] at H; exact H
               clear H
               have H := H1
               clear H1
               exact absurd H (by simp)
            ·
             replace ft := Bool.eq_false_iff.mpr ft
             subst ft
             have H1 : (none) = some r := by rw [if_neg (show ¬ (false = true) by decide)] at H; exact H
             clear H
             have H := H1
             clear H1
             exact absurd H (by simp)
           ·
            rw [if_neg eV] at H
            exact absurd H (by simp)
          ·
           rw [if_neg eU] at H
           exact absurd H (by simp)
         ·
          rw [if_neg eT] at H
          exact absurd H (by simp)
        ·
         rw [if_neg eS] at H
         exact absurd H (by simp)
       ·
        rw [if_neg eR] at H
        exact absurd H (by simp)
end Go.Proofs.Ytpagkmdlmhdenaa.PAll
