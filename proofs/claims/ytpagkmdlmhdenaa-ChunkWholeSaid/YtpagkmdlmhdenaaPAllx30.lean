-- Written by a program of the session.
import Derived.Test.YtpagkmdlmhdenaaAlAll
import Derived.Test.YtpagkmdlmhdenaaPAllx0
import Derived.Test.YtpagkmdlmhdenaaPAllx13
import Derived.Test.YtpagkmdlmhdenaaPAllx15
import Derived.Test.YtpagkmdlmhdenaaPAllx16
import Derived.Test.YtpagkmdlmhdenaaGivenA
namespace Go.Proofs.Ytpagkmdlmhdenaa.PAll
open Go.RowKit Go.Proofs.YtpagkmdlmhdenaaW.PrintWords Go.Proofs.YtpagkmdlmhdenaaW.PrintLast Go.Proofs.YtpagkmdlmhdenaaW.PrintMore
attribute [local go_sem] max2_int min2_int max_two min_two max_three min_three max_four min_four   -- for this text's walks alone
set_option linter.unusedVariables false
set_option linter.unusedSimpArgs false
/-! ### chunk_Take: function 22 -/
mutual
def chunk_Take.j0 : Nat → Int → ByteArray → Bool → Int → Int → Int → Int → List Int → List Int → Int → ByteArray → Bool → Option (Int × Int × Int × Int × List Int × List Int × Int × ByteArray × Bool × Bool × Int)
 | 0,_,_,_,_,_,_,_,_,_,_,_,_ => none
 | k + 1,x1,x2,gp,aL,aM,aN,aO,aV,aW,aG,aE,aP => if gp = true then (some (0,0,0,0,([] : List Int),([] : List Int),0,(⟨#[]⟩ : ByteArray),false,false,150)) else ((chunk_own.f aV aW).bind fun aF => ((chunk_size.f aG (aE.size : Int)).bind fun aZ => (if aP = true then (if x1 = (aE.size : Int) then (chunk_Take.j1 k x2 ((x2.size : Int) != aZ.1) aL aM aN aO aF.1 aF.2 aG aE aP) else (chunk_Take.j1 k x2 true aL aM aN aO aF.1 aF.2 aG aE aP)) else (chunk_Take.j1 k x2 true aL aM aN aO aF.1 aF.2 aG aE aP))))
def chunk_Take.j1 : Nat → ByteArray → Bool → Int → Int → Int → Int → List Int → List Int → Int → ByteArray → Bool → Option (Int × Int × Int × Int × List Int × List Int × Int × ByteArray × Bool × Bool × Int)
 | 0,_,_,_,_,_,_,_,_,_,_,_ => none
 | k + 1,x2,gq,aL,aM,aN,aO,aV,aW,aG,aE,aP => if gq = true then (some (aL,aM,aN,aO,aV,aW,aG,aE,aP,false,0)) else (if aE.size + x2.size ≤ 9223372036854775807 then (some (aL,aM,aN,aO,aV,aW,aG,aE ++ x2,decide (((aE.size : Int) + (x2.size : Int)) < aG),true,0)) else (none))
end
def chunk_Take.f (k : Nat) (af : Int) (ag : Int) (ai : Int) (aj : Int) (am : List Int) (al : List Int) (ah : Int) (ae : ByteArray) (ak : Bool) (a1 : Int) (a2 : ByteArray) : Option (Int × Int × Int × Int × List Int × List Int × Int × ByteArray × Bool × Bool × Int) := (chunk_Check.f k af ag ai aj am al ah ae ak).bind fun aK => (if aK = 0 then ((chunk_none.f af ag ai aj am al ah ae ak).bind fun aR => (chunk_Take.j0 k a1 a2 aR af ag ai aj am al ah ae ak)) else (chunk_Take.j0 k a1 a2 true af ag ai aj am al ah ae ak))
set_option maxHeartbeats 8000000 in
set_option maxRecDepth 100000 in
theorem chunk_Take.calls (k : Nat) (af : Int) (ag : Int) (ai : Int) (aj : Int) (aA : Option Addr) (aB : Nat) (am : List Int) (ay : Option Addr) (az : Nat) (al : List Int) (ah : Int) (ae : ByteArray) (ak : Bool) (a1 : Int) (a2 : ByteArray) (r1 : Int) (r2 : Int) (r3 : Int) (r4 : Int) (r5 : List Int) (r6 : List Int) (r7 : Int) (r8 : ByteArray) (r9 : Bool) (r10 : Bool) (r11 : Int) (w : World) (cv : Kd.C (Kd.int .i64) w aA am.length am) (cw : am.length ≤ aB) (cx : Kd.C (Kd.int .i64) w ay al.length al) (cy : al.length ≤ az) (h : chunk_Take.f k af ag ai aj am al ah ae ak a1 a2 = some (r1,r2,r3,r4,r5,r6,r7,r8,r9,r10,r11)) :
 Calls Try.prog 22 #[.agg #[.int .i64 af,.int .i64 ag,.int .i64 ai,.int .i64 aj,.slice aA am.length aB,.slice ay al.length az,.int .i64 ah,.string ae,.bool ak],.int .i64 a1,.string a2] w fun e w' => ∃ eH eI : Value,e = .returned (.tuple #[.agg #[.int .i64 r1,.int .i64 r2,.int .i64 r3,.int .i64 r4,eH,eI,.int .i64 r7,.string r8,.bool r9],.bool r10,.int .i64 r11]) ∧ Kd.R (Kd.int .i64) 3 w' w.heap.size (fun k_ => some k_ ≠ (eI : Value).ownBlock) eH r5 ∧ Kd.R (Kd.int .i64) 3 w' w.heap.size (fun k_ => some k_ ≠ (eH : Value).ownBlock) eI r6 ∧ Below w.heap.size w w' := by
 have hu34 := Try.underlying34
 have hu24 := Try.underlying24
 have bf := zzk cv
 have bg := zzk cw
 clear cv cw
 have bh := zzk cx
 have bi := zzk cy
 clear cx cy
 have HB := zzk (Below.refl w.heap.size w)
 have H : ((chunk_Check.f k af ag ai aj am al ah ae ak).bind fun aK => (if aK = 0 then ((chunk_none.f af ag ai aj am al ah ae ak).bind fun aR => (chunk_Take.j0 k a1 a2 aR af ag ai aj am al ah ae ak)) else (chunk_Take.j0 k a1 a2 true af ag ai aj am al ah ae ak))) = some (r1,r2,r3,r4,r5,r6,r7,r8,r9,r10,r11) := h
 clear h
 have eJ := zzk H
 clear H
 go_enter Try.func22,Try.ntmps22
 go_upto_region 1 with (first | ((with_reducible refine Zy (N := 3) rfl ?_); (try (refine Zz (by rfl) ?_; dsimp only)); refine zzc ?hg (N := 3) ?hd (cs := #[.int .i64 af,.int .i64 ag,.int .i64 ai,.int .i64 aj,.slice aA am.length aB,.slice ay al.length az,.int .i64 ah,.string ae,.bool ak]) (t := 34) ?hr ?_; (case hd => rfl); (case hg => rfl); (case hr => first | (go_simp; done) | (go_simp; rfl)); intro ab hg w5 hbox hb; have aH := zzk (Zs (by repeat (first | (with_reducible first | exact HB.out | apply Zq | apply Zp | apply Zo) | exact HB.out)) hb); have aI := zzk (hbox); have aJ := zzk ((by rw [hg]; exact (Zr (by repeat (first | (with_reducible first | exact HB.out | apply Zq | apply Zp | apply Zo) | exact HB.out))) : w.heap.size ≤ ab)); have aU := zzk ((by rw [hg]; exact (Zr (by repeat (first | (with_reducible first | exact HB.out | apply Zq | apply Zp | apply Zo) | exact HB.out))) : w.heap.size ≤ ab)); clear HB; have HB := aH; have aa := aI; have gz := aJ; have aw := aU; clear aH aI aJ aU; clear hb hbox hg) | ((with_reducible refine Zy (N := 6) rfl ?_); (try (refine Zz (by rfl) ?_; dsimp only)); refine zzc ?hg (N := 6) ?hd (cs := #[.int .i64 0,.int .i64 0,.int .i64 0,.int .i64 0,.slice none 0 0,.slice none 0 0,.int .i64 0,.string (⟨#[]⟩ : ByteArray),.bool false]) (t := 34) ?hr ?_; (case hd => rfl); (case hg => rfl); (case hr => first | (go_simp; done) | (go_simp; rfl)); intro ad hg w6 hbox hb; have aH := zzk (zo (g := ab) (o := .cells #[.int .i64 af,.int .i64 ag,.int .i64 ai,.int .i64 aj,.slice aA am.length aB,.slice ay al.length az,.int .i64 ah,.string ae,.bool ak] 34 (0,0)) (by (with_reducible repeat (first | refine zj ?_ _ | refine zl ?_ | refine zk ?_ _)); exact aa.out) hb); have aI := zzk (Zs (by repeat (first | (with_reducible first | exact HB.out | apply Zq | apply Zp | apply Zo | refine Zn ?_ aw.out) | exact HB.out)) hb); have aJ := zzk (hbox); have aU := zzk ((by rw [hg]; exact (Zr (by repeat (first | (with_reducible first | exact HB.out | apply Zq | apply Zp | apply Zo | refine Zn ?_ aw.out) | exact HB.out))) : w.heap.size ≤ ad)); have bd := zzk ((by rw [hg]; exact (Zr (by repeat (first | (with_reducible first | exact HB.out | apply Zq | apply Zp | apply Zo | refine Zn ?_ aw.out) | exact HB.out))) : w.heap.size ≤ ad)); have eM := zzk ((by rw [hg]; exact Nat.ne_of_lt (zq (g := ab) (o := .cells #[.int .i64 af,.int .i64 ag,.int .i64 ai,.int .i64 aj,.slice aA am.length aB,.slice ay al.length az,.int .i64 ah,.string ae,.bool ak] 34 (0,0)) (by (with_reducible repeat (first | refine zj ?_ _ | refine zl ?_ | refine zk ?_ _)); exact aa.out)) : ab ≠ ad)); have eN := zzk ((by rw [hg]; exact Nat.ne_of_gt (zq (g := ab) (o := .cells #[.int .i64 af,.int .i64 ag,.int .i64 ai,.int .i64 aj,.slice aA am.length aB,.slice ay al.length az,.int .i64 ah,.string ae,.bool ak] 34 (0,0)) (by (with_reducible repeat (first | refine zj ?_ _ | refine zl ?_ | refine zk ?_ _)); exact aa.out)) : ad ≠ ab)); clear aa; clear HB; have aa := aH; have HB := aI; have ac := aJ; have gA := aU; have aD := bd; have ax := eM; have ap := eN; clear aH aI aJ aU bd eM eN; clear hb hbox hg))
 (try simp only [Act.put,za,zb,zc])
 go_cut [17] (fun gr wc => ∃ (kq : Nat) (bj : Bool),gr = .bool bj ∧ Aside0 (chunk_Take.j0 kq a1 a2 bj af ag ai aj am al ah ae ak = some (r1,r2,r3,r4,r5,r6,r7,r8,r9,r10,r11)) ∧ Aside0 (kq ≤ k) ∧ Aside0 (wc.heap[ab]? = some (.cells #[.int .i64 af,.int .i64 ag,.int .i64 ai,.int .i64 aj,(.slice aA am.length aB),(.slice ay al.length az),.int .i64 ah,.string ae,.bool ak] 34 (0,0))) ∧ Aside0 (wc.heap[ad]? = some (.cells #[.int .i64 0,.int .i64 0,.int .i64 0,.int .i64 0,(.slice none 0 0),(.slice none 0 0),.int .i64 0,.string (⟨#[]⟩ : ByteArray),.bool false] 34 (0,0))) ∧ Aside0 (Below w.heap.size w wc))
 case first =>
  have H := eJ.out
  clear eJ
  replace H := Option.bind_eq_some_iff.mp H
  obtain ⟨aK,eO,H⟩ := H
  replace H : (if aK = 0 then ((chunk_none.f af ag ai aj am al ah ae ak).bind fun aR => (chunk_Take.j0 k a1 a2 aR af ag ai aj am al ah ae ak)) else (chunk_Take.j0 k a1 a2 true af ag ai aj am al ah ae ak)) = some (r1,r2,r3,r4,r5,r6,r7,r8,r9,r10,r11) := H
  have A7 := zzk eO
  clear eO
  by_cases c8 : aK = 0
  ·
   rw [if_pos c8] at H
   have aY : (aK == 0) = true := beq_iff_eq.mpr c8
   have ct : (aK != 0) = false := bne_eq_false_iff_eq.mpr c8
   clear c8
   (first | rw [aY] | (simp only [Zv,Zw]; rw [aY]) | skip)
   replace H := Option.bind_eq_some_iff.mp H
   obtain ⟨aR,eP,H⟩ := H
   replace H : (chunk_Take.j0 k a1 a2 aR af ag ai aj am al ah ae ak) = some (r1,r2,r3,r4,r5,r6,r7,r8,r9,r10,r11) := H
   have A9 := zzk eP
   clear eP
   have H' := zzk H
   clear H
   have gB := ax.out
   have gC := ap.out
   have bk : w6.cell? ⟨ab,0,none⟩ = some (.int .i64 af) := (zi aa.out 0).trans rfl
   have bl : w6.cell? ⟨ab,1,none⟩ = some (.int .i64 ag) := (zi aa.out 1).trans rfl
   have bm : w6.cell? ⟨ab,2,none⟩ = some (.int .i64 ai) := (zi aa.out 2).trans rfl
   have bn : w6.cell? ⟨ab,3,none⟩ = some (.int .i64 aj) := (zi aa.out 3).trans rfl
   have bo : w6.cell? ⟨ab,4,none⟩ = some (.slice aA am.length aB) := (zi aa.out 4).trans rfl
   have bq : w6.cell? ⟨ab,5,none⟩ = some (.slice ay al.length az) := (zi aa.out 5).trans rfl
   have br : w6.cell? ⟨ab,6,none⟩ = some (.int .i64 ah) := (zi aa.out 6).trans rfl
   have bs : w6.cell? ⟨ab,7,none⟩ = some (.string ae) := (zi aa.out 7).trans rfl
   have bt : w6.cell? ⟨ab,8,none⟩ = some (.bool ak) := (zi aa.out 8).trans rfl
   have bu := zm aa.out 0
   have bv := zm aa.out 1
   have bw := zm aa.out 2
   have bx := zm aa.out 3
   have bz := zm aa.out 4
   have bA := zm aa.out 5
   have bB := zm aa.out 6
   have bC := zm aa.out 7
   have bD := zm aa.out 8
   go_wp2_with (first | ((with_reducible refine zza (f := 17) rfl ?_); refine zzd (some 12) rfl rfl Try.func17 (by kernel_rfl) rfl #[.agg #[.int .i64 af,.int .i64 ag,.int .i64 ai,.int .i64 aj,.slice aA am.length aB,.slice ay al.length az,.int .i64 ah,.string ae,.bool ak]] rfl (by (try simp only [zd,ze,zf]); first | done | rfl | (simp only [zg,zh]; rfl)) ?_; (with_reducible refine (chunk_Check.calls k af ag ai aj _ _ am _ _ al ah ae ak aK _ ?side1 ?side2 ?side3 ?side4 A7.out).mono ?_); (case side1 => repeat (first | exact (Zm bf.out HB.out) | (with_reducible refine Zk ?_ _) | (with_reducible refine Zj ?_ _) | (with_reducible refine Zl ?_))); (case side2 => exact bg.out); (case side3 => repeat (first | exact (Zm bh.out HB.out) | (with_reducible refine Zk ?_ _) | (with_reducible refine Zj ?_ _) | (with_reducible refine Zl ?_))); (case side4 => exact bi.out); rintro e ba ⟨rfl,hb⟩; refine ⟨_,rfl,?_⟩; have aH := zzk (zo (g := ab) (o := .cells #[.int .i64 af,.int .i64 ag,.int .i64 ai,.int .i64 aj,.slice aA am.length aB,.slice ay al.length az,.int .i64 ah,.string ae,.bool ak] 34 (0,0)) (by (with_reducible repeat (first | refine zj ?_ _ | refine zl ?_ | refine zk ?_ _)); exact aa.out) hb); have aI := zzk (zo (g := ad) (o := .cells #[.int .i64 0,.int .i64 0,.int .i64 0,.int .i64 0,.slice none 0 0,.slice none 0 0,.int .i64 0,.string (⟨#[]⟩ : ByteArray),.bool false] 34 (0,0)) (by (with_reducible repeat (first | refine zj ?_ _ | refine zl ?_ | refine zk ?_ _)); exact ac.out) hb); have aJ := zzk (Zs (by repeat (first | (with_reducible first | exact HB.out | apply Zq | apply Zp | apply Zo | refine Zn ?_ aw.out | refine Zn ?_ aD.out) | exact HB.out)) hb); clear aa; clear ac; clear HB; have aa := aH; have ac := aI; have HB := aJ; clear aH aI aJ; (try clear hb); (try clear hb2); (try clear hk); (try clear hi); have bE : ba.cell? ⟨ab,0,none⟩ = some (.int .i64 af) := (zi aa.out 0).trans rfl; have bF : ba.cell? ⟨ab,1,none⟩ = some (.int .i64 ag) := (zi aa.out 1).trans rfl; have bG : ba.cell? ⟨ab,2,none⟩ = some (.int .i64 ai) := (zi aa.out 2).trans rfl; have bH : ba.cell? ⟨ab,3,none⟩ = some (.int .i64 aj) := (zi aa.out 3).trans rfl; have bI : ba.cell? ⟨ab,4,none⟩ = some (.slice aA am.length aB) := (zi aa.out 4).trans rfl; have bJ : ba.cell? ⟨ab,5,none⟩ = some (.slice ay al.length az) := (zi aa.out 5).trans rfl; have bK : ba.cell? ⟨ab,6,none⟩ = some (.int .i64 ah) := (zi aa.out 6).trans rfl; have bL : ba.cell? ⟨ab,7,none⟩ = some (.string ae) := (zi aa.out 7).trans rfl; have bM : ba.cell? ⟨ab,8,none⟩ = some (.bool ak) := (zi aa.out 8).trans rfl; have bN := zm aa.out 0; have bO := zm aa.out 1; have bP := zm aa.out 2; have bQ := zm aa.out 3; have bR := zm aa.out 4; have bS := zm aa.out 5; have bT := zm aa.out 6; have bU := zm aa.out 7; have bV := zm aa.out 8) | (go_at_call 35; (with_reducible refine (chunk_none.calls af ag ai aj _ _ am _ _ al ah ae ak aR _ ?side1 ?side2 ?side3 ?side4 A9.out).mono ?_); (case side1 => repeat (first | exact (Zm bf.out HB.out) | (with_reducible refine Zk ?_ _) | (with_reducible refine Zj ?_ _) | (with_reducible refine Zl ?_))); (case side2 => exact bg.out); (case side3 => repeat (first | exact (Zm bh.out HB.out) | (with_reducible refine Zk ?_ _) | (with_reducible refine Zj ?_ _) | (with_reducible refine Zl ?_))); (case side4 => exact bi.out); rintro e gZ ⟨rfl,hb⟩; have aH := zzk (zo (g := ab) (o := .cells #[.int .i64 af,.int .i64 ag,.int .i64 ai,.int .i64 aj,.slice aA am.length aB,.slice ay al.length az,.int .i64 ah,.string ae,.bool ak] 34 (0,0)) (by (with_reducible repeat (first | refine zj ?_ _ | refine zl ?_ | refine zk ?_ _)); exact aa.out) hb); have aI := zzk (zo (g := ad) (o := .cells #[.int .i64 0,.int .i64 0,.int .i64 0,.int .i64 0,.slice none 0 0,.slice none 0 0,.int .i64 0,.string (⟨#[]⟩ : ByteArray),.bool false] 34 (0,0)) (by (with_reducible repeat (first | refine zj ?_ _ | refine zl ?_ | refine zk ?_ _)); exact ac.out) hb); have aJ := zzk (Zs (by repeat (first | (with_reducible first | exact HB.out | apply Zq | apply Zp | apply Zo | refine Zn ?_ aw.out | refine Zn ?_ aD.out) | exact HB.out)) hb); clear aa; clear ac; clear HB; have aa := aH; have ac := aI; have HB := aJ; clear aH aI aJ; (try clear hb); (try clear hb2); (try clear hk); (try clear hi)))
   go_meet
   case rel => exact ⟨_,(aR),(by first | rfl | (simp; done) | (simp [*]; done)),H',⟨by first | omega | exact Nat.le_refl _⟩,⟨by (with_reducible repeat (first | refine zj ?_ _ | refine zl ?_ | refine zk ?_ _)); exact aa.out⟩,⟨by (with_reducible repeat (first | refine zj ?_ _ | refine zl ?_ | refine zk ?_ _)); exact ac.out⟩,⟨by repeat (first | (with_reducible first | exact HB.out | apply Zq | apply Zp | apply Zo | refine Zn ?_ aw.out | refine Zn ?_ aD.out) | exact HB.out)⟩⟩
  ·
   rw [if_neg c8] at H
   have aY : (aK == 0) = false := beq_eq_false_iff_ne.mpr c8
   have ct : (aK != 0) = true := bne_iff_ne.mpr c8
   (first | rw [aY] | (simp only [Zv,Zw]; rw [aY]) | skip)
   have H' := zzk H
   clear H
   have gD := ax.out
   have gE := ap.out
   have bW : w6.cell? ⟨ab,0,none⟩ = some (.int .i64 af) := (zi aa.out 0).trans rfl
   have bX : w6.cell? ⟨ab,1,none⟩ = some (.int .i64 ag) := (zi aa.out 1).trans rfl
   have bY : w6.cell? ⟨ab,2,none⟩ = some (.int .i64 ai) := (zi aa.out 2).trans rfl
   have bZ : w6.cell? ⟨ab,3,none⟩ = some (.int .i64 aj) := (zi aa.out 3).trans rfl
   have ca : w6.cell? ⟨ab,4,none⟩ = some (.slice aA am.length aB) := (zi aa.out 4).trans rfl
   have cb : w6.cell? ⟨ab,5,none⟩ = some (.slice ay al.length az) := (zi aa.out 5).trans rfl
   have cc : w6.cell? ⟨ab,6,none⟩ = some (.int .i64 ah) := (zi aa.out 6).trans rfl
   have cd : w6.cell? ⟨ab,7,none⟩ = some (.string ae) := (zi aa.out 7).trans rfl
   have ce : w6.cell? ⟨ab,8,none⟩ = some (.bool ak) := (zi aa.out 8).trans rfl
   have cf := zm aa.out 0
   have cg := zm aa.out 1
   have ch := zm aa.out 2
   have ci := zm aa.out 3
   have cj := zm aa.out 4
   have ck := zm aa.out 5
   have cl := zm aa.out 6
   have cm := zm aa.out 7
   have cn := zm aa.out 8
   go_wp2_with (first | ((with_reducible refine zza (f := 17) rfl ?_); refine zzd (some 12) rfl rfl Try.func17 (by kernel_rfl) rfl #[.agg #[.int .i64 af,.int .i64 ag,.int .i64 ai,.int .i64 aj,.slice aA am.length aB,.slice ay al.length az,.int .i64 ah,.string ae,.bool ak]] rfl (by (try simp only [zd,ze,zf]); first | done | rfl | (simp only [zg,zh]; rfl)) ?_; (with_reducible refine (chunk_Check.calls k af ag ai aj _ _ am _ _ al ah ae ak aK _ ?side1 ?side2 ?side3 ?side4 A7.out).mono ?_); (case side1 => repeat (first | exact (Zm bf.out HB.out) | (with_reducible refine Zk ?_ _) | (with_reducible refine Zj ?_ _) | (with_reducible refine Zl ?_))); (case side2 => exact bg.out); (case side3 => repeat (first | exact (Zm bh.out HB.out) | (with_reducible refine Zk ?_ _) | (with_reducible refine Zj ?_ _) | (with_reducible refine Zl ?_))); (case side4 => exact bi.out); rintro e ha ⟨rfl,hb⟩; refine ⟨_,rfl,?_⟩; have aH := zzk (zo (g := ab) (o := .cells #[.int .i64 af,.int .i64 ag,.int .i64 ai,.int .i64 aj,.slice aA am.length aB,.slice ay al.length az,.int .i64 ah,.string ae,.bool ak] 34 (0,0)) (by (with_reducible repeat (first | refine zj ?_ _ | refine zl ?_ | refine zk ?_ _)); exact aa.out) hb); have aI := zzk (zo (g := ad) (o := .cells #[.int .i64 0,.int .i64 0,.int .i64 0,.int .i64 0,.slice none 0 0,.slice none 0 0,.int .i64 0,.string (⟨#[]⟩ : ByteArray),.bool false] 34 (0,0)) (by (with_reducible repeat (first | refine zj ?_ _ | refine zl ?_ | refine zk ?_ _)); exact ac.out) hb); have aJ := zzk (Zs (by repeat (first | (with_reducible first | exact HB.out | apply Zq | apply Zp | apply Zo | refine Zn ?_ aw.out | refine Zn ?_ aD.out) | exact HB.out)) hb); clear aa; clear ac; clear HB; have aa := aH; have ac := aI; have HB := aJ; clear aH aI aJ; (try clear hb); (try clear hb2); (try clear hk); (try clear hi)))
   go_meet
   case rel => exact ⟨_,(true),(by first | rfl | (simp; done) | (simp [*]; done)),H',⟨by first | omega | exact Nat.le_refl _⟩,⟨by (with_reducible repeat (first | refine zj ?_ _ | refine zl ?_ | refine zk ?_ _)); exact aa.out⟩,⟨by (with_reducible repeat (first | refine zj ?_ _ | refine zl ?_ | refine zk ?_ _)); exact ac.out⟩,⟨by repeat (first | (with_reducible first | exact HB.out | apply Zq | apply Zp | apply Zo | refine Zn ?_ aw.out | refine Zn ?_ aD.out) | exact HB.out)⟩⟩
 case rest =>
  clear eJ
  try clear c1
  try clear c2
  try clear p2
  try clear c8
  try clear aY
  try clear ct
  try clear gs
  try clear gu
  try clear gv
  try clear bk
  try clear bl
  try clear bm
  try clear bn
  try clear bo
  try clear bq
  try clear br
  try clear bs
  try clear bt
  try clear bE
  try clear bF
  try clear bG
  try clear bH
  try clear bI
  try clear bJ
  try clear bK
  try clear bL
  try clear bM
  try clear bW
  try clear bX
  try clear bY
  try clear bZ
  try clear ca
  try clear cb
  try clear cc
  try clear cd
  try clear ce
  try clear bu
  try clear bv
  try clear bw
  try clear bx
  try clear bz
  try clear bA
  try clear bB
  try clear bC
  try clear bD
  try clear bN
  try clear bO
  try clear bP
  try clear bQ
  try clear bR
  try clear bS
  try clear bT
  try clear bU
  try clear bV
  try clear cf
  try clear cg
  try clear ch
  try clear ci
  try clear cj
  try clear ck
  try clear cl
  try clear cm
  try clear cn
  obtain ⟨kq,bj,rfl,HA,HJ3,aa,ac,HB⟩ := hcut
  cases kq with
  | zero => exact absurd HA.out (by simp [chunk_Take.j0])
  | succ aQ =>
   have H := HA.out
   clear HA
   simp only [chunk_Take.j0] at H
   by_cases cp : bj = true
   ·
    subst cp
    have H1 : (some (0,0,0,0,([] : List Int),([] : List Int),0,(⟨#[]⟩ : ByteArray),false,false,150)) = some (r1,r2,r3,r4,r5,r6,r7,r8,r9,r10,r11) := by rw [if_pos rfl] at H; exact H
    clear H
    have H := H1
    clear H1
    simp only [zzg,zzh] at H
    obtain ⟨rfl,rfl,rfl,rfl,rfl,rfl,rfl,rfl,rfl,rfl,rfl⟩ := H
    have gF := ap.out
    have gG := ax.out
    have cB : wc.cell? ⟨ad,0,none⟩ = some (.int .i64 0) := (zi ac.out 0).trans rfl
    have cC : wc.cell? ⟨ad,1,none⟩ = some (.int .i64 0) := (zi ac.out 1).trans rfl
    have cD : wc.cell? ⟨ad,2,none⟩ = some (.int .i64 0) := (zi ac.out 2).trans rfl
    have cE : wc.cell? ⟨ad,3,none⟩ = some (.int .i64 0) := (zi ac.out 3).trans rfl
    have cF : wc.cell? ⟨ad,4,none⟩ = some (.slice none 0 0) := (zi ac.out 4).trans rfl
    have cG : wc.cell? ⟨ad,5,none⟩ = some (.slice none 0 0) := (zi ac.out 5).trans rfl
    have cH : wc.cell? ⟨ad,6,none⟩ = some (.int .i64 0) := (zi ac.out 6).trans rfl
    have cI : wc.cell? ⟨ad,7,none⟩ = some (.string (⟨#[]⟩ : ByteArray)) := (zi ac.out 7).trans rfl
    have cJ : wc.cell? ⟨ad,8,none⟩ = some (.bool false) := (zi ac.out 8).trans rfl
    have cK := zm ac.out 0
    have cL := zm ac.out 1
    have cM := zm ac.out 2
    have cN := zm ac.out 3
    have cO := zm ac.out 4
    have cP := zm ac.out 5
    have cQ := zm ac.out 6
    have cR := zm ac.out 7
    have cS := zm ac.out 8
    go_wp2
    refine zzf (results_ctt rfl _ _ ad 34 #[.int .i64 0,.int .i64 0,.int .i64 0,.int .i64 0,.slice none 0 0,.slice none 0 0,.int .i64 0,.string (⟨#[]⟩ : ByteArray),.bool false] (0,0) _ rfl (by (with_reducible repeat (first | refine zj ?_ _ | refine zl ?_ | refine zk ?_ _)); refine zp (cs := #[.int .i64 0,.int .i64 0,.int .i64 0,.int .i64 0,.slice none 0 0,.slice none 0 0,.int .i64 0,.string (⟨#[]⟩ : ByteArray),.bool false]) ?_ 8 _ rfl; (with_reducible repeat (first | refine zj ?_ _ | refine zl ?_ | refine zk ?_ _)); refine zp (cs := #[.int .i64 0,.int .i64 0,.int .i64 0,.int .i64 0,.slice none 0 0,.slice none 0 0,.int .i64 0,.string (⟨#[]⟩ : ByteArray),.bool false]) ?_ 7 _ rfl; (with_reducible repeat (first | refine zj ?_ _ | refine zl ?_ | refine zk ?_ _)); refine zp (cs := #[.int .i64 0,.int .i64 0,.int .i64 0,.int .i64 0,.slice none 0 0,.slice none 0 0,.int .i64 0,.string (⟨#[]⟩ : ByteArray),.bool false]) ?_ 6 _ rfl; (with_reducible repeat (first | refine zj ?_ _ | refine zl ?_ | refine zk ?_ _)); refine zp (cs := #[.int .i64 0,.int .i64 0,.int .i64 0,.int .i64 0,.slice none 0 0,.slice none 0 0,.int .i64 0,.string (⟨#[]⟩ : ByteArray),.bool false]) ?_ 5 _ rfl; (with_reducible repeat (first | refine zj ?_ _ | refine zl ?_ | refine zk ?_ _)); refine zp (cs := #[.int .i64 0,.int .i64 0,.int .i64 0,.int .i64 0,.slice none 0 0,.slice none 0 0,.int .i64 0,.string (⟨#[]⟩ : ByteArray),.bool false]) ?_ 4 _ rfl; (with_reducible repeat (first | refine zj ?_ _ | refine zl ?_ | refine zk ?_ _)); refine zp (cs := #[.int .i64 0,.int .i64 0,.int .i64 0,.int .i64 0,.slice none 0 0,.slice none 0 0,.int .i64 0,.string (⟨#[]⟩ : ByteArray),.bool false]) ?_ 3 _ rfl; (with_reducible repeat (first | refine zj ?_ _ | refine zl ?_ | refine zk ?_ _)); refine zp (cs := #[.int .i64 0,.int .i64 0,.int .i64 0,.int .i64 0,.slice none 0 0,.slice none 0 0,.int .i64 0,.string (⟨#[]⟩ : ByteArray),.bool false]) ?_ 2 _ rfl; (with_reducible repeat (first | refine zj ?_ _ | refine zl ?_ | refine zk ?_ _)); refine zp (cs := #[.int .i64 0,.int .i64 0,.int .i64 0,.int .i64 0,.slice none 0 0,.slice none 0 0,.int .i64 0,.string (⟨#[]⟩ : ByteArray),.bool false]) ?_ 1 _ rfl; (with_reducible repeat (first | refine zj ?_ _ | refine zl ?_ | refine zk ?_ _)); refine zp (cs := #[.int .i64 0,.int .i64 0,.int .i64 0,.int .i64 0,.slice none 0 0,.slice none 0 0,.int .i64 0,.string (⟨#[]⟩ : ByteArray),.bool false]) ?_ 0 _ rfl; (with_reducible repeat (first | refine zj ?_ _ | refine zl ?_ | refine zk ?_ _)); exact ac.out) Try.underlying34 rfl (by kernel_rfl)) rfl ?_
    exact ⟨_,_,by first | rfl | (simp [zzl,zzm] <;> rfl) | (simp [*,zzl,zzm] <;> rfl),by first | exact Ze _ _ _ _ _ | exact Zf _ _ _ _ _ | exact Zg _ _ _ _ _ | exact Zh _ _ _ _ _ | exact Zi _ _ _ _ _,by first | exact Ze _ _ _ _ _ | exact Zf _ _ _ _ _ | exact Zg _ _ _ _ _ | exact Zh _ _ _ _ _ | exact Zi _ _ _ _ _,by repeat (first | (with_reducible first | exact HB.out | apply Zq | apply Zp | apply Zo | refine Zn ?_ aw.out | refine Zn ?_ aD.out) | exact HB.out)⟩
   ·
    replace cp := Bool.eq_false_iff.mpr cp
    subst cp
    have H1 : ((chunk_own.f am al).bind fun aF => ((chunk_size.f ah (ae.size : Int)).bind fun aZ => (if ak = true then (if a1 = (ae.size : Int) then (chunk_Take.j1 aQ a2 ((a2.size : Int) != aZ.1) af ag ai aj aF.1 aF.2 ah ae ak) else (chunk_Take.j1 aQ a2 true af ag ai aj aF.1 aF.2 ah ae ak)) else (chunk_Take.j1 aQ a2 true af ag ai aj aF.1 aF.2 ah ae ak)))) = some (r1,r2,r3,r4,r5,r6,r7,r8,r9,r10,r11) := by rw [if_neg (show ¬ (false = true) by decide)] at H; exact H
    clear H
    have H := H1
    clear H1
    replace H := Option.bind_eq_some_iff.mp H
    obtain ⟨⟨an,ao⟩,eK,H⟩ := H
    replace H : ((chunk_size.f ah (ae.size : Int)).bind fun aZ => (if ak = true then (if a1 = (ae.size : Int) then (chunk_Take.j1 aQ a2 ((a2.size : Int) != aZ.1) af ag ai aj an ao ah ae ak) else (chunk_Take.j1 aQ a2 true af ag ai aj an ao ah ae ak)) else (chunk_Take.j1 aQ a2 true af ag ai aj an ao ah ae ak))) = some (r1,r2,r3,r4,r5,r6,r7,r8,r9,r10,r11) := H
    have gw := zzk eK
    clear eK
    replace H := Option.bind_eq_some_iff.mp H
    obtain ⟨⟨co,eQ⟩,eL,H⟩ := H
    replace H : (if ak = true then (if a1 = (ae.size : Int) then (chunk_Take.j1 aQ a2 ((a2.size : Int) != co) af ag ai aj an ao ah ae ak) else (chunk_Take.j1 aQ a2 true af ag ai aj an ao ah ae ak)) else (chunk_Take.j1 aQ a2 true af ag ai aj an ao ah ae ak)) = some (r1,r2,r3,r4,r5,r6,r7,r8,r9,r10,r11) := H
    have gx := zzk eL
    clear eL
    have cu := zzk H
    clear H
    have gH := ax.out
    have gI := ap.out
    have cT : wc.cell? ⟨ab,0,none⟩ = some (.int .i64 af) := (zi aa.out 0).trans rfl
    have cU : wc.cell? ⟨ab,1,none⟩ = some (.int .i64 ag) := (zi aa.out 1).trans rfl
    have cV : wc.cell? ⟨ab,2,none⟩ = some (.int .i64 ai) := (zi aa.out 2).trans rfl
    have cW : wc.cell? ⟨ab,3,none⟩ = some (.int .i64 aj) := (zi aa.out 3).trans rfl
    have cX : wc.cell? ⟨ab,4,none⟩ = some (.slice aA am.length aB) := (zi aa.out 4).trans rfl
    have cY : wc.cell? ⟨ab,5,none⟩ = some (.slice ay al.length az) := (zi aa.out 5).trans rfl
    have cZ : wc.cell? ⟨ab,6,none⟩ = some (.int .i64 ah) := (zi aa.out 6).trans rfl
    have da : wc.cell? ⟨ab,7,none⟩ = some (.string ae) := (zi aa.out 7).trans rfl
    have db : wc.cell? ⟨ab,8,none⟩ = some (.bool ak) := (zi aa.out 8).trans rfl
    have dc := zm aa.out 0
    have dd := zm aa.out 1
    have de := zm aa.out 2
    have df := zm aa.out 3
    have dg := zm aa.out 4
    have dh := zm aa.out 5
    have di := zm aa.out 6
    have dj := zm aa.out 7
    have dk := zm aa.out 8
    go_upto_region 5 with (first | ((with_reducible refine zza (f := 31) rfl ?_); refine zzd (some 21) rfl rfl Try.func31 (by kernel_rfl) rfl #[.agg #[.slice aA am.length aB,.slice ay al.length az]] rfl (by (try simp only [zd,ze,zf]); first | done | rfl | (simp only [zg,zh]; rfl)) ?_; (with_reducible refine (chunk_own.calls _ _ am _ _ al an ao _ ?side1 ?side2 ?side3 ?side4 gw.out).mono ?_); (case side1 => repeat (first | exact (Zm bf.out HB.out) | (with_reducible refine Zk ?_ _) | (with_reducible refine Zj ?_ _) | (with_reducible refine Zl ?_))); (case side2 => exact bg.out); (case side3 => repeat (first | exact (Zm bh.out HB.out) | (with_reducible refine Zk ?_ _) | (with_reducible refine Zj ?_ _) | (with_reducible refine Zl ?_))); (case side4 => exact bi.out); rintro e bb ⟨gW,gX,rfl,ho0,ho1,hb⟩; refine ⟨_,rfl,?_⟩; have aH := zzk (Za ho0 (Zr (by repeat (first | (with_reducible first | exact HB.out | apply Zq | apply Zp | apply Zo | refine Zn ?_ aw.out | refine Zn ?_ aD.out) | exact HB.out)))); have aI := zzk (Za ho1 (Zr (by repeat (first | (with_reducible first | exact HB.out | apply Zq | apply Zp | apply Zo | refine Zn ?_ aw.out | refine Zn ?_ aD.out) | exact HB.out)))); have aJ := zzk (zo (g := ab) (o := .cells #[.int .i64 af,.int .i64 ag,.int .i64 ai,.int .i64 aj,.slice aA am.length aB,.slice ay al.length az,.int .i64 ah,.string ae,.bool ak] 34 (0,0)) (by (with_reducible repeat (first | refine zj ?_ _ | refine zl ?_ | refine zk ?_ _)); exact aa.out) hb); have aU := zzk (zo (g := ad) (o := .cells #[.int .i64 0,.int .i64 0,.int .i64 0,.int .i64 0,.slice none 0 0,.slice none 0 0,.int .i64 0,.string (⟨#[]⟩ : ByteArray),.bool false] 34 (0,0)) (by (with_reducible repeat (first | refine zj ?_ _ | refine zl ?_ | refine zk ?_ _)); exact ac.out) hb); have bd := zzk (Zs (by repeat (first | (with_reducible first | exact HB.out | apply Zq | apply Zp | apply Zo | refine Zn ?_ aw.out | refine Zn ?_ aD.out) | exact HB.out)) hb); clear aa; clear ac; clear HB; have aS := aH; have aT := aI; have aa := aJ; have ac := aU; have HB := bd; clear aH aI aJ aU bd; (try clear hb); (try clear hb2); (try clear hk); (try clear hi); (try clear ho0); (try clear ho1); obtain ⟨aq,ar,eo27⟩ := zz aS.out; subst eo27; have dl : bb.cell? ⟨ab,0,none⟩ = some (.int .i64 af) := (zi aa.out 0).trans rfl; have dm : bb.cell? ⟨ab,1,none⟩ = some (.int .i64 ag) := (zi aa.out 1).trans rfl; have dn : bb.cell? ⟨ab,2,none⟩ = some (.int .i64 ai) := (zi aa.out 2).trans rfl; have dp : bb.cell? ⟨ab,3,none⟩ = some (.int .i64 aj) := (zi aa.out 3).trans rfl; have dq : bb.cell? ⟨ab,4,none⟩ = some (.slice aA am.length aB) := (zi aa.out 4).trans rfl; have dr : bb.cell? ⟨ab,5,none⟩ = some (.slice ay al.length az) := (zi aa.out 5).trans rfl; have ds : bb.cell? ⟨ab,6,none⟩ = some (.int .i64 ah) := (zi aa.out 6).trans rfl; have dt : bb.cell? ⟨ab,7,none⟩ = some (.string ae) := (zi aa.out 7).trans rfl; have du : bb.cell? ⟨ab,8,none⟩ = some (.bool ak) := (zi aa.out 8).trans rfl; have dv := zm aa.out 0; have dw := zm aa.out 1; have dx := zm aa.out 2; have dy := zm aa.out 3; have dz := zm aa.out 4; have dA := zm aa.out 5; have dB := zm aa.out 6; have dC := zm aa.out 7; have dD := zm aa.out 8; obtain ⟨au,av,eo29⟩ := zz aT.out; subst eo29) | ((with_reducible refine zza (f := 27) rfl ?_); refine zzd (some 29) rfl rfl Try.func27 (by kernel_rfl) rfl #[.int .i64 ah,.int .i64 (ae.size : Int)] rfl (by (try simp only [zd,ze,zf]); first | done | rfl | (simp only [zg,zh]; rfl)) ?_; (with_reducible refine (chunk_size.calls ah (ae.size : Int) co eQ _ gx.out).mono ?_); rintro e aC ⟨rfl,hb⟩; refine ⟨_,rfl,?_⟩; have aH := zzk (zv (by (with_reducible repeat (first | apply zu | apply zt | apply zs)); exact (zx (zr (p := ⟨ab,5,none⟩) (zr (p := ⟨ab,4,none⟩) (zy aS.out aa.out (by decide)) (fun _ hk => hk.2) (.slice aq an.length ar)) (fun _ hk => hk.2) (.slice au ao.length av)) (fun _ h_ => h_.1))) hb); have aI := zzk (zv (by (with_reducible repeat (first | apply zu | apply zt | apply zs)); exact (zx (zr (p := ⟨ab,5,none⟩) (zr (p := ⟨ab,4,none⟩) (zy aT.out aa.out (by decide)) (fun _ hk => hk.2) (.slice aq an.length ar)) (fun _ hk => hk.2) (.slice au ao.length av)) (fun _ h_ => h_.1))) hb); have aJ := zzk (zo (g := ab) (o := .cells #[.int .i64 af,.int .i64 ag,.int .i64 ai,.int .i64 aj,.slice aq an.length ar,.slice au ao.length av,.int .i64 ah,.string ae,.bool ak] 34 (0,0)) (by (with_reducible repeat (first | refine zj ?_ _ | refine zl ?_ | refine zk ?_ _)); refine zp (cs := #[.int .i64 af,.int .i64 ag,.int .i64 ai,.int .i64 aj,.slice aq an.length ar,.slice ay al.length az,.int .i64 ah,.string ae,.bool ak]) ?_ 5 _ rfl; (with_reducible repeat (first | refine zj ?_ _ | refine zl ?_ | refine zk ?_ _)); refine zp (cs := #[.int .i64 af,.int .i64 ag,.int .i64 ai,.int .i64 aj,.slice aA am.length aB,.slice ay al.length az,.int .i64 ah,.string ae,.bool ak]) ?_ 4 _ rfl; (with_reducible repeat (first | refine zj ?_ _ | refine zl ?_ | refine zk ?_ _)); exact aa.out) hb); have aU := zzk (zo (g := ad) (o := .cells #[.int .i64 0,.int .i64 0,.int .i64 0,.int .i64 0,.slice none 0 0,.slice none 0 0,.int .i64 0,.string (⟨#[]⟩ : ByteArray),.bool false] 34 (0,0)) (by (with_reducible repeat (first | refine zj ?_ _ | refine zl ?_ | refine zk ?_ _)); refine zn ?_ ap.out _; (with_reducible repeat (first | refine zj ?_ _ | refine zl ?_ | refine zk ?_ _)); refine zn ?_ ap.out _; (with_reducible repeat (first | refine zj ?_ _ | refine zl ?_ | refine zk ?_ _)); exact ac.out) hb); have bd := zzk (Zs (by repeat (first | (with_reducible first | exact HB.out | apply Zq | apply Zp | apply Zo | refine Zn ?_ aw.out | refine Zn ?_ aD.out) | exact HB.out)) hb); clear aS; clear aT; clear aa; clear ac; clear HB; have aS := aH; have aT := aI; have aa := aJ; have ac := aU; have HB := bd; clear aH aI aJ aU bd; (try clear hb); (try clear hb2); (try clear hk); (try clear hi)))
    (try simp only [Act.put,za,zb,zc])
    go_cut [47] (fun gy wc => ∃ (kq : Nat) (bc : Bool),gy = .bool bc ∧ Aside0 (chunk_Take.j1 kq a2 bc af ag ai aj an ao ah ae ak = some (r1,r2,r3,r4,r5,r6,r7,r8,r9,r10,r11)) ∧ Aside0 (kq ≤ aQ) ∧ Aside0 (Kd.R (Kd.int .i64) 3 wc w.heap.size (fun k_ => some k_ ≠ ((.slice au ao.length av) : Value).ownBlock) (.slice aq an.length ar) an) ∧ Aside0 (Kd.R (Kd.int .i64) 3 wc w.heap.size (fun k_ => some k_ ≠ ((.slice aq an.length ar) : Value).ownBlock) (.slice au ao.length av) ao) ∧ Aside0 (wc.heap[ab]? = some (.cells #[.int .i64 af,.int .i64 ag,.int .i64 ai,.int .i64 aj,(.slice aq an.length ar),(.slice au ao.length av),.int .i64 ah,.string ae,.bool ak] 34 (0,0))) ∧ Aside0 (wc.heap[ad]? = some (.cells #[.int .i64 0,.int .i64 0,.int .i64 0,.int .i64 0,(.slice none 0 0),(.slice none 0 0),.int .i64 0,.string (⟨#[]⟩ : ByteArray),.bool false] 34 (0,0))) ∧ Aside0 (Below w.heap.size w wc))
    case first =>
     have H := cu.out
     clear cu
     by_cases cq : ak = true
     ·
      subst cq
      have H1 : (if a1 = (ae.size : Int) then (chunk_Take.j1 aQ a2 ((a2.size : Int) != co) af ag ai aj an ao ah ae true) else (chunk_Take.j1 aQ a2 true af ag ai aj an ao ah ae true)) = some (r1,r2,r3,r4,r5,r6,r7,r8,r9,r10,r11) := by rw [if_pos rfl] at H; exact H
      clear H
      have H := H1
      clear H1
      by_cases be : a1 = (ae.size : Int)
      ·
       rw [if_pos be] at H
       have aX : (a1 == (ae.size : Int)) = true := beq_iff_eq.mpr be
       have cz : (a1 != (ae.size : Int)) = false := bne_eq_false_iff_eq.mpr be
       clear be
       (first | rw [aX] | (simp only [Zv,Zw]; rw [aX]) | skip)
       have H' := zzk H
       clear H
       have gJ := ax.out
       have gK := ap.out
       have dE : aC.cell? ⟨ab,0,none⟩ = some (.int .i64 af) := (zi aa.out 0).trans rfl
       have dF : aC.cell? ⟨ab,1,none⟩ = some (.int .i64 ag) := (zi aa.out 1).trans rfl
       have dG : aC.cell? ⟨ab,2,none⟩ = some (.int .i64 ai) := (zi aa.out 2).trans rfl
       have dH : aC.cell? ⟨ab,3,none⟩ = some (.int .i64 aj) := (zi aa.out 3).trans rfl
       have dI : aC.cell? ⟨ab,4,none⟩ = some (.slice aq an.length ar) := (zi aa.out 4).trans rfl
       have dJ : aC.cell? ⟨ab,5,none⟩ = some (.slice au ao.length av) := (zi aa.out 5).trans rfl
       have dK : aC.cell? ⟨ab,6,none⟩ = some (.int .i64 ah) := (zi aa.out 6).trans rfl
       have dL : aC.cell? ⟨ab,7,none⟩ = some (.string ae) := (zi aa.out 7).trans rfl
       have dM : aC.cell? ⟨ab,8,none⟩ = some (.bool true) := (zi aa.out 8).trans rfl
       have dN := zm aa.out 0
       have dO := zm aa.out 1
       have dP := zm aa.out 2
       have dQ := zm aa.out 3
       have dR := zm aa.out 4
       have dS := zm aa.out 5
       have dT := zm aa.out 6
       have dU := zm aa.out 7
       have dV := zm aa.out 8
       go_wp2
       go_meet
       case rel => exact ⟨_,(((a2.size : Int) != co)),(by first | rfl | (simp; done) | (simp [*]; done)),H',⟨by have := HJ3.out; first | omega | exact Nat.le_refl _⟩,⟨by (with_reducible repeat (first | apply zu | apply zt | apply zs)); exact aS.out⟩,⟨by (with_reducible repeat (first | apply zu | apply zt | apply zs)); exact aT.out⟩,⟨by (with_reducible repeat (first | refine zj ?_ _ | refine zl ?_ | refine zk ?_ _)); exact aa.out⟩,⟨by (with_reducible repeat (first | refine zj ?_ _ | refine zl ?_ | refine zk ?_ _)); exact ac.out⟩,⟨by repeat (first | (with_reducible first | exact HB.out | apply Zq | apply Zp | apply Zo | refine Zn ?_ aw.out | refine Zn ?_ aD.out) | exact HB.out)⟩⟩
      ·
       rw [if_neg be] at H
       have aX : (a1 == (ae.size : Int)) = false := beq_eq_false_iff_ne.mpr be
       have cz : (a1 != (ae.size : Int)) = true := bne_iff_ne.mpr be
       (first | rw [aX] | (simp only [Zv,Zw]; rw [aX]) | skip)
       have H' := zzk H
       clear H
       have gL := ax.out
       have gM := ap.out
       have dW : aC.cell? ⟨ab,0,none⟩ = some (.int .i64 af) := (zi aa.out 0).trans rfl
       have dX : aC.cell? ⟨ab,1,none⟩ = some (.int .i64 ag) := (zi aa.out 1).trans rfl
       have dY : aC.cell? ⟨ab,2,none⟩ = some (.int .i64 ai) := (zi aa.out 2).trans rfl
       have dZ : aC.cell? ⟨ab,3,none⟩ = some (.int .i64 aj) := (zi aa.out 3).trans rfl
       have ea : aC.cell? ⟨ab,4,none⟩ = some (.slice aq an.length ar) := (zi aa.out 4).trans rfl
       have eb : aC.cell? ⟨ab,5,none⟩ = some (.slice au ao.length av) := (zi aa.out 5).trans rfl
       have ec : aC.cell? ⟨ab,6,none⟩ = some (.int .i64 ah) := (zi aa.out 6).trans rfl
       have ed : aC.cell? ⟨ab,7,none⟩ = some (.string ae) := (zi aa.out 7).trans rfl
       have ee : aC.cell? ⟨ab,8,none⟩ = some (.bool true) := (zi aa.out 8).trans rfl
       have ef := zm aa.out 0
       have eg := zm aa.out 1
       have eh := zm aa.out 2
       have ei := zm aa.out 3
       have ej := zm aa.out 4
       have ek := zm aa.out 5
       have el := zm aa.out 6
       have em := zm aa.out 7
       have en := zm aa.out 8
       go_wp2
       go_meet
       case rel => exact ⟨_,(true),(by first | rfl | (simp; done) | (simp [*]; done)),H',⟨by have := HJ3.out; first | omega | exact Nat.le_refl _⟩,⟨by (with_reducible repeat (first | apply zu | apply zt | apply zs)); exact aS.out⟩,⟨by (with_reducible repeat (first | apply zu | apply zt | apply zs)); exact aT.out⟩,⟨by (with_reducible repeat (first | refine zj ?_ _ | refine zl ?_ | refine zk ?_ _)); exact aa.out⟩,⟨by (with_reducible repeat (first | refine zj ?_ _ | refine zl ?_ | refine zk ?_ _)); exact ac.out⟩,⟨by repeat (first | (with_reducible first | exact HB.out | apply Zq | apply Zp | apply Zo | refine Zn ?_ aw.out | refine Zn ?_ aD.out) | exact HB.out)⟩⟩
     ·
      replace cq := Bool.eq_false_iff.mpr cq
      subst cq
      have H1 : (chunk_Take.j1 aQ a2 true af ag ai aj an ao ah ae false) = some (r1,r2,r3,r4,r5,r6,r7,r8,r9,r10,r11) := by rw [if_neg (show ¬ (false = true) by decide)] at H; exact H
      clear H
      have H := H1
      clear H1
      have H' := zzk H
      clear H
      have gN := ax.out
      have gO := ap.out
      have eo : aC.cell? ⟨ab,0,none⟩ = some (.int .i64 af) := (zi aa.out 0).trans rfl
      have ep : aC.cell? ⟨ab,1,none⟩ = some (.int .i64 ag) := (zi aa.out 1).trans rfl
      have er : aC.cell? ⟨ab,2,none⟩ = some (.int .i64 ai) := (zi aa.out 2).trans rfl
      have es : aC.cell? ⟨ab,3,none⟩ = some (.int .i64 aj) := (zi aa.out 3).trans rfl
      have et : aC.cell? ⟨ab,4,none⟩ = some (.slice aq an.length ar) := (zi aa.out 4).trans rfl
      have eu : aC.cell? ⟨ab,5,none⟩ = some (.slice au ao.length av) := (zi aa.out 5).trans rfl
      have ev : aC.cell? ⟨ab,6,none⟩ = some (.int .i64 ah) := (zi aa.out 6).trans rfl
      have ew : aC.cell? ⟨ab,7,none⟩ = some (.string ae) := (zi aa.out 7).trans rfl
      have ex : aC.cell? ⟨ab,8,none⟩ = some (.bool false) := (zi aa.out 8).trans rfl
      have ey := zm aa.out 0
      have ez := zm aa.out 1
      have eA := zm aa.out 2
      have eB := zm aa.out 3
      have eC := zm aa.out 4
      have eD := zm aa.out 5
      have eE := zm aa.out 6
      have eF := zm aa.out 7
      have eG := zm aa.out 8
      go_wp2
      go_meet
      case rel => exact ⟨_,(true),(by first | rfl | (simp; done) | (simp [*]; done)),H',⟨by have := HJ3.out; first | omega | exact Nat.le_refl _⟩,⟨by (with_reducible repeat (first | apply zu | apply zt | apply zs)); exact aS.out⟩,⟨by (with_reducible repeat (first | apply zu | apply zt | apply zs)); exact aT.out⟩,⟨by (with_reducible repeat (first | refine zj ?_ _ | refine zl ?_ | refine zk ?_ _)); exact aa.out⟩,⟨by (with_reducible repeat (first | refine zj ?_ _ | refine zl ?_ | refine zk ?_ _)); exact ac.out⟩,⟨by repeat (first | (with_reducible first | exact HB.out | apply Zq | apply Zp | apply Zo | refine Zn ?_ aw.out | refine Zn ?_ aD.out) | exact HB.out)⟩⟩
    case rest =>
     clear cu
     try clear c1
     try clear c2
     try clear p2
     try clear c3
     try clear c8
     try clear aY
     try clear ct
     try clear gs
     try clear gu
     try clear gv
     try clear cp
     try clear hc
     try clear hf
     try clear hh
     try clear hj
     try clear cq
     try clear be
     try clear aX
     try clear cz
     try clear hl
     try clear hm
     try clear hn
     try clear bk
     try clear bl
     try clear bm
     try clear bn
     try clear bo
     try clear bq
     try clear br
     try clear bs
     try clear bt
     try clear bE
     try clear bF
     try clear bG
     try clear bH
     try clear bI
     try clear bJ
     try clear bK
     try clear bL
     try clear bM
     try clear bW
     try clear bX
     try clear bY
     try clear bZ
     try clear ca
     try clear cb
     try clear cc
     try clear cd
     try clear ce
     try clear cB
     try clear cC
     try clear cD
     try clear cE
     try clear cF
     try clear cG
     try clear cH
     try clear cI
     try clear cJ
     try clear cT
     try clear cU
     try clear cV
     try clear cW
     try clear cX
     try clear cY
     try clear cZ
     try clear da
     try clear db
     try clear dl
     try clear dm
     try clear dn
     try clear dp
     try clear dq
     try clear dr
     try clear ds
     try clear dt
     try clear du
     try clear dE
     try clear dF
     try clear dG
     try clear dH
     try clear dI
     try clear dJ
     try clear dK
     try clear dL
     try clear dM
     try clear dW
     try clear dX
     try clear dY
     try clear dZ
     try clear ea
     try clear eb
     try clear ec
     try clear ed
     try clear ee
     try clear eo
     try clear ep
     try clear er
     try clear es
     try clear et
     try clear eu
     try clear ev
     try clear ew
     try clear ex
     try clear bu
     try clear bv
     try clear bw
     try clear bx
     try clear bz
     try clear bA
     try clear bB
     try clear bC
     try clear bD
     try clear bN
     try clear bO
     try clear bP
     try clear bQ
     try clear bR
     try clear bS
     try clear bT
     try clear bU
     try clear bV
     try clear cf
     try clear cg
     try clear ch
     try clear ci
     try clear cj
     try clear ck
     try clear cl
     try clear cm
     try clear cn
     try clear cK
     try clear cL
     try clear cM
     try clear cN
     try clear cO
     try clear cP
     try clear cQ
     try clear cR
     try clear cS
     try clear dc
     try clear dd
     try clear de
     try clear df
     try clear dg
     try clear dh
     try clear di
     try clear dj
     try clear dk
     try clear dv
     try clear dw
     try clear dx
     try clear dy
     try clear dz
     try clear dA
     try clear dB
     try clear dC
     try clear dD
     try clear dN
     try clear dO
     try clear dP
     try clear dQ
     try clear dR
     try clear dS
     try clear dT
     try clear dU
     try clear dV
     try clear ef
     try clear eg
     try clear eh
     try clear ei
     try clear ej
     try clear ek
     try clear el
     try clear em
     try clear en
     try clear ey
     try clear ez
     try clear eA
     try clear eB
     try clear eC
     try clear eD
     try clear eE
     try clear eF
     try clear eG
     try clear p2
     obtain ⟨kq,bc,rfl,HA,HJ22,HO_337004,HO_337005,aa,ac,HB⟩ := hcut
     cases kq with
     | zero => exact absurd HA.out (by simp [chunk_Take.j1])
     | succ gY =>
      have H := HA.out
      clear HA
      simp only [chunk_Take.j1] at H
      by_cases cA : bc = true
      ·
       subst cA
       have H1 : (some (af,ag,ai,aj,an,ao,ah,ae,ak,false,0)) = some (r1,r2,r3,r4,r5,r6,r7,r8,r9,r10,r11) := by rw [if_pos rfl] at H; exact H
       clear H
       have H := H1
       clear H1
       simp only [zzg,zzh] at H
       obtain ⟨rfl,rfl,rfl,rfl,rfl,rfl,rfl,rfl,rfl,rfl,rfl⟩ := H
       have gP := ax.out
       have gQ := ap.out
       have eR : wc.cell? ⟨ab,0,none⟩ = some (.int .i64 af) := (zi aa.out 0).trans rfl
       have eS : wc.cell? ⟨ab,1,none⟩ = some (.int .i64 ag) := (zi aa.out 1).trans rfl
       have eT : wc.cell? ⟨ab,2,none⟩ = some (.int .i64 ai) := (zi aa.out 2).trans rfl
       have eU : wc.cell? ⟨ab,3,none⟩ = some (.int .i64 aj) := (zi aa.out 3).trans rfl
       have eV : wc.cell? ⟨ab,4,none⟩ = some (.slice aq an.length ar) := (zi aa.out 4).trans rfl
       have eW : wc.cell? ⟨ab,5,none⟩ = some (.slice au ao.length av) := (zi aa.out 5).trans rfl
       have eX : wc.cell? ⟨ab,6,none⟩ = some (.int .i64 ah) := (zi aa.out 6).trans rfl
       have eY : wc.cell? ⟨ab,7,none⟩ = some (.string ae) := (zi aa.out 7).trans rfl
       have eZ : wc.cell? ⟨ab,8,none⟩ = some (.bool ak) := (zi aa.out 8).trans rfl
       have fa := zm aa.out 0
       have fb := zm aa.out 1
       have fc := zm aa.out 2
       have fd := zm aa.out 3
       have fe := zm aa.out 4
       have fg := zm aa.out 5
       have fh := zm aa.out 6
       have fi := zm aa.out 7
       have fj := zm aa.out 8
       have fk : wc.cell? ⟨ad,0,none⟩ = some (.int .i64 0) := (zi ac.out 0).trans rfl
       have fl : wc.cell? ⟨ad,1,none⟩ = some (.int .i64 0) := (zi ac.out 1).trans rfl
       have fm : wc.cell? ⟨ad,2,none⟩ = some (.int .i64 0) := (zi ac.out 2).trans rfl
       have fn : wc.cell? ⟨ad,3,none⟩ = some (.int .i64 0) := (zi ac.out 3).trans rfl
       have fo : wc.cell? ⟨ad,4,none⟩ = some (.slice none 0 0) := (zi ac.out 4).trans rfl
       have fp : wc.cell? ⟨ad,5,none⟩ = some (.slice none 0 0) := (zi ac.out 5).trans rfl
       have fq : wc.cell? ⟨ad,6,none⟩ = some (.int .i64 0) := (zi ac.out 6).trans rfl
       have fr : wc.cell? ⟨ad,7,none⟩ = some (.string (⟨#[]⟩ : ByteArray)) := (zi ac.out 7).trans rfl
       have fs : wc.cell? ⟨ad,8,none⟩ = some (.bool false) := (zi ac.out 8).trans rfl
       have ft := zm ac.out 0
       have fu := zm ac.out 1
       have fv := zm ac.out 2
       have fw := zm ac.out 3
       have fx := zm ac.out 4
       have fy := zm ac.out 5
       have fz := zm ac.out 6
       have fA := zm ac.out 7
       have fB := zm ac.out 8
       go_wp2
       refine zzf (results_ctt rfl _ _ ad 34 #[.int .i64 af,.int .i64 ag,.int .i64 ai,.int .i64 aj,.slice aq an.length ar,.slice au ao.length av,.int .i64 ah,.string ae,.bool ak] (0,0) _ rfl (by (with_reducible repeat (first | refine zj ?_ _ | refine zl ?_ | refine zk ?_ _)); refine zp (cs := #[.int .i64 af,.int .i64 ag,.int .i64 ai,.int .i64 aj,.slice aq an.length ar,.slice au ao.length av,.int .i64 ah,.string ae,.bool false]) ?_ 8 _ rfl; (with_reducible repeat (first | refine zj ?_ _ | refine zl ?_ | refine zk ?_ _)); refine zp (cs := #[.int .i64 af,.int .i64 ag,.int .i64 ai,.int .i64 aj,.slice aq an.length ar,.slice au ao.length av,.int .i64 ah,.string (⟨#[]⟩ : ByteArray),.bool false]) ?_ 7 _ rfl; (with_reducible repeat (first | refine zj ?_ _ | refine zl ?_ | refine zk ?_ _)); refine zp (cs := #[.int .i64 af,.int .i64 ag,.int .i64 ai,.int .i64 aj,.slice aq an.length ar,.slice au ao.length av,.int .i64 0,.string (⟨#[]⟩ : ByteArray),.bool false]) ?_ 6 _ rfl; (with_reducible repeat (first | refine zj ?_ _ | refine zl ?_ | refine zk ?_ _)); refine zp (cs := #[.int .i64 af,.int .i64 ag,.int .i64 ai,.int .i64 aj,.slice aq an.length ar,.slice none 0 0,.int .i64 0,.string (⟨#[]⟩ : ByteArray),.bool false]) ?_ 5 _ rfl; (with_reducible repeat (first | refine zj ?_ _ | refine zl ?_ | refine zk ?_ _)); refine zp (cs := #[.int .i64 af,.int .i64 ag,.int .i64 ai,.int .i64 aj,.slice none 0 0,.slice none 0 0,.int .i64 0,.string (⟨#[]⟩ : ByteArray),.bool false]) ?_ 4 _ rfl; (with_reducible repeat (first | refine zj ?_ _ | refine zl ?_ | refine zk ?_ _)); refine zp (cs := #[.int .i64 af,.int .i64 ag,.int .i64 ai,.int .i64 0,.slice none 0 0,.slice none 0 0,.int .i64 0,.string (⟨#[]⟩ : ByteArray),.bool false]) ?_ 3 _ rfl; (with_reducible repeat (first | refine zj ?_ _ | refine zl ?_ | refine zk ?_ _)); refine zp (cs := #[.int .i64 af,.int .i64 ag,.int .i64 0,.int .i64 0,.slice none 0 0,.slice none 0 0,.int .i64 0,.string (⟨#[]⟩ : ByteArray),.bool false]) ?_ 2 _ rfl; (with_reducible repeat (first | refine zj ?_ _ | refine zl ?_ | refine zk ?_ _)); refine zp (cs := #[.int .i64 af,.int .i64 0,.int .i64 0,.int .i64 0,.slice none 0 0,.slice none 0 0,.int .i64 0,.string (⟨#[]⟩ : ByteArray),.bool false]) ?_ 1 _ rfl; (with_reducible repeat (first | refine zj ?_ _ | refine zl ?_ | refine zk ?_ _)); refine zp (cs := #[.int .i64 0,.int .i64 0,.int .i64 0,.int .i64 0,.slice none 0 0,.slice none 0 0,.int .i64 0,.string (⟨#[]⟩ : ByteArray),.bool false]) ?_ 0 _ rfl; (with_reducible repeat (first | refine zj ?_ _ | refine zl ?_ | refine zk ?_ _)); exact ac.out) Try.underlying34 rfl (by kernel_rfl)) rfl ?_
       exact ⟨_,_,by first | rfl | (simp [zzl,zzm] <;> rfl) | (simp [*,zzl,zzm] <;> rfl),by (with_reducible repeat (first | apply zu | apply zt | apply zs)); exact zx (zr (p := ⟨ad,8,none⟩) (zr (p := ⟨ad,7,none⟩) (zr (p := ⟨ad,6,none⟩) (zr (p := ⟨ad,5,none⟩) (zr (p := ⟨ad,4,none⟩) (zr (p := ⟨ad,3,none⟩) (zr (p := ⟨ad,2,none⟩) (zr (p := ⟨ad,1,none⟩) (zr (p := ⟨ad,0,none⟩) (zy HO_337004.out ac.out (by decide)) (fun _ hk => hk.2) (.int .i64 af)) (fun _ hk => hk.2) (.int .i64 ag)) (fun _ hk => hk.2) (.int .i64 ai)) (fun _ hk => hk.2) (.int .i64 aj)) (fun _ hk => hk.2) (.slice aq an.length ar)) (fun _ hk => hk.2) (.slice au ao.length av)) (fun _ hk => hk.2) (.int .i64 ah)) (fun _ hk => hk.2) (.string ae)) (fun _ hk => hk.2) (.bool ak)) (fun _ hk => hk.1),by (with_reducible repeat (first | apply zu | apply zt | apply zs)); exact zx (zr (p := ⟨ad,8,none⟩) (zr (p := ⟨ad,7,none⟩) (zr (p := ⟨ad,6,none⟩) (zr (p := ⟨ad,5,none⟩) (zr (p := ⟨ad,4,none⟩) (zr (p := ⟨ad,3,none⟩) (zr (p := ⟨ad,2,none⟩) (zr (p := ⟨ad,1,none⟩) (zr (p := ⟨ad,0,none⟩) (zy HO_337005.out ac.out (by decide)) (fun _ hk => hk.2) (.int .i64 af)) (fun _ hk => hk.2) (.int .i64 ag)) (fun _ hk => hk.2) (.int .i64 ai)) (fun _ hk => hk.2) (.int .i64 aj)) (fun _ hk => hk.2) (.slice aq an.length ar)) (fun _ hk => hk.2) (.slice au ao.length av)) (fun _ hk => hk.2) (.int .i64 ah)) (fun _ hk => hk.2) (.string ae)) (fun _ hk => hk.2) (.bool ak)) (fun _ hk => hk.1),by repeat (first | (with_reducible first | exact HB.out | apply Zq | apply Zp | apply Zo | refine Zn ?_ aw.out | refine Zn ?_ aD.out) | exact HB.out)⟩
      ·
       replace cA := Bool.eq_false_iff.mpr cA
       subst cA
       have H1 : (if ae.size + a2.size ≤ 9223372036854775807 then (some (af,ag,ai,aj,an,ao,ah,ae ++ a2,decide (((ae.size : Int) + (a2.size : Int)) < ah),true,0)) else (none)) = some (r1,r2,r3,r4,r5,r6,r7,r8,r9,r10,r11) := by rw [if_neg (show ¬ (false = true) by decide)] at H; exact H
       clear H
       have H := H1
       clear H1
       by_cases cr : ae.size + a2.size ≤ 9223372036854775807
       ·
        rw [if_pos cr] at H
        have gR := eq_true cr
        have gS : decide (ae.size + a2.size ≤ 9223372036854775807) = true := zzn cr
        try have gT : (9223372036854775807 < ae.size + a2.size) = False := eq_false (Nat.not_lt.2 cr)
        simp only [zzg,zzh] at H
        obtain ⟨rfl,rfl,rfl,rfl,rfl,rfl,rfl,rfl,rfl,rfl,rfl⟩ := H
        have gU := ax.out
        have gV := ap.out
        have fC : wc.cell? ⟨ab,0,none⟩ = some (.int .i64 af) := (zi aa.out 0).trans rfl
        have fD : wc.cell? ⟨ab,1,none⟩ = some (.int .i64 ag) := (zi aa.out 1).trans rfl
        have fE : wc.cell? ⟨ab,2,none⟩ = some (.int .i64 ai) := (zi aa.out 2).trans rfl
        have fF : wc.cell? ⟨ab,3,none⟩ = some (.int .i64 aj) := (zi aa.out 3).trans rfl
        have fG : wc.cell? ⟨ab,4,none⟩ = some (.slice aq an.length ar) := (zi aa.out 4).trans rfl
        have fH : wc.cell? ⟨ab,5,none⟩ = some (.slice au ao.length av) := (zi aa.out 5).trans rfl
        have fI : wc.cell? ⟨ab,6,none⟩ = some (.int .i64 ah) := (zi aa.out 6).trans rfl
        have fJ : wc.cell? ⟨ab,7,none⟩ = some (.string ae) := (zi aa.out 7).trans rfl
        have fK : wc.cell? ⟨ab,8,none⟩ = some (.bool ak) := (zi aa.out 8).trans rfl
        have fL := zm aa.out 0
        have fM := zm aa.out 1
        have fN := zm aa.out 2
        have fO := zm aa.out 3
        have fP := zm aa.out 4
        have fQ := zm aa.out 5
        have fR := zm aa.out 6
        have fS := zm aa.out 7
        have fT := zm aa.out 8
        have fU : wc.cell? ⟨ad,0,none⟩ = some (.int .i64 0) := (zi ac.out 0).trans rfl
        have fV : wc.cell? ⟨ad,1,none⟩ = some (.int .i64 0) := (zi ac.out 1).trans rfl
        have fW : wc.cell? ⟨ad,2,none⟩ = some (.int .i64 0) := (zi ac.out 2).trans rfl
        have fX : wc.cell? ⟨ad,3,none⟩ = some (.int .i64 0) := (zi ac.out 3).trans rfl
        have fY : wc.cell? ⟨ad,4,none⟩ = some (.slice none 0 0) := (zi ac.out 4).trans rfl
        have fZ : wc.cell? ⟨ad,5,none⟩ = some (.slice none 0 0) := (zi ac.out 5).trans rfl
        have ga : wc.cell? ⟨ad,6,none⟩ = some (.int .i64 0) := (zi ac.out 6).trans rfl
        have gb : wc.cell? ⟨ad,7,none⟩ = some (.string (⟨#[]⟩ : ByteArray)) := (zi ac.out 7).trans rfl
        have gc : wc.cell? ⟨ad,8,none⟩ = some (.bool false) := (zi ac.out 8).trans rfl
        have gd := zm ac.out 0
        have gf := zm ac.out 1
        have gg := zm ac.out 2
        have gh := zm ac.out 3
        have gi := zm ac.out 4
        have gj := zm ac.out 5
        have gl := zm ac.out 6
        have gm := zm ac.out 7
        have gn := zm ac.out 8
        go_wp2
        refine zzf (results_ctt rfl _ _ ad 34 #[.int .i64 af,.int .i64 ag,.int .i64 ai,.int .i64 aj,.slice aq an.length ar,.slice au ao.length av,.int .i64 ah,.string (ae ++ a2),.bool (decide (((ae.size : Int) + (a2.size : Int)) < ah))] (0,0) _ rfl (by (with_reducible repeat (first | refine zj ?_ _ | refine zl ?_ | refine zk ?_ _)); refine zp (cs := #[.int .i64 af,.int .i64 ag,.int .i64 ai,.int .i64 aj,.slice aq an.length ar,.slice au ao.length av,.int .i64 ah,.string (ae ++ a2),.bool false]) ?_ 8 _ rfl; (with_reducible repeat (first | refine zj ?_ _ | refine zl ?_ | refine zk ?_ _)); refine zp (cs := #[.int .i64 af,.int .i64 ag,.int .i64 ai,.int .i64 aj,.slice aq an.length ar,.slice au ao.length av,.int .i64 ah,.string (⟨#[]⟩ : ByteArray),.bool false]) ?_ 7 _ rfl; (with_reducible repeat (first | refine zj ?_ _ | refine zl ?_ | refine zk ?_ _)); refine zp (cs := #[.int .i64 af,.int .i64 ag,.int .i64 ai,.int .i64 aj,.slice aq an.length ar,.slice au ao.length av,.int .i64 0,.string (⟨#[]⟩ : ByteArray),.bool false]) ?_ 6 _ rfl; (with_reducible repeat (first | refine zj ?_ _ | refine zl ?_ | refine zk ?_ _)); refine zp (cs := #[.int .i64 af,.int .i64 ag,.int .i64 ai,.int .i64 aj,.slice aq an.length ar,.slice none 0 0,.int .i64 0,.string (⟨#[]⟩ : ByteArray),.bool false]) ?_ 5 _ rfl; (with_reducible repeat (first | refine zj ?_ _ | refine zl ?_ | refine zk ?_ _)); refine zp (cs := #[.int .i64 af,.int .i64 ag,.int .i64 ai,.int .i64 aj,.slice none 0 0,.slice none 0 0,.int .i64 0,.string (⟨#[]⟩ : ByteArray),.bool false]) ?_ 4 _ rfl; (with_reducible repeat (first | refine zj ?_ _ | refine zl ?_ | refine zk ?_ _)); refine zp (cs := #[.int .i64 af,.int .i64 ag,.int .i64 ai,.int .i64 0,.slice none 0 0,.slice none 0 0,.int .i64 0,.string (⟨#[]⟩ : ByteArray),.bool false]) ?_ 3 _ rfl; (with_reducible repeat (first | refine zj ?_ _ | refine zl ?_ | refine zk ?_ _)); refine zp (cs := #[.int .i64 af,.int .i64 ag,.int .i64 0,.int .i64 0,.slice none 0 0,.slice none 0 0,.int .i64 0,.string (⟨#[]⟩ : ByteArray),.bool false]) ?_ 2 _ rfl; (with_reducible repeat (first | refine zj ?_ _ | refine zl ?_ | refine zk ?_ _)); refine zp (cs := #[.int .i64 af,.int .i64 0,.int .i64 0,.int .i64 0,.slice none 0 0,.slice none 0 0,.int .i64 0,.string (⟨#[]⟩ : ByteArray),.bool false]) ?_ 1 _ rfl; (with_reducible repeat (first | refine zj ?_ _ | refine zl ?_ | refine zk ?_ _)); refine zp (cs := #[.int .i64 0,.int .i64 0,.int .i64 0,.int .i64 0,.slice none 0 0,.slice none 0 0,.int .i64 0,.string (⟨#[]⟩ : ByteArray),.bool false]) ?_ 0 _ rfl; (with_reducible repeat (first | refine zj ?_ _ | refine zl ?_ | refine zk ?_ _)); refine zn ?_ ap.out _; (with_reducible repeat (first | refine zj ?_ _ | refine zl ?_ | refine zk ?_ _)); refine zn ?_ ap.out _; (with_reducible repeat (first | refine zj ?_ _ | refine zl ?_ | refine zk ?_ _)); exact ac.out) Try.underlying34 rfl (by kernel_rfl)) rfl ?_
        exact ⟨_,_,by first | rfl | (simp [zzl,zzm] <;> rfl) | (simp [*,zzl,zzm] <;> rfl),by (with_reducible repeat (first | apply zu | apply zt | apply zs)); exact zx (zr (p := ⟨ad,8,none⟩) (zr (p := ⟨ad,7,none⟩) (zr (p := ⟨ad,6,none⟩) (zr (p := ⟨ad,5,none⟩) (zr (p := ⟨ad,4,none⟩) (zr (p := ⟨ad,3,none⟩) (zr (p := ⟨ad,2,none⟩) (zr (p := ⟨ad,1,none⟩) (zr (p := ⟨ad,0,none⟩) (zr (p := ⟨ab,8,none⟩) (zr (p := ⟨ab,7,none⟩) (zy (zy HO_337004.out aa.out (by decide)) ac.out (by decide)) (fun _ hk => hk.1.2) (.string (ae ++ a2))) (fun _ hk => hk.1.2) (.bool (decide (((ae.size : Int) + (a2.size : Int)) < ah)))) (fun _ hk => hk.2) (.int .i64 af)) (fun _ hk => hk.2) (.int .i64 ag)) (fun _ hk => hk.2) (.int .i64 ai)) (fun _ hk => hk.2) (.int .i64 aj)) (fun _ hk => hk.2) (.slice aq an.length ar)) (fun _ hk => hk.2) (.slice au ao.length av)) (fun _ hk => hk.2) (.int .i64 ah)) (fun _ hk => hk.2) (.string (ae ++ a2))) (fun _ hk => hk.2) (.bool (decide (((ae.size : Int) + (a2.size : Int)) < ah)))) (fun _ hk => hk.1.1),by (with_reducible repeat (first | apply zu | apply zt | apply zs)); exact zx (zr (p := ⟨ad,8,none⟩) (zr (p := ⟨ad,7,none⟩) (zr (p := ⟨ad,6,none⟩) (zr (p := ⟨ad,5,none⟩) (zr (p := ⟨ad,4,none⟩) (zr (p := ⟨ad,3,none⟩) (zr (p := ⟨ad,2,none⟩) (zr (p := ⟨ad,1,none⟩) (zr (p := ⟨ad,0,none⟩) (zr (p := ⟨ab,8,none⟩) (zr (p := ⟨ab,7,none⟩) (zy (zy HO_337005.out aa.out (by decide)) ac.out (by decide)) (fun _ hk => hk.1.2) (.string (ae ++ a2))) (fun _ hk => hk.1.2) (.bool (decide (((ae.size : Int) + (a2.size : Int)) < ah)))) (fun _ hk => hk.2) (.int .i64 af)) (fun _ hk => hk.2) (.int .i64 ag)) (fun _ hk => hk.2) (.int .i64 ai)) (fun _ hk => hk.2) (.int .i64 aj)) (fun _ hk => hk.2) (.slice aq an.length ar)) (fun _ hk => hk.2) (.slice au ao.length av)) (fun _ hk => hk.2) (.int .i64 ah)) (fun _ hk => hk.2) (.string (ae ++ a2))) (fun _ hk => hk.2) (.bool (decide (((ae.size : Int) + (a2.size : Int)) < ah)))) (fun _ hk => hk.1.1),by repeat (first | (with_reducible first | exact HB.out | apply Zq | apply Zp | apply Zo | refine Zn ?_ aw.out | refine Zn ?_ aD.out) | exact HB.out)⟩
       ·
        rw [if_neg cr] at H
        exact absurd H (by simp)
end Go.Proofs.Ytpagkmdlmhdenaa.PAll
