-- Written by a program of the session.
import Derived.Test.YtpagkmdlmhdenaaAlAll
import Derived.Test.YtpagkmdlmhdenaaPAllx0
namespace Go.Proofs.Ytpagkmdlmhdenaa.PAll
open Go.RowKit Go.Proofs.YtpagkmdlmhdenaaW.PrintWords Go.Proofs.YtpagkmdlmhdenaaW.PrintLast Go.Proofs.YtpagkmdlmhdenaaW.PrintMore
attribute [local go_sem] max2_int min2_int max_two min_two max_three min_three max_four min_four   -- for this text's walks alone
set_option linter.unusedVariables false
set_option linter.unusedSimpArgs false
/-! ### r16_Zero: function 37 -/
def r16_Zero.f (ad : Int) (ae : Int) (af : Int) (ag : Int) (ac : List Int) (aj : List Int) (ah : Int) (ai : ByteArray) (av : Bool) : Option (Bool) := if ad = 0 then (if ae = 0 then (if af = 0 then (if ag = 0 then (if ah = 0 then (if ai.toList = ([] : List UInt8) then (if av = true then (some false) else (if (ac.length : Int) = 0 then (some ((aj.length : Int) == 0)) else (some false))) else (some false)) else (some false)) else (some false)) else (some false)) else (some false)) else (some false)
set_option maxHeartbeats 8000000 in
set_option maxRecDepth 100000 in
theorem r16_Zero.calls (ad : Int) (ae : Int) (af : Int) (ag : Int) (al : Option Addr) (am : Nat) (ac : List Int) (an : Option Addr) (ao : Nat) (aj : List Int) (ah : Int) (ai : ByteArray) (av : Bool) (r : Bool) (w : World) (aG : Kd.C (Kd.int .i64) w al ac.length ac) (aH : ac.length ≤ am) (aI : Kd.C (Kd.int .i64) w an aj.length aj) (aJ : aj.length ≤ ao) (h : r16_Zero.f ad ae af ag ac aj ah ai av = some r) :
 Calls Try.prog 37 #[.agg #[.int .i64 ad,.int .i64 ae,.int .i64 af,.int .i64 ag,.slice al ac.length am,.slice an aj.length ao,.int .i64 ah,.string ai,.bool av]] w fun e w' => e = .returned (.bool r) ∧ Below w.heap.size w w' := by
 have hu34 := Try.underlying34
 have ei := zzk aG
 have ej := zzk aH
 clear aG aH
 have ek := zzk aI
 have el := zzk aJ
 clear aI aJ
 have HB := zzk (Below.refl w.heap.size w)
 have H : (if ad = 0 then (if ae = 0 then (if af = 0 then (if ag = 0 then (if ah = 0 then (if ai.toList = ([] : List UInt8) then (if av = true then (some false) else (if (ac.length : Int) = 0 then (some ((aj.length : Int) == 0)) else (some false))) else (some false)) else (some false)) else (some false)) else (some false)) else (some false)) else (some false)) = some r := h
 clear h
 by_cases c2 : ad = 0
 ·
  rw [if_pos c2] at H
  have aM : (ad == 0) = true := beq_iff_eq.mpr c2
  have aN : (ad != 0) = false := bne_eq_false_iff_eq.mpr c2
  clear c2
  by_cases c3 : ae = 0
  ·
   rw [if_pos c3] at H
   have aO : (ae == 0) = true := beq_iff_eq.mpr c3
   have aP : (ae != 0) = false := bne_eq_false_iff_eq.mpr c3
   clear c3
   by_cases c4 : af = 0
   ·
    rw [if_pos c4] at H
    have aQ : (af == 0) = true := beq_iff_eq.mpr c4
    have aR : (af != 0) = false := bne_eq_false_iff_eq.mpr c4
    clear c4
    by_cases c5 : ag = 0
    ·
     rw [if_pos c5] at H
     have aS : (ag == 0) = true := beq_iff_eq.mpr c5
     have aT : (ag != 0) = false := bne_eq_false_iff_eq.mpr c5
     clear c5
     by_cases c6 : ah = 0
     ·
      rw [if_pos c6] at H
      have aU : (ah == 0) = true := beq_iff_eq.mpr c6
      have aV : (ah != 0) = false := bne_eq_false_iff_eq.mpr c6
      clear c6
      by_cases c7 : ai.toList = ([] : List UInt8)
      ·
       rw [if_pos c7] at H
       have aW : (ai.toList == ([] : List UInt8)) = true := beq_iff_eq.mpr c7
       have aX : (ai.toList != ([] : List UInt8)) = false := bne_eq_false_iff_eq.mpr c7
       clear c7
       by_cases c8 : av = true
       ·
        subst c8
        have H1 : (some false) = some r := by rw [if_pos rfl] at H; exact H
        clear H
        have H := H1
        clear H1
        obtain rfl := zzu H
        go_enter Try.func37,Try.ntmps37
        go_wp2_with (first | ((with_reducible refine Zy (N := 1) rfl ?_); (try (refine Zz (by rfl) ?_; dsimp only)); refine zzc ?hg (N := 1) ?hd (cs := #[.int .i64 ad,.int .i64 ae,.int .i64 af,.int .i64 ag,.slice al ac.length am,.slice an aj.length ao,.int .i64 ah,.string ai,.bool true]) (t := 34) ?hr ?_; (case hd => rfl); (case hg => rfl); (case hr => first | (go_simp; done) | (go_simp; rfl)); intro ab hg w9 hbox hb; have ap := zzk (Zs (by repeat (first | (with_reducible first | exact HB.out | apply Zq | apply Zp | apply Zo) | exact HB.out)) hb); have aq := zzk (hbox); have ar := zzk ((by rw [hg]; exact (Zr (by repeat (first | (with_reducible first | exact HB.out | apply Zq | apply Zp | apply Zo) | exact HB.out))) : w.heap.size ≤ ab)); have au := zzk ((by rw [hg]; exact (Zr (by repeat (first | (with_reducible first | exact HB.out | apply Zq | apply Zp | apply Zo) | exact HB.out))) : w.heap.size ≤ ab)); clear HB; have HB := ap; have aa := aq; have aw := ar; have ak := au; clear ap aq ar au; clear hb hbox hg; have aY : w9.cell? ⟨ab,0,none⟩ = some (.int .i64 ad) := (zi aa.out 0).trans rfl; have aZ : w9.cell? ⟨ab,1,none⟩ = some (.int .i64 ae) := (zi aa.out 1).trans rfl; have ba : w9.cell? ⟨ab,2,none⟩ = some (.int .i64 af) := (zi aa.out 2).trans rfl; have bb : w9.cell? ⟨ab,3,none⟩ = some (.int .i64 ag) := (zi aa.out 3).trans rfl; have bc : w9.cell? ⟨ab,4,none⟩ = some (.slice al ac.length am) := (zi aa.out 4).trans rfl; have bd : w9.cell? ⟨ab,5,none⟩ = some (.slice an aj.length ao) := (zi aa.out 5).trans rfl; have be : w9.cell? ⟨ab,6,none⟩ = some (.int .i64 ah) := (zi aa.out 6).trans rfl; have bf : w9.cell? ⟨ab,7,none⟩ = some (.string ai) := (zi aa.out 7).trans rfl; have bg : w9.cell? ⟨ab,8,none⟩ = some (.bool true) := (zi aa.out 8).trans rfl; have bh := zm aa.out 0; have bi := zm aa.out 1; have bj := zm aa.out 2; have bk := zm aa.out 3; have bl := zm aa.out 4; have bm := zm aa.out 5; have bn := zm aa.out 6; have bo := zm aa.out 7; have bq := zm aa.out 8))
        go_ret
        exact ⟨by first | rfl | (simp [zzl,zzm] <;> rfl) | (simp [*,zzl,zzm] <;> rfl),by repeat (first | (with_reducible first | exact HB.out | apply Zq | apply Zp | apply Zo | refine Zn ?_ ak.out) | exact HB.out)⟩
       ·
        replace c8 := Bool.eq_false_iff.mpr c8
        subst c8
        have H1 : (if (ac.length : Int) = 0 then (some ((aj.length : Int) == 0)) else (some false)) = some r := by rw [if_neg (show ¬ (false = true) by decide)] at H; exact H
        clear H
        have H := H1
        clear H1
        by_cases aF : (ac.length : Int) = 0
        ·
         rw [if_pos aF] at H
         have aK : ((ac.length : Int) == 0) = true := beq_iff_eq.mpr aF
         have aL : ((ac.length : Int) != 0) = false := bne_eq_false_iff_eq.mpr aF
         clear aF
         obtain rfl := zzu H
         go_enter Try.func37,Try.ntmps37
         go_wp2_with (first | ((with_reducible refine Zy (N := 1) rfl ?_); (try (refine Zz (by rfl) ?_; dsimp only)); refine zzc ?hg (N := 1) ?hd (cs := #[.int .i64 ad,.int .i64 ae,.int .i64 af,.int .i64 ag,.slice al ac.length am,.slice an aj.length ao,.int .i64 ah,.string ai,.bool false]) (t := 34) ?hr ?_; (case hd => rfl); (case hg => rfl); (case hr => first | (go_simp; done) | (go_simp; rfl)); intro ab hg ax hbox hb; have ap := zzk (Zs (by repeat (first | (with_reducible first | exact HB.out | apply Zq | apply Zp | apply Zo) | exact HB.out)) hb); have aq := zzk (hbox); have ar := zzk ((by rw [hg]; exact (Zr (by repeat (first | (with_reducible first | exact HB.out | apply Zq | apply Zp | apply Zo) | exact HB.out))) : w.heap.size ≤ ab)); have au := zzk ((by rw [hg]; exact (Zr (by repeat (first | (with_reducible first | exact HB.out | apply Zq | apply Zp | apply Zo) | exact HB.out))) : w.heap.size ≤ ab)); clear HB; have HB := ap; have aa := aq; have aw := ar; have ak := au; clear ap aq ar au; clear hb hbox hg; have br : ax.cell? ⟨ab,0,none⟩ = some (.int .i64 ad) := (zi aa.out 0).trans rfl; have bs : ax.cell? ⟨ab,1,none⟩ = some (.int .i64 ae) := (zi aa.out 1).trans rfl; have bt : ax.cell? ⟨ab,2,none⟩ = some (.int .i64 af) := (zi aa.out 2).trans rfl; have bu : ax.cell? ⟨ab,3,none⟩ = some (.int .i64 ag) := (zi aa.out 3).trans rfl; have bv : ax.cell? ⟨ab,4,none⟩ = some (.slice al ac.length am) := (zi aa.out 4).trans rfl; have bw : ax.cell? ⟨ab,5,none⟩ = some (.slice an aj.length ao) := (zi aa.out 5).trans rfl; have bx : ax.cell? ⟨ab,6,none⟩ = some (.int .i64 ah) := (zi aa.out 6).trans rfl; have bz : ax.cell? ⟨ab,7,none⟩ = some (.string ai) := (zi aa.out 7).trans rfl; have bA : ax.cell? ⟨ab,8,none⟩ = some (.bool false) := (zi aa.out 8).trans rfl; have bB := zm aa.out 0; have bC := zm aa.out 1; have bD := zm aa.out 2; have bE := zm aa.out 3; have bF := zm aa.out 4; have bG := zm aa.out 5; have bH := zm aa.out 6; have bI := zm aa.out 7; have bJ := zm aa.out 8))
         go_ret
         exact ⟨by first | rfl | (simp [zzl,zzm] <;> rfl) | (simp [*,zzl,zzm] <;> rfl),by repeat (first | (with_reducible first | exact HB.out | apply Zq | apply Zp | apply Zo | refine Zn ?_ ak.out) | exact HB.out)⟩
        ·
         rw [if_neg aF] at H
         have aK : ((ac.length : Int) == 0) = false := beq_eq_false_iff_ne.mpr aF
         have aL : ((ac.length : Int) != 0) = true := bne_iff_ne.mpr aF
         have em : ¬ (ac = []) := fun h_ => aF (by rw [h_]; rfl)
         obtain rfl := zzu H
         go_enter Try.func37,Try.ntmps37
         go_wp2_with (first | ((with_reducible refine Zy (N := 1) rfl ?_); (try (refine Zz (by rfl) ?_; dsimp only)); refine zzc ?hg (N := 1) ?hd (cs := #[.int .i64 ad,.int .i64 ae,.int .i64 af,.int .i64 ag,.slice al ac.length am,.slice an aj.length ao,.int .i64 ah,.string ai,.bool false]) (t := 34) ?hr ?_; (case hd => rfl); (case hg => rfl); (case hr => first | (go_simp; done) | (go_simp; rfl)); intro ab hg ay hbox hb; have ap := zzk (Zs (by repeat (first | (with_reducible first | exact HB.out | apply Zq | apply Zp | apply Zo) | exact HB.out)) hb); have aq := zzk (hbox); have ar := zzk ((by rw [hg]; exact (Zr (by repeat (first | (with_reducible first | exact HB.out | apply Zq | apply Zp | apply Zo) | exact HB.out))) : w.heap.size ≤ ab)); have au := zzk ((by rw [hg]; exact (Zr (by repeat (first | (with_reducible first | exact HB.out | apply Zq | apply Zp | apply Zo) | exact HB.out))) : w.heap.size ≤ ab)); clear HB; have HB := ap; have aa := aq; have aw := ar; have ak := au; clear ap aq ar au; clear hb hbox hg; have bK : ay.cell? ⟨ab,0,none⟩ = some (.int .i64 ad) := (zi aa.out 0).trans rfl; have bL : ay.cell? ⟨ab,1,none⟩ = some (.int .i64 ae) := (zi aa.out 1).trans rfl; have bM : ay.cell? ⟨ab,2,none⟩ = some (.int .i64 af) := (zi aa.out 2).trans rfl; have bN : ay.cell? ⟨ab,3,none⟩ = some (.int .i64 ag) := (zi aa.out 3).trans rfl; have bO : ay.cell? ⟨ab,4,none⟩ = some (.slice al ac.length am) := (zi aa.out 4).trans rfl; have bP : ay.cell? ⟨ab,5,none⟩ = some (.slice an aj.length ao) := (zi aa.out 5).trans rfl; have bQ : ay.cell? ⟨ab,6,none⟩ = some (.int .i64 ah) := (zi aa.out 6).trans rfl; have bR : ay.cell? ⟨ab,7,none⟩ = some (.string ai) := (zi aa.out 7).trans rfl; have bS : ay.cell? ⟨ab,8,none⟩ = some (.bool false) := (zi aa.out 8).trans rfl; have bT := zm aa.out 0; have bU := zm aa.out 1; have bV := zm aa.out 2; have bW := zm aa.out 3; have bX := zm aa.out 4; have bY := zm aa.out 5; have bZ := zm aa.out 6; have ca := zm aa.out 7; have cb := zm aa.out 8))
         go_ret
         exact ⟨by first | rfl | (simp [zzl,zzm] <;> rfl) | (simp [*,zzl,zzm] <;> rfl),by repeat (first | (with_reducible first | exact HB.out | apply Zq | apply Zp | apply Zo | refine Zn ?_ ak.out) | exact HB.out)⟩
      ·
       rw [if_neg c7] at H
       have aW : (ai.toList == ([] : List UInt8)) = false := beq_eq_false_iff_ne.mpr c7
       have aX : (ai.toList != ([] : List UInt8)) = true := bne_iff_ne.mpr c7
       obtain rfl := zzu H
       go_enter Try.func37,Try.ntmps37
       go_wp2_with (first | ((with_reducible refine Zy (N := 1) rfl ?_); (try (refine Zz (by rfl) ?_; dsimp only)); refine zzc ?hg (N := 1) ?hd (cs := #[.int .i64 ad,.int .i64 ae,.int .i64 af,.int .i64 ag,.slice al ac.length am,.slice an aj.length ao,.int .i64 ah,.string ai,.bool av]) (t := 34) ?hr ?_; (case hd => rfl); (case hg => rfl); (case hr => first | (go_simp; done) | (go_simp; rfl)); intro ab hg az hbox hb; have ap := zzk (Zs (by repeat (first | (with_reducible first | exact HB.out | apply Zq | apply Zp | apply Zo) | exact HB.out)) hb); have aq := zzk (hbox); have ar := zzk ((by rw [hg]; exact (Zr (by repeat (first | (with_reducible first | exact HB.out | apply Zq | apply Zp | apply Zo) | exact HB.out))) : w.heap.size ≤ ab)); have au := zzk ((by rw [hg]; exact (Zr (by repeat (first | (with_reducible first | exact HB.out | apply Zq | apply Zp | apply Zo) | exact HB.out))) : w.heap.size ≤ ab)); clear HB; have HB := ap; have aa := aq; have aw := ar; have ak := au; clear ap aq ar au; clear hb hbox hg; have cc : az.cell? ⟨ab,0,none⟩ = some (.int .i64 ad) := (zi aa.out 0).trans rfl; have cd : az.cell? ⟨ab,1,none⟩ = some (.int .i64 ae) := (zi aa.out 1).trans rfl; have ce : az.cell? ⟨ab,2,none⟩ = some (.int .i64 af) := (zi aa.out 2).trans rfl; have cf : az.cell? ⟨ab,3,none⟩ = some (.int .i64 ag) := (zi aa.out 3).trans rfl; have cg : az.cell? ⟨ab,4,none⟩ = some (.slice al ac.length am) := (zi aa.out 4).trans rfl; have ch : az.cell? ⟨ab,5,none⟩ = some (.slice an aj.length ao) := (zi aa.out 5).trans rfl; have ci : az.cell? ⟨ab,6,none⟩ = some (.int .i64 ah) := (zi aa.out 6).trans rfl; have cj : az.cell? ⟨ab,7,none⟩ = some (.string ai) := (zi aa.out 7).trans rfl; have ck : az.cell? ⟨ab,8,none⟩ = some (.bool av) := (zi aa.out 8).trans rfl; have cl := zm aa.out 0; have cm := zm aa.out 1; have cn := zm aa.out 2; have co := zm aa.out 3; have cp := zm aa.out 4; have cq := zm aa.out 5; have cr := zm aa.out 6; have ct := zm aa.out 7; have cu := zm aa.out 8))
       go_ret
       exact ⟨by first | rfl | (simp [zzl,zzm] <;> rfl) | (simp [*,zzl,zzm] <;> rfl),by repeat (first | (with_reducible first | exact HB.out | apply Zq | apply Zp | apply Zo | refine Zn ?_ ak.out) | exact HB.out)⟩
     ·
      rw [if_neg c6] at H
      have aU : (ah == 0) = false := beq_eq_false_iff_ne.mpr c6
      have aV : (ah != 0) = true := bne_iff_ne.mpr c6
      obtain rfl := zzu H
      go_enter Try.func37,Try.ntmps37
      go_wp2_with (first | ((with_reducible refine Zy (N := 1) rfl ?_); (try (refine Zz (by rfl) ?_; dsimp only)); refine zzc ?hg (N := 1) ?hd (cs := #[.int .i64 ad,.int .i64 ae,.int .i64 af,.int .i64 ag,.slice al ac.length am,.slice an aj.length ao,.int .i64 ah,.string ai,.bool av]) (t := 34) ?hr ?_; (case hd => rfl); (case hg => rfl); (case hr => first | (go_simp; done) | (go_simp; rfl)); intro ab hg aA hbox hb; have ap := zzk (Zs (by repeat (first | (with_reducible first | exact HB.out | apply Zq | apply Zp | apply Zo) | exact HB.out)) hb); have aq := zzk (hbox); have ar := zzk ((by rw [hg]; exact (Zr (by repeat (first | (with_reducible first | exact HB.out | apply Zq | apply Zp | apply Zo) | exact HB.out))) : w.heap.size ≤ ab)); have au := zzk ((by rw [hg]; exact (Zr (by repeat (first | (with_reducible first | exact HB.out | apply Zq | apply Zp | apply Zo) | exact HB.out))) : w.heap.size ≤ ab)); clear HB; have HB := ap; have aa := aq; have aw := ar; have ak := au; clear ap aq ar au; clear hb hbox hg; have cv : aA.cell? ⟨ab,0,none⟩ = some (.int .i64 ad) := (zi aa.out 0).trans rfl; have cw : aA.cell? ⟨ab,1,none⟩ = some (.int .i64 ae) := (zi aa.out 1).trans rfl; have cx : aA.cell? ⟨ab,2,none⟩ = some (.int .i64 af) := (zi aa.out 2).trans rfl; have cy : aA.cell? ⟨ab,3,none⟩ = some (.int .i64 ag) := (zi aa.out 3).trans rfl; have cz : aA.cell? ⟨ab,4,none⟩ = some (.slice al ac.length am) := (zi aa.out 4).trans rfl; have cA : aA.cell? ⟨ab,5,none⟩ = some (.slice an aj.length ao) := (zi aa.out 5).trans rfl; have cB : aA.cell? ⟨ab,6,none⟩ = some (.int .i64 ah) := (zi aa.out 6).trans rfl; have cC : aA.cell? ⟨ab,7,none⟩ = some (.string ai) := (zi aa.out 7).trans rfl; have cD : aA.cell? ⟨ab,8,none⟩ = some (.bool av) := (zi aa.out 8).trans rfl; have cE := zm aa.out 0; have cF := zm aa.out 1; have cG := zm aa.out 2; have cH := zm aa.out 3; have cI := zm aa.out 4; have cJ := zm aa.out 5; have cK := zm aa.out 6; have cL := zm aa.out 7; have cM := zm aa.out 8))
      go_ret
      exact ⟨by first | rfl | (simp [zzl,zzm] <;> rfl) | (simp [*,zzl,zzm] <;> rfl),by repeat (first | (with_reducible first | exact HB.out | apply Zq | apply Zp | apply Zo | refine Zn ?_ ak.out) | exact HB.out)⟩
    ·
     rw [if_neg c5] at H
     have aS : (ag == 0) = false := beq_eq_false_iff_ne.mpr c5
     have aT : (ag != 0) = true := bne_iff_ne.mpr c5
     obtain rfl := zzu H
     go_enter Try.func37,Try.ntmps37
     go_wp2_with (first | ((with_reducible refine Zy (N := 1) rfl ?_); (try (refine Zz (by rfl) ?_; dsimp only)); refine zzc ?hg (N := 1) ?hd (cs := #[.int .i64 ad,.int .i64 ae,.int .i64 af,.int .i64 ag,.slice al ac.length am,.slice an aj.length ao,.int .i64 ah,.string ai,.bool av]) (t := 34) ?hr ?_; (case hd => rfl); (case hg => rfl); (case hr => first | (go_simp; done) | (go_simp; rfl)); intro ab hg aB hbox hb; have ap := zzk (Zs (by repeat (first | (with_reducible first | exact HB.out | apply Zq | apply Zp | apply Zo) | exact HB.out)) hb); have aq := zzk (hbox); have ar := zzk ((by rw [hg]; exact (Zr (by repeat (first | (with_reducible first | exact HB.out | apply Zq | apply Zp | apply Zo) | exact HB.out))) : w.heap.size ≤ ab)); have au := zzk ((by rw [hg]; exact (Zr (by repeat (first | (with_reducible first | exact HB.out | apply Zq | apply Zp | apply Zo) | exact HB.out))) : w.heap.size ≤ ab)); clear HB; have HB := ap; have aa := aq; have aw := ar; have ak := au; clear ap aq ar au; clear hb hbox hg; have cN : aB.cell? ⟨ab,0,none⟩ = some (.int .i64 ad) := (zi aa.out 0).trans rfl; have cO : aB.cell? ⟨ab,1,none⟩ = some (.int .i64 ae) := (zi aa.out 1).trans rfl; have cP : aB.cell? ⟨ab,2,none⟩ = some (.int .i64 af) := (zi aa.out 2).trans rfl; have cQ : aB.cell? ⟨ab,3,none⟩ = some (.int .i64 ag) := (zi aa.out 3).trans rfl; have cR : aB.cell? ⟨ab,4,none⟩ = some (.slice al ac.length am) := (zi aa.out 4).trans rfl; have cS : aB.cell? ⟨ab,5,none⟩ = some (.slice an aj.length ao) := (zi aa.out 5).trans rfl; have cT : aB.cell? ⟨ab,6,none⟩ = some (.int .i64 ah) := (zi aa.out 6).trans rfl; have cU : aB.cell? ⟨ab,7,none⟩ = some (.string ai) := (zi aa.out 7).trans rfl; have cV : aB.cell? ⟨ab,8,none⟩ = some (.bool av) := (zi aa.out 8).trans rfl; have cW := zm aa.out 0; have cX := zm aa.out 1; have cY := zm aa.out 2; have cZ := zm aa.out 3; have da := zm aa.out 4; have db := zm aa.out 5; have dc := zm aa.out 6; have dd := zm aa.out 7; have de := zm aa.out 8))
     go_ret
     exact ⟨by first | rfl | (simp [zzl,zzm] <;> rfl) | (simp [*,zzl,zzm] <;> rfl),by repeat (first | (with_reducible first | exact HB.out | apply Zq | apply Zp | apply Zo | refine Zn ?_ ak.out) | exact HB.out)⟩
   ·
    rw [if_neg c4] at H
    have aQ : (af == 0) = false := beq_eq_false_iff_ne.mpr c4
    have aR : (af != 0) = true := bne_iff_ne.mpr c4
    obtain rfl := zzu H
    go_enter Try.func37,Try.ntmps37
    go_wp2_with (first | ((with_reducible refine Zy (N := 1) rfl ?_); (try (refine Zz (by rfl) ?_; dsimp only)); refine zzc ?hg (N := 1) ?hd (cs := #[.int .i64 ad,.int .i64 ae,.int .i64 af,.int .i64 ag,.slice al ac.length am,.slice an aj.length ao,.int .i64 ah,.string ai,.bool av]) (t := 34) ?hr ?_; (case hd => rfl); (case hg => rfl); (case hr => first | (go_simp; done) | (go_simp; rfl)); intro ab hg aC hbox hb; have ap := zzk (Zs (by repeat (first | (with_reducible first | exact HB.out | apply Zq | apply Zp | apply Zo) | exact HB.out)) hb); have aq := zzk (hbox); have ar := zzk ((by rw [hg]; exact (Zr (by repeat (first | (with_reducible first | exact HB.out | apply Zq | apply Zp | apply Zo) | exact HB.out))) : w.heap.size ≤ ab)); have au := zzk ((by rw [hg]; exact (Zr (by repeat (first | (with_reducible first | exact HB.out | apply Zq | apply Zp | apply Zo) | exact HB.out))) : w.heap.size ≤ ab)); clear HB; have HB := ap; have aa := aq; have aw := ar; have ak := au; clear ap aq ar au; clear hb hbox hg; have df : aC.cell? ⟨ab,0,none⟩ = some (.int .i64 ad) := (zi aa.out 0).trans rfl; have dg : aC.cell? ⟨ab,1,none⟩ = some (.int .i64 ae) := (zi aa.out 1).trans rfl; have dh : aC.cell? ⟨ab,2,none⟩ = some (.int .i64 af) := (zi aa.out 2).trans rfl; have di : aC.cell? ⟨ab,3,none⟩ = some (.int .i64 ag) := (zi aa.out 3).trans rfl; have dj : aC.cell? ⟨ab,4,none⟩ = some (.slice al ac.length am) := (zi aa.out 4).trans rfl; have dk : aC.cell? ⟨ab,5,none⟩ = some (.slice an aj.length ao) := (zi aa.out 5).trans rfl; have dl : aC.cell? ⟨ab,6,none⟩ = some (.int .i64 ah) := (zi aa.out 6).trans rfl; have dm : aC.cell? ⟨ab,7,none⟩ = some (.string ai) := (zi aa.out 7).trans rfl; have dn : aC.cell? ⟨ab,8,none⟩ = some (.bool av) := (zi aa.out 8).trans rfl; have dp := zm aa.out 0; have dq := zm aa.out 1; have dr := zm aa.out 2; have ds := zm aa.out 3; have dt := zm aa.out 4; have du := zm aa.out 5; have dv := zm aa.out 6; have dw := zm aa.out 7; have dx := zm aa.out 8))
    go_ret
    exact ⟨by first | rfl | (simp [zzl,zzm] <;> rfl) | (simp [*,zzl,zzm] <;> rfl),by repeat (first | (with_reducible first | exact HB.out | apply Zq | apply Zp | apply Zo | refine Zn ?_ ak.out) | exact HB.out)⟩
  ·
   rw [if_neg c3] at H
   have aO : (ae == 0) = false := beq_eq_false_iff_ne.mpr c3
   have aP : (ae != 0) = true := bne_iff_ne.mpr c3
   obtain rfl := zzu H
   go_enter Try.func37,Try.ntmps37
   go_wp2_with (first | ((with_reducible refine Zy (N := 1) rfl ?_); (try (refine Zz (by rfl) ?_; dsimp only)); refine zzc ?hg (N := 1) ?hd (cs := #[.int .i64 ad,.int .i64 ae,.int .i64 af,.int .i64 ag,.slice al ac.length am,.slice an aj.length ao,.int .i64 ah,.string ai,.bool av]) (t := 34) ?hr ?_; (case hd => rfl); (case hg => rfl); (case hr => first | (go_simp; done) | (go_simp; rfl)); intro ab hg aD hbox hb; have ap := zzk (Zs (by repeat (first | (with_reducible first | exact HB.out | apply Zq | apply Zp | apply Zo) | exact HB.out)) hb); have aq := zzk (hbox); have ar := zzk ((by rw [hg]; exact (Zr (by repeat (first | (with_reducible first | exact HB.out | apply Zq | apply Zp | apply Zo) | exact HB.out))) : w.heap.size ≤ ab)); have au := zzk ((by rw [hg]; exact (Zr (by repeat (first | (with_reducible first | exact HB.out | apply Zq | apply Zp | apply Zo) | exact HB.out))) : w.heap.size ≤ ab)); clear HB; have HB := ap; have aa := aq; have aw := ar; have ak := au; clear ap aq ar au; clear hb hbox hg; have dy : aD.cell? ⟨ab,0,none⟩ = some (.int .i64 ad) := (zi aa.out 0).trans rfl; have dz : aD.cell? ⟨ab,1,none⟩ = some (.int .i64 ae) := (zi aa.out 1).trans rfl; have dA : aD.cell? ⟨ab,2,none⟩ = some (.int .i64 af) := (zi aa.out 2).trans rfl; have dB : aD.cell? ⟨ab,3,none⟩ = some (.int .i64 ag) := (zi aa.out 3).trans rfl; have dC : aD.cell? ⟨ab,4,none⟩ = some (.slice al ac.length am) := (zi aa.out 4).trans rfl; have dD : aD.cell? ⟨ab,5,none⟩ = some (.slice an aj.length ao) := (zi aa.out 5).trans rfl; have dE : aD.cell? ⟨ab,6,none⟩ = some (.int .i64 ah) := (zi aa.out 6).trans rfl; have dF : aD.cell? ⟨ab,7,none⟩ = some (.string ai) := (zi aa.out 7).trans rfl; have dG : aD.cell? ⟨ab,8,none⟩ = some (.bool av) := (zi aa.out 8).trans rfl; have dH := zm aa.out 0; have dI := zm aa.out 1; have dJ := zm aa.out 2; have dK := zm aa.out 3; have dL := zm aa.out 4; have dM := zm aa.out 5; have dN := zm aa.out 6; have dO := zm aa.out 7; have dP := zm aa.out 8))
   go_ret
   exact ⟨by first | rfl | (simp [zzl,zzm] <;> rfl) | (simp [*,zzl,zzm] <;> rfl),by repeat (first | (with_reducible first | exact HB.out | apply Zq | apply Zp | apply Zo | refine Zn ?_ ak.out) | exact HB.out)⟩
 ·
  rw [if_neg c2] at H
  have aM : (ad == 0) = false := beq_eq_false_iff_ne.mpr c2
  have aN : (ad != 0) = true := bne_iff_ne.mpr c2
  obtain rfl := zzu H
  go_enter Try.func37,Try.ntmps37
  go_wp2_with (first | ((with_reducible refine Zy (N := 1) rfl ?_); (try (refine Zz (by rfl) ?_; dsimp only)); refine zzc ?hg (N := 1) ?hd (cs := #[.int .i64 ad,.int .i64 ae,.int .i64 af,.int .i64 ag,.slice al ac.length am,.slice an aj.length ao,.int .i64 ah,.string ai,.bool av]) (t := 34) ?hr ?_; (case hd => rfl); (case hg => rfl); (case hr => first | (go_simp; done) | (go_simp; rfl)); intro ab hg aE hbox hb; have ap := zzk (Zs (by repeat (first | (with_reducible first | exact HB.out | apply Zq | apply Zp | apply Zo) | exact HB.out)) hb); have aq := zzk (hbox); have ar := zzk ((by rw [hg]; exact (Zr (by repeat (first | (with_reducible first | exact HB.out | apply Zq | apply Zp | apply Zo) | exact HB.out))) : w.heap.size ≤ ab)); have au := zzk ((by rw [hg]; exact (Zr (by repeat (first | (with_reducible first | exact HB.out | apply Zq | apply Zp | apply Zo) | exact HB.out))) : w.heap.size ≤ ab)); clear HB; have HB := ap; have aa := aq; have aw := ar; have ak := au; clear ap aq ar au; clear hb hbox hg; have dQ : aE.cell? ⟨ab,0,none⟩ = some (.int .i64 ad) := (zi aa.out 0).trans rfl; have dR : aE.cell? ⟨ab,1,none⟩ = some (.int .i64 ae) := (zi aa.out 1).trans rfl; have dS : aE.cell? ⟨ab,2,none⟩ = some (.int .i64 af) := (zi aa.out 2).trans rfl; have dT : aE.cell? ⟨ab,3,none⟩ = some (.int .i64 ag) := (zi aa.out 3).trans rfl; have dU : aE.cell? ⟨ab,4,none⟩ = some (.slice al ac.length am) := (zi aa.out 4).trans rfl; have dV : aE.cell? ⟨ab,5,none⟩ = some (.slice an aj.length ao) := (zi aa.out 5).trans rfl; have dW : aE.cell? ⟨ab,6,none⟩ = some (.int .i64 ah) := (zi aa.out 6).trans rfl; have dX : aE.cell? ⟨ab,7,none⟩ = some (.string ai) := (zi aa.out 7).trans rfl; have dY : aE.cell? ⟨ab,8,none⟩ = some (.bool av) := (zi aa.out 8).trans rfl; have dZ := zm aa.out 0; have ea := zm aa.out 1; have eb := zm aa.out 2; have ec := zm aa.out 3; have ed := zm aa.out 4; have ee := zm aa.out 5; have ef := zm aa.out 6; have eg := zm aa.out 7; have eh := zm aa.out 8))
  go_ret
  exact ⟨by first | rfl | (simp [zzl,zzm] <;> rfl) | (simp [*,zzl,zzm] <;> rfl),by repeat (first | (with_reducible first | exact HB.out | apply Zq | apply Zp | apply Zo | refine Zn ?_ ak.out) | exact HB.out)⟩
end Go.Proofs.Ytpagkmdlmhdenaa.PAll
