-- Written by a program of the session.
import Derived.Test.YtpagkmdlmhdenaaAlAll
import Derived.Test.YtpagkmdlmhdenaaPAllx0
namespace Go.Proofs.Ytpagkmdlmhdenaa.PAll
open Go.RowKit Go.Proofs.YtpagkmdlmhdenaaW.PrintWords Go.Proofs.YtpagkmdlmhdenaaW.PrintLast Go.Proofs.YtpagkmdlmhdenaaW.PrintMore
attribute [local go_sem] max2_int min2_int max_two min_two max_three min_three max_four min_four   -- for this text's walks alone
set_option linter.unusedVariables false
set_option linter.unusedSimpArgs false
/-! ### L_some: function 29 -/
def L_some.f  : Option (Int × Int × List Int × List Int × ByteArray) := if 100 ≤ 281474976710656 then (some (3,2,([] : List Int),([] : List Int),strOfNums (List.replicate 100 0))) else (none)
set_option maxHeartbeats 8000000 in
set_option maxRecDepth 100000 in
theorem L_some.calls  (r1 : Int) (r2 : Int) (r3 : List Int) (r4 : List Int) (r5 : ByteArray) (w : World) (h : L_some.f  = some (r1,r2,r3,r4,r5)) :
 Calls Try.prog 29 #[] w fun e w' => ∃ ah ai : Value,e = .returned (.agg #[.int .i64 r1,.int .i64 r2,ah,ai,.string r5]) ∧ Kd.R (Kd.int .i64) 3 w' w.heap.size (fun k_ => some k_ ≠ (ai : Value).ownBlock) ah r3 ∧ Kd.R (Kd.int .i64) 3 w' w.heap.size (fun k_ => some k_ ≠ (ah : Value).ownBlock) ai r4 ∧ Below w.heap.size w w' := by
 have hu26 := Try.underlying26
 have HB := zzk (Below.refl w.heap.size w)
 have H : (if 100 ≤ 281474976710656 then (some (3,2,([] : List Int),([] : List Int),strOfNums (List.replicate 100 0))) else (none)) = some (r1,r2,r3,r4,r5) := h
 clear h
 by_cases c1 : 100 ≤ 281474976710656
 ·
  rw [if_pos c1] at H
  have aA := eq_true c1
  have aB : decide (100 ≤ 281474976710656) = true := zzn c1
  clear c1
  obtain ⟨aj,hy111⟩ : ∃ y_ : List Int,y_ = (List.replicate 100 0) := ⟨_,rfl⟩
  replace H : (some (3,2,([] : List Int),([] : List Int),strOfNums aj)) = some (r1,r2,r3,r4,r5) := by first | (rw [hy111]; with_reducible exact H) | (have ak := (zzi _ _).symm.trans H; rw [hy111]; with_reducible exact ak) | (have ak := (zzi _ _).symm.trans H; with_reducible exact ak) | with_reducible exact H | (rw [hy111]; exact H) | exact H
  have ag := zzk hy111
  clear hy111
  simp only [zzg,zzh] at H
  obtain ⟨rfl,rfl,rfl,rfl,rfl⟩ := H
  go_enter Try.func29,Try.ntmps29
  go_wp2_with (first | ((with_reducible refine Zy (N := 0) rfl ?_); refine zzc ?hg (N := 0) ?hd (cs := #[.int .i64 0,.int .i64 0,.slice none 0 0,.slice none 0 0,.string (⟨#[]⟩ : ByteArray)]) (t := 26) ?hr ?_; (case hd => rfl); (case hg => rfl); (case hr => first | (go_simp; done) | (go_simp; rfl)); intro ab hg w2 hbox hb; have ad := zzk (Zs (by repeat (first | (with_reducible first | exact HB.out | apply Zq | apply Zp | apply Zo) | exact HB.out)) hb); have ae := zzk (hbox); have af := zzk ((by rw [hg]; exact (Zr (by repeat (first | (with_reducible first | exact HB.out | apply Zq | apply Zp | apply Zo) | exact HB.out))) : w.heap.size ≤ ab)); have am := zzk ((by rw [hg]; exact (Zr (by repeat (first | (with_reducible first | exact HB.out | apply Zq | apply Zp | apply Zo) | exact HB.out))) : w.heap.size ≤ ab)); clear HB; have HB := ad; have aa := ae; have az := af; have ac := am; clear ad ae af am; clear hb hbox hg) | ((with_reducible refine Zy (N := 2) rfl ?_); refine Kd.R_make (Kd.int .u8) _ 5 rfl (N := 2) rfl 60 _ _ rfl 100 rfl rfl Try.underlying60 (.int .u8 0) 1 info5 rfl (by decide) (by omega) 0 (ok := fun _ => True) (okp := fun _ => True) rfl (fun _ hk => hk) trivial (by omega) (by omega) (Below.refl _ _) (Nat.le_refl _) ?_; intro aC w3 ho4 hb hg_ hnew_; clear hg_ hnew_; (first | rw [← ag.out] at ho4 | (simp only [Int.reduceToNat] at ho4; rw [← ag.out] at ho4)); have ad := zzk (Za ho4 (Zr (by repeat (first | (with_reducible first | exact HB.out | apply Zq | apply Zp | apply Zo | refine Zn ?_ ac.out) | exact HB.out)))); have ae := zzk (zo (g := ab) (o := .cells #[.int .i64 0,.int .i64 0,.slice none 0 0,.slice none 0 0,.string (⟨#[]⟩ : ByteArray)] 26 (0,0)) (by (with_reducible repeat (first | refine zj ?_ _ | refine zl ?_ | refine zk ?_ _)); exact aa.out) hb); have af := zzk (Zs (by repeat (first | (with_reducible first | exact HB.out | apply Zq | apply Zp | apply Zo | refine Zn ?_ ac.out) | exact HB.out)) hb); clear aa; clear HB; have al := ad; have aa := ae; have HB := af; clear ad ae af; clear hb ho4; have hcv5 := own_string (P := Try.prog) Try.underlying60 Try.underlying5 Try.underlying9 (Kd.own_of_R al.out); have an : w3.cell? ⟨ab,0,none⟩ = some (.int .i64 0) := (zi aa.out 0).trans rfl; have ao : w3.cell? ⟨ab,1,none⟩ = some (.int .i64 0) := (zi aa.out 1).trans rfl; have ap : w3.cell? ⟨ab,2,none⟩ = some (.slice none 0 0) := (zi aa.out 2).trans rfl; have aq : w3.cell? ⟨ab,3,none⟩ = some (.slice none 0 0) := (zi aa.out 3).trans rfl; have ar : w3.cell? ⟨ab,4,none⟩ = some (.string (⟨#[]⟩ : ByteArray)) := (zi aa.out 4).trans rfl; have au := zm aa.out 0; have av := zm aa.out 1; have aw := zm aa.out 2; have ax := zm aa.out 3; have ay := zm aa.out 4))
  refine zzf (zze rfl _ _ ab 26 #[.int .i64 3,.int .i64 2,.slice none 0 0,.slice none 0 0,.string (strOfNums aj)] (0,0) _ rfl (by (with_reducible repeat (first | refine zj ?_ _ | refine zl ?_ | refine zk ?_ _)); refine zp (cs := #[.int .i64 3,.int .i64 2,.slice none 0 0,.slice none 0 0,.string (⟨#[]⟩ : ByteArray)]) ?_ 4 _ rfl; (with_reducible repeat (first | refine zj ?_ _ | refine zl ?_ | refine zk ?_ _)); refine zp (cs := #[.int .i64 3,.int .i64 2,.slice none 0 0,.slice none 0 0,.string (⟨#[]⟩ : ByteArray)]) ?_ 3 _ rfl; (with_reducible repeat (first | refine zj ?_ _ | refine zl ?_ | refine zk ?_ _)); refine zp (cs := #[.int .i64 3,.int .i64 2,.slice none 0 0,.slice none 0 0,.string (⟨#[]⟩ : ByteArray)]) ?_ 2 _ rfl; (with_reducible repeat (first | refine zj ?_ _ | refine zl ?_ | refine zk ?_ _)); refine zp (cs := #[.int .i64 3,.int .i64 0,.slice none 0 0,.slice none 0 0,.string (⟨#[]⟩ : ByteArray)]) ?_ 1 _ rfl; (with_reducible repeat (first | refine zj ?_ _ | refine zl ?_ | refine zk ?_ _)); refine zp (cs := #[.int .i64 0,.int .i64 0,.slice none 0 0,.slice none 0 0,.string (⟨#[]⟩ : ByteArray)]) ?_ 0 _ rfl; (with_reducible repeat (first | refine zj ?_ _ | refine zl ?_ | refine zk ?_ _)); exact aa.out) Try.underlying26 rfl (by kernel_rfl)) rfl ?_
  exact ⟨_,_,by first | rfl | (simp [zzl,zzm] <;> rfl) | (simp [*,zzl,zzm] <;> rfl),by first | exact Ze _ _ _ _ _ | exact Zf _ _ _ _ _ | exact Zg _ _ _ _ _ | exact Zh _ _ _ _ _ | exact Zi _ _ _ _ _,by first | exact Ze _ _ _ _ _ | exact Zf _ _ _ _ _ | exact Zg _ _ _ _ _ | exact Zh _ _ _ _ _ | exact Zi _ _ _ _ _,by repeat (first | (with_reducible first | exact HB.out | apply Zq | apply Zp | apply Zo | refine Zn ?_ ac.out) | exact HB.out)⟩
 ·
  rw [if_neg c1] at H
  exact absurd H (by simp)
end Go.Proofs.Ytpagkmdlmhdenaa.PAll
