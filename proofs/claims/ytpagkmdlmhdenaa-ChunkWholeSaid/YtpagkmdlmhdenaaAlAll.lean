/- Short names for lemmas that the printed texts use. -/
import Derived.Test.YtpagkmdlmhdenaaPAllx0
namespace Go.Proofs.Ytpagkmdlmhdenaa.PAll
open Go.RowKit Go.Proofs.YtpagkmdlmhdenaaW.PrintWords Go.Proofs.YtpagkmdlmhdenaaW.PrintLast Go.Proofs.YtpagkmdlmhdenaaW.PrintMore
theorem za : type_of% @List.setIfInBounds_toArray := @List.setIfInBounds_toArray
theorem zb.{u} {α : Type u} {x : α} {xs : List α} {a : α} : (x :: xs).set 0 a = a :: xs := rfl
theorem zc.{u} {α : Type u} {x : α} {xs : List α} {i : Nat} {a : α} : (x :: xs).set (i + 1) a = x :: xs.set i a := rfl
theorem zd : type_of% @List.map_toArray := @List.map_toArray
theorem ze : type_of% @List.map_cons := @List.map_cons
theorem zf : type_of% @List.map_nil := @List.map_nil
theorem zg : type_of% @List.length_drop := @List.length_drop
theorem zh : type_of% @List.length_take := @List.length_take
theorem zi : type_of% @blk_cell := @blk_cell
theorem zj : type_of% @blk_drewN := @blk_drewN
theorem zk : type_of% @blk_alloc := @blk_alloc
theorem zl : type_of% @blk_drew := @blk_drew
theorem zm : type_of% @blk_frozen := @blk_frozen
theorem zn : type_of% @blk_far := @blk_far
theorem zo : type_of% @blk_below := @blk_below
theorem zp : type_of% @blk_put := @blk_put
theorem zq : type_of% @blk_lt := @blk_lt
theorem zr : type_of% @Kd.R_far := @Kd.R_far
theorem zs : type_of% @Kd.R_drew := @Kd.R_drew
theorem zt : type_of% @Kd.R_drewN := @Kd.R_drewN
theorem zu : type_of% @Kd.R_alloc := @Kd.R_alloc
theorem zv : type_of% @Kd.R_below := @Kd.R_below
theorem zw : type_of% @Kd.R_reads' := @Kd.R_reads'
theorem zx : type_of% @Kd.R_mono := @Kd.R_mono
theorem zy : type_of% @Kd.R_types := @Kd.R_types
theorem zz : type_of% @Kd.R_slice := @Kd.R_slice
theorem Za : type_of% @Kd.R_lower := @Kd.R_lower
theorem Zb : type_of% @Kd.R_new' := @Kd.R_new'
theorem Zc : type_of% @Kd.R_told := @Kd.R_told
theorem Zd : type_of% @Kd.R_base := @Kd.R_base
theorem Ze : type_of% @Kd.R_nil := @Kd.R_nil
theorem Zj : type_of% @Kd.C_drewN := @Kd.C_drewN
theorem Zk : type_of% @Kd.C_alloc := @Kd.C_alloc
theorem Zl : type_of% @Kd.C_drew := @Kd.C_drew
theorem Zm : type_of% @Kd.C_below := @Kd.C_below
theorem Zn : type_of% @below_set := @below_set
theorem Zo : type_of% @below_drew1 := @below_drew1
theorem Zp : type_of% @pw_below_drewN := @pw_below_drewN
theorem Zq : type_of% @below_alloc := @below_alloc
theorem Zr : type_of% @below_size := @below_size
theorem Zs : type_of% @below_step := @below_step
theorem Zt : type_of% @add_block := @add_block
theorem Zu : type_of% @any_of := @any_of
theorem Zv : type_of% @i64_w := @i64_w
theorem Zw : type_of% @i32_w := @i32_w
theorem Zx : type_of% @cell_far := @cell_far
theorem Zy : type_of% @gate_dst := @gate_dst
theorem Zz : type_of% @gate_guard := @gate_guard
theorem zza : type_of% @gate_callee := @gate_callee
theorem zzb : type_of% @gate_builtin := @gate_builtin
theorem zzc : type_of% @box_event := @box_event
theorem zzd : type_of% @goesL_ := @goesL_
theorem zze : type_of% @results_cell_row := @results_cell_row
theorem zzf : type_of% @bodyPost_ret := @bodyPost_ret
theorem zzg : type_of% @Option.some.injEq := @Option.some.injEq
theorem zzh : type_of% @Prod.mk.injEq := @Prod.mk.injEq
theorem zzi : type_of% @Option.bind_some := @Option.bind_some
theorem zzk : type_of% @Aside0.mk := @Aside0.mk
theorem zzl : type_of% @errW_none := @errW_none
theorem zzm : type_of% @errW_some := @errW_some
theorem zzn : type_of% @decide_eq_true := @decide_eq_true
theorem zzo : type_of% @decide_eq_false := @decide_eq_false
theorem zzu : type_of% @Option.some.inj := @Option.some.inj
end Go.Proofs.Ytpagkmdlmhdenaa.PAll
