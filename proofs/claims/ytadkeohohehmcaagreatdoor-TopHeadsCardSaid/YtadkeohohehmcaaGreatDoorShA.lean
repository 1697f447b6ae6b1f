/- Several texts in one. -/
import Derived.WalkKit
import Derived.WalkSpells
import Derived.WalkMore
import Derived.Deep.LoopGhost
import Derived.Deep.Draws
import Derived.Deep.MidRow
import Derived.Laws.Rows
import Derived.Shelf.RegionOpen
import Derived.Test.YtadkeohohehmcaaGreatDoorSmA
import Derived.Laws.CopyRow
import Derived.Great.Walk
import Derived.Test.YtadkeohohehmcaaGreatDoorSmB
section
/- The sums: rotation; the block's words. -/
namespace Go.Proofs.YtadkeohohehmcaaGreatDoor.Top
open Go.RowKit Go.Proofs.YtadkeohohehmcaaGreatDoorW.PrintWords Go.Proofs.YtadkeohohehmcaaGreatDoor.PTop
set_option linter.unusedVariables false
set_option linter.unusedSimpArgs false
attribute [local go_sem] Oper.semAt_some

def rl (x k : Int) : Int := (bits_RotateLeft32.f x k).getD 0
theorem rot_c (x k : Int) (h : (bits_RotateLeft32.f x k).isSome = true) (w : World) : Calls Tryz.prog 87 #[.int .u32 x, .int .i64 k] w fun e w' => e = .returned (.int .u32 (rl x k)) ∧ Drawn0 w w' := by
  obtain ⟨r, hr⟩ := Option.isSome_iff_exists.1 h
  have : rl x k = r := by unfold rl; rw [hr]; rfl
  rw [this]
  exact bits_RotateLeft32.calls x k r w hr

/-- A hash, as it lies. -/
def hcells (ws bs : List Int) (n : Int) : List Value := ws.map (.int .u32) ++ bs.map (.int .u8) ++ [.int .i64 n]
theorem hc_word (ws bs : List Int) (n : Int) (i : Nat) (h : i < ws.length) : (hcells ws bs n)[i]? = some (.int .u32 ws[i]!) := by
  unfold hcells
  rw [List.append_assoc, List.getElem?_append_left (by simpa using h), List.getElem?_map, List.getElem?_eq_getElem h, getElem!_pos ws i h]
  rfl
theorem hc_byte (ws bs : List Int) (n : Int) (h8 : ws.length = 8) (i : Nat) (h : i < bs.length) : (hcells ws bs n)[8 + i]? = some (.int .u8 bs[i]!) := by
  unfold hcells
  rw [List.getElem?_append_left (by simp; omega), List.getElem?_append_right (by simp; omega), List.length_map, h8, show 8 + i - 8 = i by omega, List.getElem?_map, List.getElem?_eq_getElem h, getElem!_pos bs i h]
  rfl
theorem hc_n (ws bs : List Int) (n : Int) (h8 : ws.length = 8) (h64 : bs.length = 64) : (hcells ws bs n)[72]? = some (.int .i64 n) := by
  unfold hcells
  rw [List.getElem?_append_right (by simp; omega)]
  simp [h8, h64]
theorem hc_set (ws bs : List Int) (n : Int) (i : Nat) (h : i < ws.length) (v : Int) : (hcells ws bs n).set i (.int .u32 v) = hcells (ws.set i v) bs n := by
  unfold hcells
  rw [List.append_assoc, List.append_assoc, List.set_append_left _ _ (by simpa using h), List.map_set]
theorem hc_len (ws bs : List Int) (n : Int) (h8 : ws.length = 8) (h64 : bs.length = 64) : (hcells ws bs n).length = 73 := by simp [hcells, h8, h64]
theorem cell_in {W : World} {g i : Nat} {l : List Value} {t : TypeId} {fr : Nat × Nat} {v : Value} (h : W.heap[g]? = some (.cells l.toArray t fr)) (hi : l[i]? = some v) : W.cell? ⟨g, i, none⟩ = some v := by
  simp only [World.cell?, h]
  simpa using hi
theorem frozen_in {W : World} {g i : Nat} {l : Array Value} {t : TypeId} (h : W.heap[g]? = some (.cells l t (0, 0))) : W.frozen? ⟨g, i, none⟩ = false := by
  simp [World.frozen?, h]

theorem set_list {W : World} {g i : Nat} {l : List Value} {t : TypeId} {v : Value} (h : W.heap[g]? = some (.cells l.toArray t (0, 0))) : (W.setCell ⟨g, i, none⟩ v).heap[g]? = some (.cells (l.set i v).toArray t (0, 0)) := by
  simp [World.setCell, Array.getElem?_modify, h]
theorem al122 : Tryz.prog.arrayLen 122 = 64 := by kernel_rfl
theorem slice122 (b o l : Nat) (h : l < 64) (w : World) : (Instr.sliceAt 122 (.pointer (some ⟨b, o, none⟩)) (some (.int .i64 (l : Int))) none none).run Tryz.prog w = .ok (.slice (some ⟨b, o + l, none⟩) (64 - l) (64 - l)) w := by
  rw [run_sliceAt_array_l w 122 ⟨b, o, none⟩ (by kernel_rfl) .i64 (l : Int) (by omega) (by rw [al122]; omega)]
  have hs : (sizeOf (Tryz.prog.elem 122)).run Tryz.prog w = .ok 1 w := by kernel_rfl
  rw [hs, al122]
  simp only [Result.andThen, slicedAt, Int.toNat_natCast]
  rw [if_neg (by omega)]
  simp [Addr.add]
/-- The 64 words of a block, one by one. -/
def word4 (y0 y1 y2 y3 : Int) : Int := bits BinOp.or IntKind.u32 (bits BinOp.or IntKind.u32 (bits BinOp.or IntKind.u32 (y0 % 4294967296 * 16777216 % 4294967296) (y1 % 4294967296 * 65536 % 4294967296)) (y2 % 4294967296 * 256 % 4294967296)) (y3 % 4294967296)
def sg0 (x : Int) : Int := bits BinOp.xor IntKind.u32 (bits BinOp.xor IntKind.u32 (rl x (-7)) (rl x (-18))) (x / 8)
def sg1 (y : Int) : Int := bits BinOp.xor IntKind.u32 (bits BinOp.xor IntKind.u32 (rl y (-17)) (rl y (-19))) (y / 1024)
def more4 (a x b y : Int) : Int := (a + sg0 x + b + sg1 y) % 4294967296
def schedAt (bs w : List Int) (t : Nat) : Int := if t < 16 then word4 bs[4 * t]! bs[4 * t + 1]! bs[4 * t + 2]! bs[4 * t + 3]! else more4 w[t - 16]! w[t - 15]! w[t - 7]! w[t - 2]!
def sched (bs : List Int) : Nat → List Int
  | 0 => List.replicate 64 0
  | t + 1 => (sched bs t).set t (schedAt bs (sched bs t) t)
theorem sched_succ (bs : List Int) (t : Nat) : sched bs (t + 1) = (sched bs t).set t (schedAt bs (sched bs t) t) := rfl
theorem sched_len (bs : List Int) : ∀ t, (sched bs t).length = 64
  | 0 => by simp [sched]
  | t + 1 => by rw [sched, List.length_set]; exact sched_len bs t

abbrev St8 := Int × Int × Int × Int × Int × Int × Int × Int
def bigS (e : Int) : Int := bits BinOp.xor IntKind.u32 (bits BinOp.xor IntKind.u32 (rl e (-6)) (rl e (-11))) (rl e (-25))
def smallS (a : Int) : Int := bits BinOp.xor IntKind.u32 (bits BinOp.xor IntKind.u32 (rl a (-2)) (rl a (-13))) (rl a (-22))
def oneS (k e f h kst wt : Int) : Int := (k + bigS e + bits BinOp.xor IntKind.u32 (bits BinOp.and IntKind.u32 e (bits BinOp.xor IntKind.u32 f h)) h + kst + wt) % 4294967296
def twoS (a b c : Int) : Int := (smallS a + bits BinOp.or IntKind.u32 (bits BinOp.and IntKind.u32 a b) (bits BinOp.and IntKind.u32 c (bits BinOp.or IntKind.u32 a b))) % 4294967296
def rnd1 (kst wt : Int) (s : St8) : St8 := match s with
  | (a, b, c, d, e, f, h, k) => ((oneS k e f h kst wt + twoS a b c) % 4294967296, a, b, c, (d + oneS k e f h kst wt) % 4294967296, e, f, h)
def rnd (KS W : List Int) (s : St8) : Nat → St8
  | 0 => s
  | t + 1 => rnd1 KS[t]! W[t]! (rnd KS W s t)
def addW (ws xs : List Int) : Nat → List Int
  | 0 => ws
  | i + 1 => (addW ws xs i).set i (((addW ws xs i)[i]! + xs[i]!) % 4294967296)
theorem addW_len (ws xs : List Int) (h : ws.length = 8) : ∀ i, (addW ws xs i).length = 8
  | 0 => h
  | i + 1 => by rw [addW, List.length_set]; exact addW_len ws xs h i
theorem addW_succ (ws xs : List Int) (i : Nat) : addW ws xs (i + 1) = (addW ws xs i).set i (((addW ws xs i)[i]! + xs[i]!) % 4294967296) := rfl
def l8 (s : St8) : List Int := match s with | (a, b, c, d, e, f, h, k) => [a, b, c, d, e, f, h, k]
/-- The words behind a block. -/
def mixF (KS ws bs : List Int) : List Int := addW ws (l8 (rnd KS (sched bs 64) (ws[0]!, ws[1]!, ws[2]!, ws[3]!, ws[4]!, ws[5]!, ws[6]!, ws[7]!) 64)) 8
theorem mixF_len (KS ws bs : List Int) (h : ws.length = 8) : (mixF KS ws bs).length = 8 := addW_len _ _ h 8
theorem idx_u32 (t : TypeId) (n : Nat) (ht : Tryz.prog.underlying t = some (.array n 120)) (l : List Int) (hl : l.length = n) (j : Nat) (hj : j < n) (w : World) :
    (Instr.index t (.agg (l.map (Value.int .u32)).toArray) (.int .i64 (j : Int))).run Tryz.prog w = .ok (.int .u32 l[j]!) w := by
  have hs : (sizeOf 120).run Tryz.prog w = .ok 1 w := by kernel_rfl
  have hp : (part 120 (l.map (Value.int .u32)).toArray j).run Tryz.prog w = .ok (.int .u32 l[j]!) w := by
    unfold part
    have h1 : (isAgg 120).run Tryz.prog w = .ok false w := by kernel_rfl
    simp [h1, hs, go_sem, List.getElem?_eq_getElem (show j < l.length by omega)]
  rw [getElem!_pos l j (by omega)] at hp ⊢
  simp [Instr.index, run_underlying ht, asIntOf, hj, go_sem, hs, hp, List.getElem?_eq_getElem (show j < l.length by omega)]
/-- All but one block is as it was. -/
structure But (g : Nat) (W W' : World) : Prop where
  os : W'.os = W.os
  tape : W'.tape = W.tape
  output : W'.output = W.output
  size : W.heap.size ≤ W'.heap.size
  block : ∀ k, k ≠ g → k < W.heap.size → W'.heap[k]? = W.heap[k]?
theorem But.of_below {g : Nat} {W W' : World} (h : Below W.heap.size W W') : But g W W' := ⟨h.os, h.tape, h.output, h.size, fun k _ hk => h.block k hk⟩
theorem But.trans {g : Nat} {A B C : World} (h : But g A B) (k : But g B C) : But g A C :=
  ⟨k.os.trans h.os, k.tape.trans h.tape, k.output.trans h.output, Nat.le_trans h.size k.size, fun i h1 h2 => (k.block i h1 (Nat.lt_of_lt_of_le h2 h.size)).trans (h.block i h1 h2)⟩
theorem But.set {g i : Nat} {A B : World} (h : But g A B) (v : Value) : But g A (B.setCell ⟨g, i, none⟩ v) :=
  ⟨h.os, h.tape, h.output, by simpa [World.setCell] using h.size, fun k h1 h2 => (Below.heap_setCell B ⟨g, i, none⟩ v k h1).trans (h.block k h1 h2)⟩
theorem But.drew {g : Nat} {A B : World} (h : But g A B) : But g A B.drew := ⟨h.os, h.tape, h.output, h.size, h.block⟩
theorem But.below {g B : Nat} {A W : World} (h : But g A W) (hb : B ≤ g) (hs : B ≤ A.heap.size) : Below B A W := ⟨h.os, h.tape, h.output, h.size, fun k hk => h.block k (by omega) (by omega)⟩
set_option maxHeartbeats 8000000 in
set_option maxRecDepth 100000 in
theorem mix_c (KS : List Int) (g : Nat) (ws bs : List Int) (n : Int) (w : World) (h1 : ws.length = 8) (h2 : bs.length = 64) (hg : w.heap[g]? = some (.cells (hcells ws bs n).toArray 124 (0, 0))) (hk : ∀ j, j < 64 → w.cell? ⟨0, j, none⟩ = some (.int .u32 KS[j]!)) :
    Calls Tryz.prog 65 #[.pointer (some ⟨g, 0, none⟩)] w fun e w' => e = .returned (.tuple #[]) ∧ w'.heap[g]? = some (.cells (hcells (mixF KS ws bs) bs n).toArray 124 (0, 0)) ∧ But g w w' := by
  have e87 : ∀ args w, (callFunc 87 args).run Tryz.prog w = .ok (.enter 87 args) w := enters_of Tryz.func87 (by kernel_rfl) rfl
  have hgw : g < w.heap.size := (Array.getElem?_eq_some_iff.1 hg).1
  have HG := Aside0.mk hg
  have HK := Aside0.mk hk
  have hw0 : 0 < w.heap.size := by omega
  clear hg hk
  go_enter Tryz.func65, Tryz.ntmps65
  go_upto_region 1 with (fail)
  obtain ⟨W0, hW0⟩ : ∃ W0, w.alloc (.cells #[.int .u32 0, .int .u32 0, .int .u32 0, .int .u32 0, .int .u32 0, .int .u32 0, .int .u32 0, .int .u32 0, .int .u32 0, .int .u32 0, .int .u32 0, .int .u32 0, .int .u32 0, .int .u32 0, .int .u32 0, .int .u32 0, .int .u32 0, .int .u32 0, .int .u32 0, .int .u32 0, .int .u32 0, .int .u32 0, .int .u32 0, .int .u32 0, .int .u32 0, .int .u32 0, .int .u32 0, .int .u32 0, .int .u32 0, .int .u32 0, .int .u32 0, .int .u32 0, .int .u32 0, .int .u32 0, .int .u32 0, .int .u32 0, .int .u32 0, .int .u32 0, .int .u32 0, .int .u32 0, .int .u32 0, .int .u32 0, .int .u32 0, .int .u32 0, .int .u32 0, .int .u32 0, .int .u32 0, .int .u32 0, .int .u32 0, .int .u32 0, .int .u32 0, .int .u32 0, .int .u32 0, .int .u32 0, .int .u32 0, .int .u32 0, .int .u32 0, .int .u32 0, .int .u32 0, .int .u32 0, .int .u32 0, .int .u32 0, .int .u32 0, .int .u32 0] 162) = W0 := ⟨_, rfl⟩
  rw [hW0]
  have q0 : Below w.heap.size w W0 := by rw [← hW0]; exact (Below.refl _ w).alloc (Nat.le_refl _) _
  have k0 : W0.heap[w.heap.size]? = some (.cells ((sched bs 0).map (Value.int .u32)).toArray 162 (0, 0)) := by rw [← hW0]; exact blk_new w _
  clear hW0
  go_wp2_with fail
  go_loopg [25] 64 (fun gg s25 wr => ∃ t : Nat, t ≤ 64 ∧ 64 - t ≤ gg ∧ s25 = .int .i64 t ∧ Aside (Below w.heap.size w wr) ∧ Aside (wr.heap[w.heap.size]? = some (.cells ((sched bs t).map (Value.int .u32)).toArray 162 (0, 0))))
  case atStart => exact ⟨0, by omega, by omega, rfl, q0, k0⟩
  clear q0 k0 W0
  case round =>
    obtain ⟨t, ht, hgg, rfl, B, K⟩ := hrel
    have kg := (B.out.block g hgw).trans HG.out
    by_cases hlt : t < 64
    · have hltz : (t : Int) < 64 := by omega
      by_cases h16 : t < 16
      · have h16z : (t : Int) < 16 := by omega
        have m4 : wrap64 (4 * (t : Int)) = ((4 * t : Nat) : Int) := by unfold wrap64; omega
        have b0 : wr.cell? ⟨g, 8 + 4 * t, none⟩ = some (.int .u8 bs[4 * t]!) := cell_in kg (hc_byte ws bs n h1 (4 * t) (by omega))
        have b1 : wr.cell? ⟨g, 8 + 4 * t + 1, none⟩ = some (.int .u8 bs[4 * t + 1]!) := cell_in kg (hc_byte ws bs n h1 (4 * t + 1) (by omega))
        have b2 : wr.cell? ⟨g, 8 + 4 * t + 2, none⟩ = some (.int .u8 bs[4 * t + 2]!) := cell_in kg (hc_byte ws bs n h1 (4 * t + 2) (by omega))
        have b3 : wr.cell? ⟨g, 8 + 4 * t + 3, none⟩ = some (.int .u8 bs[4 * t + 3]!) := cell_in kg (hc_byte ws bs n h1 (4 * t + 3) (by omega))
        have kw := K.out
        have wt : wr.cell? ⟨w.heap.size, t, none⟩ = some (.int .u32 (sched bs t)[t]!) := by
          refine cell_in kw ?_
          rw [List.getElem?_map, List.getElem?_eq_getElem (by rw [sched_len]; omega), getElem!_pos _ t (by rw [sched_len]; omega)]
          rfl
        have fz : wr.frozen? ⟨w.heap.size, t, none⟩ = false := frozen_in kw
        have SET : Aside0 ((wr.setCell ⟨w.heap.size, t, none⟩ (.int .u32 (word4 bs[4 * t]! bs[4 * t + 1]! bs[4 * t + 2]! bs[4 * t + 3]!))).heap[w.heap.size]? = some (.cells ((sched bs (t + 1)).map (Value.int .u32)).toArray 162 (0, 0))) := ⟨by
          rw [set_list kw, sched_succ, List.map_set]
          unfold schedAt
          rw [if_pos h16]⟩
        generalize bs[4 * t]! = y0 at *
        generalize bs[4 * t + 1]! = y1 at *
        generalize bs[4 * t + 2]! = y2 at *
        generalize bs[4 * t + 3]! = y3 at *
        generalize (sched bs t)[t]! = z at *
        have hsl := fun w => slice122 g 8 (4 * t) (by omega) w
        simp only [Int.natCast_mul, Int.cast_ofNat_Int] at hsl
        have l0 : 0 < 64 - 4 * t := by omega
        have l1 : (0 : Int) < ((64 - 4 * t : Nat) : Int) ∧ (1 : Int) < ((64 - 4 * t : Nat) : Int) ∧ (2 : Int) < ((64 - 4 * t : Nat) : Int) ∧ (3 : Int) < ((64 - 4 * t : Nat) : Int) := by omega
        obtain ⟨l1, l2, l3, l4⟩ := l1
        generalize hln : 64 - 4 * t = ln at *
        clear kg kw
        go_upto_region 6 with (fail)
        go_region
        go_wp2_with fail
        go_roundg (64 - (t + 1))
        case measure => omega
        case rel => exact ⟨t + 1, by omega, by omega, by go_num, (B.out.setCell (p := ⟨w.heap.size, t, none⟩) (Nat.le_refl _) _).drew, SET.out⟩
      · have h16z : ¬ (t : Int) < 16 := by omega
        have kw := K.out
        have hcell : ∀ j, j < 64 → wr.cell? ⟨w.heap.size, j, none⟩ = some (.int .u32 (sched bs t)[j]!) := fun j hj => by
          refine cell_in kw ?_
          rw [List.getElem?_map, List.getElem?_eq_getElem (by rw [sched_len]; omega), getElem!_pos _ j (by rw [sched_len]; omega)]
          rfl
        have fz : wr.frozen? ⟨w.heap.size, t, none⟩ = false := frozen_in kw
        have c15 := hcell (t - 15) (by omega)
        have c2 := hcell (t - 2) (by omega)
        have c16 := hcell (t - 16) (by omega)
        have c7 := hcell (t - 7) (by omega)
        have c0 := hcell t (by omega)
        have n15 : wrap64 ((t : Int) - 15) = ((t - 15 : Nat) : Int) := by unfold wrap64; omega
        have n2 : wrap64 ((t : Int) - 2) = ((t - 2 : Nat) : Int) := by unfold wrap64; omega
        have n16 : wrap64 ((t : Int) - 16) = ((t - 16 : Nat) : Int) := by unfold wrap64; omega
        have n7 : wrap64 ((t : Int) - 7) = ((t - 7 : Nat) : Int) := by unfold wrap64; omega
        have i15 : 0 ≤ ((t - 15 : Nat) : Int) ∧ ((t - 15 : Nat) : Int) < 64 := by omega
        have i2 : 0 ≤ ((t - 2 : Nat) : Int) ∧ ((t - 2 : Nat) : Int) < 64 := by omega
        have i16 : 0 ≤ ((t - 16 : Nat) : Int) ∧ ((t - 16 : Nat) : Int) < 64 := by omega
        have i7 : 0 ≤ ((t - 7 : Nat) : Int) ∧ ((t - 7 : Nat) : Int) < 64 := by omega
        generalize hq15 : t - 15 = q15 at *
        generalize hq2 : t - 2 = q2 at *
        generalize hq16 : t - 16 = q16 at *
        generalize hq7 : t - 7 = q7 at *
        obtain ⟨x, hx⟩ : ∃ x, (sched bs t)[q15]! = x := ⟨_, rfl⟩
        obtain ⟨y, hy⟩ : ∃ y, (sched bs t)[q2]! = y := ⟨_, rfl⟩
        obtain ⟨xa, hxa⟩ : ∃ xa, (sched bs t)[q16]! = xa := ⟨_, rfl⟩
        obtain ⟨xb, hxb⟩ : ∃ xb, (sched bs t)[q7]! = xb := ⟨_, rfl⟩
        rw [hx] at c15
        rw [hy] at c2
        rw [hxa] at c16
        rw [hxb] at c7
        have E15 := Aside0.mk hx
        have E2 := Aside0.mk hy
        have E16 := Aside0.mk hxa
        have E7 := Aside0.mk hxb
        clear hx hy hxa hxb
        generalize (sched bs t)[t]! = z at *
        clear kw kg hcell
        go_upto_region 7 with (fail)
        go_region
        go_wp2_with fail
        refine (rot_c x (-7) (by kernel_rfl) _).mono ?_
        rintro e w1 ⟨rfl, hd⟩
        have D1 : Below wr.heap.size wr w1 := (Below.refl _ wr).drew.trans hd.below
        clear hd
        go_wp2_with fail
        refine (rot_c x (-18) (by kernel_rfl) _).mono ?_
        rintro e w2 ⟨rfl, hd⟩
        have D2 : Below wr.heap.size wr w2 := D1.trans (hd.below.mono D1.size)
        clear hd D1
        go_wp2_with fail
        refine (rot_c y (-17) (by kernel_rfl) _).mono ?_
        rintro e w3 ⟨rfl, hd⟩
        have D3 : Below wr.heap.size wr w3 := D2.trans (hd.below.mono D2.size)
        clear hd D2
        go_wp2_with fail
        refine (rot_c y (-19) (by kernel_rfl) _).mono ?_
        rintro e w4 ⟨rfl, hd⟩
        have D4 : Below wr.heap.size wr w4 := D3.trans (hd.below.mono D3.size)
        clear hd D3
        have hws : w.heap.size < wr.heap.size := (Array.getElem?_eq_some_iff.1 K.out).1
        have d16 := (D4.cell (p := ⟨w.heap.size, q16, none⟩) hws).trans c16
        have d7 := (D4.cell (p := ⟨w.heap.size, q7, none⟩) hws).trans c7
        have d0 := (D4.cell (p := ⟨w.heap.size, t, none⟩) hws).trans c0
        have fz4 : w4.frozen? ⟨w.heap.size, t, none⟩ = false := frozen_in ((D4.block _ hws).trans K.out)
        clear c15 c2 c16 c7 c0 fz
        go_upto_region 10 with (fail)
        have SET : Aside0 ((w4.setCell ⟨w.heap.size, t, none⟩ (.int .u32 (more4 xa x xb y))).heap[w.heap.size]? = some (.cells ((sched bs (t + 1)).map (Value.int .u32)).toArray 162 (0, 0))) := ⟨by
          rw [set_list ((D4.block _ hws).trans K.out), sched_succ, List.map_set]
          unfold schedAt
          rw [if_neg h16, hq15, hq2, hq16, hq7, E15.out, E2.out, E16.out, E7.out]⟩
        have B4 := B.out.trans (D4.mono B.out.size)
        go_region
        go_wp2_with fail
        go_roundg (64 - (t + 1))
        case measure => omega
        case rel => exact ⟨t + 1, by omega, by omega, by go_num, (B4.setCell (p := ⟨w.heap.size, t, none⟩) (Nat.le_refl _) _).drew, SET.out⟩
    · have hltz : ¬ (t : Int) < 64 := by omega
      obtain rfl : t = 64 := by omega
      have KW := Aside0.mk K.out
      have BB := B.out
      have w0 : wr.cell? ⟨g, 0, none⟩ = some (.int .u32 ws[0]!) := cell_in kg (hc_word ws bs n 0 (by omega))
      have w1 : wr.cell? ⟨g, 1, none⟩ = some (.int .u32 ws[1]!) := cell_in kg (hc_word ws bs n 1 (by omega))
      have w2 : wr.cell? ⟨g, 2, none⟩ = some (.int .u32 ws[2]!) := cell_in kg (hc_word ws bs n 2 (by omega))
      have w3 : wr.cell? ⟨g, 3, none⟩ = some (.int .u32 ws[3]!) := cell_in kg (hc_word ws bs n 3 (by omega))
      have w4 : wr.cell? ⟨g, 4, none⟩ = some (.int .u32 ws[4]!) := cell_in kg (hc_word ws bs n 4 (by omega))
      have w5 : wr.cell? ⟨g, 5, none⟩ = some (.int .u32 ws[5]!) := cell_in kg (hc_word ws bs n 5 (by omega))
      have w6 : wr.cell? ⟨g, 6, none⟩ = some (.int .u32 ws[6]!) := cell_in kg (hc_word ws bs n 6 (by omega))
      have w7 : wr.cell? ⟨g, 7, none⟩ = some (.int .u32 ws[7]!) := cell_in kg (hc_word ws bs n 7 (by omega))
      obtain ⟨x0, x1, x2, x3, x4, x5, x6, x7, hx07⟩ : ∃ x0 x1 x2 x3 x4 x5 x6 x7 : Int, ((ws[0]!, ws[1]!, ws[2]!, ws[3]!, ws[4]!, ws[5]!, ws[6]!, ws[7]!) : St8) = (x0, x1, x2, x3, x4, x5, x6, x7) := ⟨_, _, _, _, _, _, _, _, rfl⟩
      have X07 := Aside0.mk hx07
      simp only [Prod.mk.injEq] at hx07
      obtain ⟨hx0, hx1, hx2, hx3, hx4, hx5, hx6, hx7⟩ := hx07
      rw [hx0] at w0
      rw [hx1] at w1
      rw [hx2] at w2
      rw [hx3] at w3
      rw [hx4] at w4
      rw [hx5] at w5
      rw [hx6] at w6
      rw [hx7] at w7
      clear hx0 hx1 hx2 hx3 hx4 hx5 hx6 hx7
      go_upto_region 12 with (fail)
      go_cut [9, 10, 11, 12, 13, 14, 15, 16] (fun s9 s10 s11 s12 s13 s14 s15 s16 wx => s9 = .int .u32 x0 ∧ s10 = .int .u32 x1 ∧ s11 = .int .u32 x2 ∧ s12 = .int .u32 x3 ∧ s13 = .int .u32 x4 ∧ s14 = .int .u32 x5 ∧ s15 = .int .u32 x6 ∧ s16 = .int .u32 x7 ∧ wx = wr.drew)
      case first =>
        have f8 : ∀ W, Below wr.heap.size wr W → W.cell? ⟨g, 0, none⟩ = some (.int .u32 x0) ∧ W.cell? ⟨g, 1, none⟩ = some (.int .u32 x1) ∧ W.cell? ⟨g, 2, none⟩ = some (.int .u32 x2) ∧ W.cell? ⟨g, 3, none⟩ = some (.int .u32 x3) ∧ W.cell? ⟨g, 4, none⟩ = some (.int .u32 x4) ∧ W.cell? ⟨g, 5, none⟩ = some (.int .u32 x5) ∧ W.cell? ⟨g, 6, none⟩ = some (.int .u32 x6) ∧ W.cell? ⟨g, 7, none⟩ = some (.int .u32 x7) := fun W hW => by
          have hgr : g < wr.heap.size := (Array.getElem?_eq_some_iff.1 kg).1
          exact ⟨(hW.cell (p := ⟨g, 0, none⟩) hgr).trans w0, (hW.cell (p := ⟨g, 1, none⟩) hgr).trans w1, (hW.cell (p := ⟨g, 2, none⟩) hgr).trans w2, (hW.cell (p := ⟨g, 3, none⟩) hgr).trans w3, (hW.cell (p := ⟨g, 4, none⟩) hgr).trans w4, (hW.cell (p := ⟨g, 5, none⟩) hgr).trans w5, (hW.cell (p := ⟨g, 6, none⟩) hgr).trans w6, (hW.cell (p := ⟨g, 7, none⟩) hgr).trans w7⟩
        have F8 := Aside0.mk f8
        clear f8 hltz hlt hgg ht B K kg KW X07 BB w0 w1 w2 w3 w4 w5 w6 w7
        refine wp_region_held_drew (S := (fun W => Below wr.heap.size wr W)) (by kernel_rfl) (by exact (Below.refl _ wr).drew) (fun hHeld => ?_)
        refine wpAnyH_take (i := 0) (oi := _) (v := ?_) rfl (by kernel_rfl) (by kernel_rfl) (by kernel_rfl) (fun _ _ _ h => h) (Or.inl ⟨by rfl, ?_⟩) (by assumption) ?_
        rotate_left
        · (intro w hSw; (try dsimp only at hSw); go_simp; (try with_reducible rfl))
        (try simp only [uA, uB, uC, uD, uE, uF, uG, uH])
        refine wpAnyH_take (i := 1) (oi := _) (v := ?_) rfl (by kernel_rfl) (by kernel_rfl) (by kernel_rfl) (fun _ _ _ h => h) (Or.inl ⟨by rfl, ?_⟩) (by assumption) ?_
        rotate_left
        · (intro w hSw; (try dsimp only at hSw); go_simp; (try with_reducible rfl))
        (try simp only [uA, uB, uC, uD, uE, uF, uG, uH])
        refine wpAnyH_take (i := 2) (oi := _) (v := ?_) rfl (by kernel_rfl) (by kernel_rfl) (by kernel_rfl) (fun _ _ _ h => h) (Or.inl ⟨by rfl, ?_⟩) (by assumption) ?_
        rotate_left
        · (intro w hSw; (try dsimp only at hSw); go_simp; (try with_reducible rfl))
        (try simp only [uA, uB, uC, uD, uE, uF, uG, uH])
        refine wpAnyH_take (i := 3) (oi := _) (v := ?_) rfl (by kernel_rfl) (by kernel_rfl) (by kernel_rfl) (fun _ _ _ h => h) (Or.inl ⟨by rfl, ?_⟩) (by assumption) ?_
        rotate_left
        · (intro w hSw; (try dsimp only at hSw); go_simp; (try with_reducible rfl))
        (try simp only [uA, uB, uC, uD, uE, uF, uG, uH])
        refine wpAnyH_take (i := 4) (oi := _) (v := ?_) rfl (by kernel_rfl) (by kernel_rfl) (by kernel_rfl) (fun _ _ _ h => h) (Or.inl ⟨by rfl, ?_⟩) (by assumption) ?_
        rotate_left
        · (intro w hSw; (try dsimp only at hSw); have c0 := (F8.out w hSw).1; go_simp; (try with_reducible rfl))
        (try simp only [uA, uB, uC, uD, uE, uF, uG, uH])
        refine wpAnyH_take (i := 5) (oi := _) (v := ?_) rfl (by kernel_rfl) (by kernel_rfl) (by kernel_rfl) (fun _ _ _ h => h) (Or.inl ⟨by rfl, ?_⟩) (by assumption) ?_
        rotate_left
        · (intro w hSw; (try dsimp only at hSw); go_simp; (try with_reducible rfl))
        (try simp only [uA, uB, uC, uD, uE, uF, uG, uH])
        refine wpAnyH_take (i := 6) (oi := _) (v := ?_) rfl (by kernel_rfl) (by kernel_rfl) (by kernel_rfl) (fun _ _ _ h => h) (Or.inl ⟨by rfl, ?_⟩) (by assumption) ?_
        rotate_left
        · (intro w hSw; (try dsimp only at hSw); go_simp; (try with_reducible rfl))
        (try simp only [uA, uB, uC, uD, uE, uF, uG, uH])
        refine wpAnyH_take (i := 7) (oi := _) (v := ?_) rfl (by kernel_rfl) (by kernel_rfl) (by kernel_rfl) (fun _ _ _ h => h) (Or.inl ⟨by rfl, ?_⟩) (by assumption) ?_
        rotate_left
        · (intro w hSw; (try dsimp only at hSw); go_simp; (try with_reducible rfl))
        (try simp only [uA, uB, uC, uD, uE, uF, uG, uH])
        refine wpAnyH_take (i := 8) (oi := _) (v := ?_) rfl (by kernel_rfl) (by kernel_rfl) (by kernel_rfl) (fun _ _ _ h => h) (Or.inl ⟨by rfl, ?_⟩) (by assumption) ?_
        rotate_left
        · (intro w hSw; (try dsimp only at hSw); go_simp; (try with_reducible rfl))
        (try simp only [uA, uB, uC, uD, uE, uF, uG, uH])
        refine wpAnyH_take (i := 9) (oi := _) (v := ?_) rfl (by kernel_rfl) (by kernel_rfl) (by kernel_rfl) (fun _ _ _ h => h) (Or.inl ⟨by rfl, ?_⟩) (by assumption) ?_
        rotate_left
        · (intro w hSw; (try dsimp only at hSw); have c0 := (F8.out w hSw).2.1; go_simp; (try with_reducible rfl))
        (try simp only [uA, uB, uC, uD, uE, uF, uG, uH])
        refine wpAnyH_take (i := 10) (oi := _) (v := ?_) rfl (by kernel_rfl) (by kernel_rfl) (by kernel_rfl) (fun _ _ _ h => h) (Or.inl ⟨by rfl, ?_⟩) (by assumption) ?_
        rotate_left
        · (intro w hSw; (try dsimp only at hSw); go_simp; (try with_reducible rfl))
        (try simp only [uA, uB, uC, uD, uE, uF, uG, uH])
        refine wpAnyH_take (i := 11) (oi := _) (v := ?_) rfl (by kernel_rfl) (by kernel_rfl) (by kernel_rfl) (fun _ _ _ h => h) (Or.inl ⟨by rfl, ?_⟩) (by assumption) ?_
        rotate_left
        · (intro w hSw; (try dsimp only at hSw); go_simp; (try with_reducible rfl))
        (try simp only [uA, uB, uC, uD, uE, uF, uG, uH])
        refine wpAnyH_take (i := 12) (oi := _) (v := ?_) rfl (by kernel_rfl) (by kernel_rfl) (by kernel_rfl) (fun _ _ _ h => h) (Or.inl ⟨by rfl, ?_⟩) (by assumption) ?_
        rotate_left
        · (intro w hSw; (try dsimp only at hSw); go_simp; (try with_reducible rfl))
        (try simp only [uA, uB, uC, uD, uE, uF, uG, uH])
        refine wpAnyH_take (i := 13) (oi := _) (v := ?_) rfl (by kernel_rfl) (by kernel_rfl) (by kernel_rfl) (fun _ _ _ h => h) (Or.inl ⟨by rfl, ?_⟩) (by assumption) ?_
        rotate_left
        · (intro w hSw; (try dsimp only at hSw); go_simp; (try with_reducible rfl))
        (try simp only [uA, uB, uC, uD, uE, uF, uG, uH])
        refine wpAnyH_take (i := 14) (oi := _) (v := ?_) rfl (by kernel_rfl) (by kernel_rfl) (by kernel_rfl) (fun _ _ _ h => h) (Or.inl ⟨by rfl, ?_⟩) (by assumption) ?_
        rotate_left
        · (intro w hSw; (try dsimp only at hSw); have c0 := (F8.out w hSw).2.2.1; go_simp; (try with_reducible rfl))
        (try simp only [uA, uB, uC, uD, uE, uF, uG, uH])
        refine wpAnyH_take (i := 15) (oi := _) (v := ?_) rfl (by kernel_rfl) (by kernel_rfl) (by kernel_rfl) (fun _ _ _ h => h) (Or.inl ⟨by rfl, ?_⟩) (by assumption) ?_
        rotate_left
        · (intro w hSw; (try dsimp only at hSw); go_simp; (try with_reducible rfl))
        (try simp only [uA, uB, uC, uD, uE, uF, uG, uH])
        refine wpAnyH_take (i := 16) (oi := _) (v := ?_) rfl (by kernel_rfl) (by kernel_rfl) (by kernel_rfl) (fun _ _ _ h => h) (Or.inl ⟨by rfl, ?_⟩) (by assumption) ?_
        rotate_left
        · (intro w hSw; (try dsimp only at hSw); go_simp; (try with_reducible rfl))
        (try simp only [uA, uB, uC, uD, uE, uF, uG, uH])
        refine wpAnyH_take (i := 17) (oi := _) (v := ?_) rfl (by kernel_rfl) (by kernel_rfl) (by kernel_rfl) (fun _ _ _ h => h) (Or.inl ⟨by rfl, ?_⟩) (by assumption) ?_
        rotate_left
        · (intro w hSw; (try dsimp only at hSw); go_simp; (try with_reducible rfl))
        (try simp only [uA, uB, uC, uD, uE, uF, uG, uH])
        refine wpAnyH_take (i := 18) (oi := _) (v := ?_) rfl (by kernel_rfl) (by kernel_rfl) (by kernel_rfl) (fun _ _ _ h => h) (Or.inl ⟨by rfl, ?_⟩) (by assumption) ?_
        rotate_left
        · (intro w hSw; (try dsimp only at hSw); go_simp; (try with_reducible rfl))
        (try simp only [uA, uB, uC, uD, uE, uF, uG, uH])
        refine wpAnyH_take (i := 19) (oi := _) (v := ?_) rfl (by kernel_rfl) (by kernel_rfl) (by kernel_rfl) (fun _ _ _ h => h) (Or.inl ⟨by rfl, ?_⟩) (by assumption) ?_
        rotate_left
        · (intro w hSw; (try dsimp only at hSw); have c0 := (F8.out w hSw).2.2.2.1; go_simp; (try with_reducible rfl))
        (try simp only [uA, uB, uC, uD, uE, uF, uG, uH])
        refine wpAnyH_take (i := 20) (oi := _) (v := ?_) rfl (by kernel_rfl) (by kernel_rfl) (by kernel_rfl) (fun _ _ _ h => h) (Or.inl ⟨by rfl, ?_⟩) (by assumption) ?_
        rotate_left
        · (intro w hSw; (try dsimp only at hSw); go_simp; (try with_reducible rfl))
        (try simp only [uA, uB, uC, uD, uE, uF, uG, uH])
        refine wpAnyH_take (i := 21) (oi := _) (v := ?_) rfl (by kernel_rfl) (by kernel_rfl) (by kernel_rfl) (fun _ _ _ h => h) (Or.inl ⟨by rfl, ?_⟩) (by assumption) ?_
        rotate_left
        · (intro w hSw; (try dsimp only at hSw); go_simp; (try with_reducible rfl))
        (try simp only [uA, uB, uC, uD, uE, uF, uG, uH])
        refine wpAnyH_take (i := 22) (oi := _) (v := ?_) rfl (by kernel_rfl) (by kernel_rfl) (by kernel_rfl) (fun _ _ _ h => h) (Or.inl ⟨by rfl, ?_⟩) (by assumption) ?_
        rotate_left
        · (intro w hSw; (try dsimp only at hSw); go_simp; (try with_reducible rfl))
        (try simp only [uA, uB, uC, uD, uE, uF, uG, uH])
        refine wpAnyH_take (i := 23) (oi := _) (v := ?_) rfl (by kernel_rfl) (by kernel_rfl) (by kernel_rfl) (fun _ _ _ h => h) (Or.inl ⟨by rfl, ?_⟩) (by assumption) ?_
        rotate_left
        · (intro w hSw; (try dsimp only at hSw); go_simp; (try with_reducible rfl))
        (try simp only [uA, uB, uC, uD, uE, uF, uG, uH])
        refine wpAnyH_take (i := 24) (oi := _) (v := ?_) rfl (by kernel_rfl) (by kernel_rfl) (by kernel_rfl) (fun _ _ _ h => h) (Or.inl ⟨by rfl, ?_⟩) (by assumption) ?_
        rotate_left
        · (intro w hSw; (try dsimp only at hSw); have c0 := (F8.out w hSw).2.2.2.2.1; go_simp; (try with_reducible rfl))
        (try simp only [uA, uB, uC, uD, uE, uF, uG, uH])
        refine wpAnyH_take (i := 25) (oi := _) (v := ?_) rfl (by kernel_rfl) (by kernel_rfl) (by kernel_rfl) (fun _ _ _ h => h) (Or.inl ⟨by rfl, ?_⟩) (by assumption) ?_
        rotate_left
        · (intro w hSw; (try dsimp only at hSw); go_simp; (try with_reducible rfl))
        (try simp only [uA, uB, uC, uD, uE, uF, uG, uH])
        refine wpAnyH_take (i := 26) (oi := _) (v := ?_) rfl (by kernel_rfl) (by kernel_rfl) (by kernel_rfl) (fun _ _ _ h => h) (Or.inl ⟨by rfl, ?_⟩) (by assumption) ?_
        rotate_left
        · (intro w hSw; (try dsimp only at hSw); go_simp; (try with_reducible rfl))
        (try simp only [uA, uB, uC, uD, uE, uF, uG, uH])
        refine wpAnyH_take (i := 27) (oi := _) (v := ?_) rfl (by kernel_rfl) (by kernel_rfl) (by kernel_rfl) (fun _ _ _ h => h) (Or.inl ⟨by rfl, ?_⟩) (by assumption) ?_
        rotate_left
        · (intro w hSw; (try dsimp only at hSw); go_simp; (try with_reducible rfl))
        (try simp only [uA, uB, uC, uD, uE, uF, uG, uH])
        refine wpAnyH_take (i := 28) (oi := _) (v := ?_) rfl (by kernel_rfl) (by kernel_rfl) (by kernel_rfl) (fun _ _ _ h => h) (Or.inl ⟨by rfl, ?_⟩) (by assumption) ?_
        rotate_left
        · (intro w hSw; (try dsimp only at hSw); go_simp; (try with_reducible rfl))
        (try simp only [uA, uB, uC, uD, uE, uF, uG, uH])
        refine wpAnyH_take (i := 29) (oi := _) (v := ?_) rfl (by kernel_rfl) (by kernel_rfl) (by kernel_rfl) (fun _ _ _ h => h) (Or.inl ⟨by rfl, ?_⟩) (by assumption) ?_
        rotate_left
        · (intro w hSw; (try dsimp only at hSw); have c0 := (F8.out w hSw).2.2.2.2.2.1; go_simp; (try with_reducible rfl))
        (try simp only [uA, uB, uC, uD, uE, uF, uG, uH])
        refine wpAnyH_take (i := 30) (oi := _) (v := ?_) rfl (by kernel_rfl) (by kernel_rfl) (by kernel_rfl) (fun _ _ _ h => h) (Or.inl ⟨by rfl, ?_⟩) (by assumption) ?_
        rotate_left
        · (intro w hSw; (try dsimp only at hSw); go_simp; (try with_reducible rfl))
        (try simp only [uA, uB, uC, uD, uE, uF, uG, uH])
        refine wpAnyH_take (i := 31) (oi := _) (v := ?_) rfl (by kernel_rfl) (by kernel_rfl) (by kernel_rfl) (fun _ _ _ h => h) (Or.inl ⟨by rfl, ?_⟩) (by assumption) ?_
        rotate_left
        · (intro w hSw; (try dsimp only at hSw); go_simp; (try with_reducible rfl))
        (try simp only [uA, uB, uC, uD, uE, uF, uG, uH])
        refine wpAnyH_take (i := 32) (oi := _) (v := ?_) rfl (by kernel_rfl) (by kernel_rfl) (by kernel_rfl) (fun _ _ _ h => h) (Or.inl ⟨by rfl, ?_⟩) (by assumption) ?_
        rotate_left
        · (intro w hSw; (try dsimp only at hSw); go_simp; (try with_reducible rfl))
        (try simp only [uA, uB, uC, uD, uE, uF, uG, uH])
        refine wpAnyH_take (i := 33) (oi := _) (v := ?_) rfl (by kernel_rfl) (by kernel_rfl) (by kernel_rfl) (fun _ _ _ h => h) (Or.inl ⟨by rfl, ?_⟩) (by assumption) ?_
        rotate_left
        · (intro w hSw; (try dsimp only at hSw); go_simp; (try with_reducible rfl))
        (try simp only [uA, uB, uC, uD, uE, uF, uG, uH])
        refine wpAnyH_take (i := 34) (oi := _) (v := ?_) rfl (by kernel_rfl) (by kernel_rfl) (by kernel_rfl) (fun _ _ _ h => h) (Or.inl ⟨by rfl, ?_⟩) (by assumption) ?_
        rotate_left
        · (intro w hSw; (try dsimp only at hSw); have c0 := (F8.out w hSw).2.2.2.2.2.2.1; go_simp; (try with_reducible rfl))
        (try simp only [uA, uB, uC, uD, uE, uF, uG, uH])
        refine wpAnyH_take (i := 35) (oi := _) (v := ?_) rfl (by kernel_rfl) (by kernel_rfl) (by kernel_rfl) (fun _ _ _ h => h) (Or.inl ⟨by rfl, ?_⟩) (by assumption) ?_
        rotate_left
        · (intro w hSw; (try dsimp only at hSw); go_simp; (try with_reducible rfl))
        (try simp only [uA, uB, uC, uD, uE, uF, uG, uH])
        refine wpAnyH_take (i := 36) (oi := _) (v := ?_) rfl (by kernel_rfl) (by kernel_rfl) (by kernel_rfl) (fun _ _ _ h => h) (Or.inl ⟨by rfl, ?_⟩) (by assumption) ?_
        rotate_left
        · (intro w hSw; (try dsimp only at hSw); go_simp; (try with_reducible rfl))
        (try simp only [uA, uB, uC, uD, uE, uF, uG, uH])
        refine wpAnyH_take (i := 37) (oi := _) (v := ?_) rfl (by kernel_rfl) (by kernel_rfl) (by kernel_rfl) (fun _ _ _ h => h) (Or.inl ⟨by rfl, ?_⟩) (by assumption) ?_
        rotate_left
        · (intro w hSw; (try dsimp only at hSw); go_simp; (try with_reducible rfl))
        (try simp only [uA, uB, uC, uD, uE, uF, uG, uH])
        refine wpAnyH_take (i := 38) (oi := _) (v := ?_) rfl (by kernel_rfl) (by kernel_rfl) (by kernel_rfl) (fun _ _ _ h => h) (Or.inl ⟨by rfl, ?_⟩) (by assumption) ?_
        rotate_left
        · (intro w hSw; (try dsimp only at hSw); go_simp; (try with_reducible rfl))
        (try simp only [uA, uB, uC, uD, uE, uF, uG, uH])
        refine wpAnyH_take (i := 39) (oi := _) (v := ?_) rfl (by kernel_rfl) (by kernel_rfl) (by kernel_rfl) (fun _ _ _ h => h) (Or.inl ⟨by rfl, ?_⟩) (by assumption) ?_
        rotate_left
        · (intro w hSw; (try dsimp only at hSw); have c0 := (F8.out w hSw).2.2.2.2.2.2.2; go_simp; (try with_reducible rfl))
        (try simp only [uA, uB, uC, uD, uE, uF, uG, uH])
        refine wpAnyH_take (i := 40) (oi := _) (v := ?_) rfl (by kernel_rfl) (by kernel_rfl) (by kernel_rfl) (fun _ _ _ h => h) (Or.inl ⟨by rfl, ?_⟩) (by assumption) ?_
        rotate_left
        · (intro w hSw; (try dsimp only at hSw); go_simp; (try with_reducible rfl))
        (try simp only [uA, uB, uC, uD, uE, uF, uG, uH])
        refine wpAnyH_take (i := 41) (oi := _) (v := ?_) rfl (by kernel_rfl) (by kernel_rfl) (by kernel_rfl) (fun _ _ _ h => h) (Or.inl ⟨by rfl, ?_⟩) (by assumption) ?_
        rotate_left
        · (intro w hSw; (try dsimp only at hSw); go_simp; (try with_reducible rfl))
        (try simp only [uA, uB, uC, uD, uE, uF, uG, uH])
        refine wpAnyH_take (i := 42) (oi := _) (v := ?_) rfl (by kernel_rfl) (by kernel_rfl) (by kernel_rfl) (fun _ _ _ h => h) (Or.inl ⟨by rfl, ?_⟩) (by assumption) ?_
        rotate_left
        · (intro w hSw; (try dsimp only at hSw); go_simp; (try with_reducible rfl))
        (try simp only [uA, uB, uC, uD, uE, uF, uG, uH])
        refine wpAnyH_take (i := 43) (oi := _) (v := ?_) rfl (by kernel_rfl) (by kernel_rfl) (by kernel_rfl) (fun _ _ _ h => h) (Or.inl ⟨by rfl, ?_⟩) (by assumption) ?_
        rotate_left
        · (intro w hSw; (try dsimp only at hSw); go_simp; (try with_reducible rfl))
        (try simp only [uA, uB, uC, uD, uE, uF, uG, uH])
        refine wpAnyH_take (i := 44) (oi := _) (v := ?_) rfl (by kernel_rfl) (by kernel_rfl) (by kernel_rfl) (fun _ _ _ h => h) (Or.inl ⟨by rfl, ?_⟩) (by assumption) ?_
        rotate_left
        · (intro w hSw; (try dsimp only at hSw); go_simp; (try with_reducible rfl))
        (try simp only [uA, uB, uC, uD, uE, uF, uG, uH])
        refine wpAnyH_take (i := 45) (oi := _) (v := ?_) rfl (by kernel_rfl) (by kernel_rfl) (by kernel_rfl) (fun _ _ _ h => h) (Or.inl ⟨by rfl, ?_⟩) (by assumption) ?_
        rotate_left
        · (intro w hSw; (try dsimp only at hSw); go_simp; (try with_reducible rfl))
        (try simp only [uA, uB, uC, uD, uE, uF, uG, uH])
        refine wpAnyH_take (i := 46) (oi := _) (v := ?_) rfl (by kernel_rfl) (by kernel_rfl) (by kernel_rfl) (fun _ _ _ h => h) (Or.inl ⟨by rfl, ?_⟩) (by assumption) ?_
        rotate_left
        · (intro w hSw; (try dsimp only at hSw); go_simp; (try with_reducible rfl))
        (try simp only [uA, uB, uC, uD, uE, uF, uG, uH])
        refine wpAnyH_take (i := 47) (oi := _) (v := ?_) rfl (by kernel_rfl) (by kernel_rfl) (by kernel_rfl) (fun _ _ _ h => h) (Or.inl ⟨by rfl, ?_⟩) (by assumption) ?_
        rotate_left
        · (intro w hSw; (try dsimp only at hSw); go_simp; (try with_reducible rfl))
        (try simp only [uA, uB, uC, uD, uE, uF, uG, uH])
        refine wpAnyH_done (by kernel_rfl) ?_ _
        go_wp2_with fail
        go_meet
        exact ⟨rfl, rfl, rfl, rfl, rfl, rfl, rfl, rfl, rfl⟩
      case rest =>
        obtain ⟨rfl, rfl, rfl, rfl, rfl, rfl, rfl, rfl, rfl⟩ := hcut
        clear w0 w1 w2 w3 w4 w5 w6 w7 hltz hlt hgg ht B K
        have kk : wr.drew.heap[w.heap.size]? = some (.cells ((sched bs 64).map (Value.int .u32)).toArray 162 (0, 0)) := KW.out
        have hi162 : (Tryz.prog.info? 162).map (·.size) = some ((sched bs 64).map (Value.int .u32)).toArray.size := by rw [List.size_toArray, List.length_map, sched_len]; kernel_rfl
        have D0 := BB.drew
        generalize wr.drew = wd at *
        go_upto_region 14 with (refine wpList_load_row rfl 162 (.tmp 2) rfl w.heap.size rfl 162 _ (0, 0) _ kk Tryz.underlying162 rfl hi162 ?_)
        have hidx : ∀ (j : Nat), j < 64 → ∀ w, (Instr.index 162 (.agg ((sched bs 64).map (Value.int .u32)).toArray) (.int .i64 (j : Int))).run Tryz.prog w = .ok (.int .u32 (sched bs 64)[j]!) w := fun j hj w => idx_u32 162 64 Tryz.underlying162 _ (sched_len bs 64) j hj w
        have HI := Aside0.mk hidx
        clear hidx
        go_loopg [9, 10, 11, 12, 13, 14, 15, 16, 141] 64 (fun gg s9 s10 s11 s12 s13 s14 s15 s16 s141 wr => ∃ (t : Nat) (a b c d e f h k : Int), t ≤ 64 ∧ 64 - t ≤ gg ∧ s141 = .int .i64 t ∧ s9 = .int .u32 a ∧ s10 = .int .u32 b ∧ s11 = .int .u32 c ∧ s12 = .int .u32 d ∧ s13 = .int .u32 e ∧ s14 = .int .u32 f ∧ s15 = .int .u32 h ∧ s16 = .int .u32 k ∧ Aside (rnd KS (sched bs 64) (x0, x1, x2, x3, x4, x5, x6, x7) t = (a, b, c, d, e, f, h, k)) ∧ Aside (Below w.heap.size w wr))
        case atStart => exact ⟨0, x0, x1, x2, x3, x4, x5, x6, x7, by omega, by omega, rfl, rfl, rfl, rfl, rfl, rfl, rfl, rfl, rfl, (show Aside _ from rfl), D0⟩
        case round =>
          obtain ⟨t, a, b, c, d, e, f, h, k, ht, hgg, rfl, rfl, rfl, rfl, rfl, rfl, rfl, rfl, rfl, RN, B⟩ := hrel
          by_cases hlt : t < 64
          · have hltz : (t : Int) < 64 := by omega
            have RNS : Aside0 (rnd KS (sched bs 64) (x0, x1, x2, x3, x4, x5, x6, x7) (t + 1) = rnd1 KS[t]! (sched bs 64)[t]! (a, b, c, d, e, f, h, k)) := ⟨by rw [rnd, RN.out]⟩
            have kt : wr.cell? ⟨0, t, none⟩ = some (.int .u32 KS[t]!) := (B.out.cell (p := ⟨0, t, none⟩) hw0).trans (HK.out t hlt)
            have hix := HI.out t hlt
            generalize (sched bs 64)[t]! = wt at *
            generalize KS[t]! = kst at *
            go_wp2_with fail
            refine (rot_c e (-6) (by kernel_rfl) _).mono ?_
            rintro e1 w1 ⟨rfl, hd⟩
            have D1 : Below wr.heap.size wr w1 := hd.below
            clear hd
            go_wp2_with fail
            refine (rot_c e (-11) (by kernel_rfl) _).mono ?_
            rintro e1 w2 ⟨rfl, hd⟩
            have D2 : Below wr.heap.size wr w2 := D1.trans (hd.below.mono D1.size)
            clear hd D1
            go_wp2_with fail
            refine (rot_c e (-25) (by kernel_rfl) _).mono ?_
            rintro e1 w3 ⟨rfl, hd⟩
            have D3 : Below wr.heap.size wr w3 := D2.trans (hd.below.mono D2.size)
            clear hd D2
            have hwr0 : 0 < wr.heap.size := by have := B.out.size; omega
            have kt3 := (D3.cell (p := ⟨0, t, none⟩) hwr0).trans kt
            go_wp2_with fail
            refine (rot_c a (-2) (by kernel_rfl) _).mono ?_
            rintro e1 w4 ⟨rfl, hd⟩
            have D4 : Below wr.heap.size wr w4 := D3.trans (hd.below.mono D3.size)
            clear hd D3
            go_wp2_with fail
            refine (rot_c a (-13) (by kernel_rfl) _).mono ?_
            rintro e1 w5 ⟨rfl, hd⟩
            have D5 : Below wr.heap.size wr w5 := D4.trans (hd.below.mono D4.size)
            clear hd D4
            go_wp2_with fail
            refine (rot_c a (-22) (by kernel_rfl) _).mono ?_
            rintro e1 w6 ⟨rfl, hd⟩
            have D6 : Below wr.heap.size wr w6 := D5.trans (hd.below.mono D5.size)
            clear hd D5
            have BB6 := B.out.trans (D6.mono B.out.size)
            go_wp2_with fail
            go_roundg (64 - (t + 1))
            case measure => omega
            case rel => exact ⟨t + 1, _, _, _, _, _, _, _, _, by omega, by omega, by go_num, rfl, rfl, rfl, rfl, rfl, rfl, rfl, rfl, RNS.out, BB6⟩
          · have hltz : ¬ (t : Int) < 64 := by omega
            obtain rfl : t = 64 := by omega
            have kg := (B.out.block g hgw).trans HG.out
            have RF := Aside0.mk RN.out
            have BF := B.out
            clear RN B hlt hgg ht HI kk hi162
            have hidx3 : ∀ (j : Nat), j < 8 → ∀ w, (Instr.index 121 (.agg #[.int .u32 a, .int .u32 b, .int .u32 c, .int .u32 d, .int .u32 e, .int .u32 f, .int .u32 h, .int .u32 k]) (.int .i64 (j : Int))).run Tryz.prog w = .ok (.int .u32 (l8 (a, b, c, d, e, f, h, k))[j]!) w := fun j hj w => idx_u32 121 8 Tryz.underlying121 (l8 (a, b, c, d, e, f, h, k)) rfl j hj w
            have MF : Aside0 (mixF KS ws bs = addW ws (l8 (a, b, c, d, e, f, h, k)) 8) := ⟨by unfold mixF; rw [X07.out, RF.out]⟩
            go_upto_region 23 with (fail)
            obtain ⟨AR, hAR⟩ : ∃ AR, Value.agg #[.int .u32 a, .int .u32 b, .int .u32 c, .int .u32 d, .int .u32 e, .int .u32 f, .int .u32 h, .int .u32 k] = AR := ⟨_, rfl⟩
            rw [hAR] at hidx3 ⊢
            have HI3 := Aside0.mk hidx3
            generalize l8 (a, b, c, d, e, f, h, k) = xs at *
            clear hAR hidx3 RF X07
            go_loopg [211] 8 (fun gg s211 wr => ∃ i : Nat, i ≤ 8 ∧ 8 - i ≤ gg ∧ s211 = .int .i64 i ∧ Aside (But g w wr) ∧ Aside (wr.heap[g]? = some (.cells (hcells (addW ws xs i) bs n).toArray 124 (0, 0))))
            case atStart => exact ⟨0, by omega, by omega, rfl, ⟨BF.os, BF.tape, BF.output, BF.size, fun k _ hk => BF.block k hk⟩, kg⟩
            clear BF kg
            case round =>
              obtain ⟨i, hi, hgg, rfl, B, K⟩ := hrel
              have kg := K.out
              by_cases hlt : i < 8
              · have hltz : (i : Int) < 8 := by omega
                have hix := HI3.out i hlt
                have hal := addW_len ws xs h1 i
                have ci : wr.cell? ⟨g, i, none⟩ = some (.int .u32 (addW ws xs i)[i]!) := cell_in kg (hc_word _ bs n i (by omega))
                have fi : wr.frozen? ⟨g, i, none⟩ = false := frozen_in kg
                have SET : Aside0 ((wr.setCell ⟨g, i, none⟩ (.int .u32 (((addW ws xs i)[i]! + xs[i]!) % 4294967296))).heap[g]? = some (.cells (hcells (addW ws xs (i + 1)) bs n).toArray 124 (0, 0))) := ⟨by
                  rw [set_list kg, hc_set _ _ _ _ (by omega), addW_succ]⟩
                have BS := fun v => B.out.set (i := i) v
                clear kg hal
                generalize (addW ws xs i)[i]! = z at *
                generalize xs[i]! = xi at *
                go_upto_region 25 with (fail)
                go_region
                go_wp2_with fail
                go_roundg (8 - (i + 1))
                case measure => omega
                case rel => exact ⟨i + 1, by omega, by omega, by go_num, (BS _).drew, SET.out⟩
              · have hltz : ¬ (i : Int) < 8 := by omega
                obtain rfl : i = 8 := by omega
                go_wp2_with fail
                go_end0
                refine ⟨rfl, ?_, B.out⟩
                rw [MF.out]
                exact kg
end Go.Proofs.YtadkeohohehmcaaGreatDoor.Top
end
section
/- What is written into a hash. -/
namespace Go.Proofs.YtadkeohohehmcaaGreatDoor.Top
open Go.RowKit Go.Proofs.YtadkeohohehmcaaGreatDoorW.PrintWords Go.Proofs.YtadkeohohehmcaaGreatDoor.PTop
set_option linter.unusedVariables false
set_option linter.unusedSimpArgs false
attribute [local go_sem] Oper.semAt_some

/-- A part of a row is another one. -/
def upd (bs : List Int) (o : Nat) (c : List Int) : List Int := bs.take o ++ c ++ bs.drop (o + c.length)
theorem upd_len (bs : List Int) (o : Nat) (c : List Int) (h : o + c.length ≤ bs.length) : (upd bs o c).length = bs.length := by
  simp only [upd, List.length_append, List.length_take, List.length_drop]
  omega
theorem hc_upd (ws bs : List Int) (n : Int) (h8 : ws.length = 8) (h64 : bs.length = 64) (o : Nat) (c : List Int) (h : o + c.length ≤ 64) :
    (hcells ws bs n).take (8 + o) ++ c.map (Value.int .u8) ++ (hcells ws bs n).drop (8 + o + (c.map (Value.int .u8)).length) = hcells ws (upd bs o c) n := by
  have e1 : (hcells ws bs n).take (8 + o) = ws.map (Value.int .u32) ++ (bs.take o).map (Value.int .u8) := by
    unfold hcells
    rw [List.append_assoc, List.take_append, List.take_append, List.take_of_length_le (by simp; omega)]
    simp only [List.length_map, h8, h64]
    rw [show 8 + o - 8 = o by omega, show o - 64 = 0 by omega]
    simp
  have e2 : (hcells ws bs n).drop (8 + o + (c.map (Value.int .u8)).length) = (bs.drop (o + c.length)).map (Value.int .u8) ++ [.int .i64 n] := by
    unfold hcells
    rw [List.append_assoc, List.drop_append, List.drop_append, List.drop_of_length_le (by simp; omega)]
    simp only [List.length_map, h8, h64]
    rw [show 8 + o + c.length - 8 = o + c.length by omega, show o + c.length - 64 = 0 by omega]
    simp
  rw [e1, e2]
  unfold hcells upd
  simp
theorem hc_setn (ws bs : List Int) (n v : Int) (h8 : ws.length = 8) (h64 : bs.length = 64) : (hcells ws bs n).set 72 (.int .i64 v) = hcells ws bs v := by
  unfold hcells
  rw [List.set_append_right _ _ (by simp [h8, h64])]
  simp [h8, h64]
theorem upd64 (bs : List Int) (o : Nat) (c : List Int) (h : bs.length = 64) (ho : o + c.length ≤ 64) : (upd bs o c).length = 64 := (upd_len bs o c (by omega)).trans h
structure HS where
  ws : List Int
  bs : List Int
  n : Nat
def HS.cells (s : HS) : List Value := hcells s.ws s.bs (s.n : Int)
structure HS.ok (s : HS) : Prop where
  ws : s.ws.length = 8
  bs : s.bs.length = 64
/-- What one round of writing takes. -/
def HS.m (s : HS) (l : Nat) : Nat := min (64 - s.n % 64) l
def HS.step (KS : List Int) (s : HS) (b : List Int) : HS :=
  ⟨if (s.n + s.m b.length) % 64 = 0 then mixF KS s.ws (upd s.bs (s.n % 64) (b.take (s.m b.length))) else s.ws, upd s.bs (s.n % 64) (b.take (s.m b.length)), s.n + s.m b.length⟩
theorem HS.m_pos (s : HS) {l : Nat} (h : 0 < l) : 0 < s.m l ∧ s.m l ≤ l ∧ s.n % 64 + s.m l ≤ 64 := by unfold HS.m; omega
theorem HS.step_ok {KS : List Int} {s : HS} {b : List Int} (h : s.ok) (hb : 0 < b.length) : (s.step KS b).ok := by
  have hm := s.m_pos hb
  refine ⟨?_, ?_⟩
  · unfold HS.step
    dsimp only
    split
    · exact mixF_len _ _ _ h.ws
    · exact h.ws
  · unfold HS.step
    dsimp only
    rw [upd_len, h.bs]
    rw [List.length_take, h.bs]
    omega
def writeF (KS : List Int) (s : HS) (b : List Int) : HS :=
  if h : 0 < b.length then writeF KS (s.step KS b) (b.drop (s.m b.length)) else s
termination_by b.length
decreasing_by
  have := s.m_pos h
  rw [List.length_drop]
  omega
theorem writeF_pos (KS : List Int) (s : HS) (b : List Int) (h : 0 < b.length) : writeF KS s b = writeF KS (s.step KS b) (b.drop (s.m b.length)) := by
  rw [writeF, dif_pos h]
theorem writeF_nil (KS : List Int) (s : HS) (b : List Int) (h : ¬ 0 < b.length) : writeF KS s b = s := by
  rw [writeF, dif_neg h]
theorem writeF_ok (KS : List Int) : ∀ (k : Nat) (s : HS) (b : List Int), b.length ≤ k → s.ok → (writeF KS s b).ok
  | 0, s, b, hk, h => by rw [writeF_nil KS s b (by omega)]; exact h
  | k + 1, s, b, hk, h => by
    by_cases hb : 0 < b.length
    · rw [writeF_pos KS s b hb]
      have := s.m_pos hb
      exact writeF_ok KS k _ _ (by rw [List.length_drop]; omega) (s.step_ok h hb)
    · rw [writeF_nil KS s b hb]; exact h
theorem writeF_n (KS : List Int) : ∀ (k : Nat) (s : HS) (b : List Int), b.length ≤ k → (writeF KS s b).n = s.n + b.length
  | 0, s, b, hk => by rw [writeF_nil KS s b (by omega)]; omega
  | k + 1, s, b, hk => by
    by_cases hb : 0 < b.length
    · rw [writeF_pos KS s b hb]
      have := s.m_pos hb
      rw [writeF_n KS k _ _ (by rw [List.length_drop]; omega), List.length_drop]
      show s.n + s.m b.length + _ = _
      omega
    · rw [writeF_nil KS s b hb]; omega
/-- Bytes, as they lie. -/
structure Src (w : World) (g : Nat) (A : Option Addr) (c : Nat) (b : List Int) (sb so : Nat) : Prop where
  A : 0 < b.length → A = some ⟨sb, so, none⟩
  cap : b.length ≤ c
  ne : 0 < b.length → sb ≠ g ∧ sb < w.heap.size
  cell : ∀ j, j < b.length → w.cell? ⟨sb, so + j, none⟩ = some (.int .u8 b[j]!)
theorem Src.but {w w' : World} {g : Nat} {A : Option Addr} {c : Nat} {b : List Int} {sb so : Nat} (h : Src w g A c b sb so) (hb : But g w w') : Src w' g A c b sb so := by
  refine ⟨h.A, h.cap, fun h0 => ⟨(h.ne h0).1, Nat.lt_of_lt_of_le (h.ne h0).2 hb.size⟩, fun j hj => ?_⟩
  have h1 := h.ne (by omega)
  have hc := h.cell j hj
  simp only [World.cell?, hb.block sb h1.1 h1.2] at hc ⊢
  exact hc

set_option maxHeartbeats 2000000 in
set_option maxRecDepth 100000 in
theorem write_c (KS : List Int) (g : Nat) (s : HS) (A : Option Addr) (c : Nat) (b : List Int) (sb so : Nat) (w : World) (hs : s.ok) (hg : w.heap[g]? = some (.cells s.cells.toArray 124 (0, 0))) (hk : ∀ j, j < 64 → w.cell? ⟨0, j, none⟩ = some (.int .u32 KS[j]!)) (hg0 : g ≠ 0)
    (hsrc : Src w g A c b sb so) (hn : s.n + b.length < 4611686018427387904) :
    Calls Tryz.prog 42 #[.pointer (some ⟨g, 0, none⟩), .slice A b.length c] w fun e w' => e = .returned (.int .i64 0) ∧ w'.heap[g]? = some (.cells (writeF KS s b).cells.toArray 124 (0, 0)) ∧ But g w w' := by
  have e65 : ∀ args w, (callFunc 65 args).run Tryz.prog w = .ok (.enter 65 args) w := enters_of Tryz.func65 (by kernel_rfl) rfl
  have HSRC := Aside0.mk hsrc
  have HK := Aside0.mk hk
  have hw0 : 0 < w.heap.size := by
    have := hk 0 (by decide)
    rcases Nat.eq_zero_or_pos w.heap.size with h | h
    · rw [World.cell?, Array.getElem?_eq_none (by simp [h])] at this
      simp at this
    · exact h
  have hgw : g < w.heap.size := (Array.getElem?_eq_some_iff.1 hg).1
  generalize hfin : writeF KS s b = FIN
  have HF := Aside0.mk hfin
  clear hk hsrc hfin
  go_enter Tryz.func42, Tryz.ntmps42
  go_wp2_with fail
  go_loopg [1] b.length (fun gg s1 wr => ∃ (s' : HS) (A' : Option Addr) (c' : Nat) (r : Nat) , r ≤ b.length ∧ b.length - r ≤ gg ∧ s1 = .slice A' (b.length - r) c' ∧ Aside (s'.ok) ∧ Aside (s'.n = s.n + r) ∧ Aside (writeF KS s' (b.drop r) = FIN) ∧ Aside (Src w g A' c' (b.drop r) sb (so + r)) ∧ Aside (But g w wr) ∧ Aside (wr.heap[g]? = some (.cells s'.cells.toArray 124 (0, 0))))
  case atStart => exact ⟨s, A, c, 0, by omega, by omega, rfl, hs, rfl, HF.out, HSRC.out, But.of_below (Below.refl _ _), hg⟩
  clear hg hs HF HSRC
  case round =>
    obtain ⟨s', A', c', r, hr, hgg, rfl, OK, SN, FN, SR, B, K⟩ := hrel
    by_cases hlt : r < b.length
    · have hltz : ((b.length - r : Nat) : Int) > 0 := by omega
      obtain rfl := SR.out.A (by rw [List.length_drop]; omega)
      have kg := K.out
      have ok := OK.out
      obtain ⟨d, hd⟩ : ∃ d, b.drop r = d := ⟨_, rfl⟩
      have hdl : d.length = b.length - r := by rw [← hd, List.length_drop]
      rw [hd] at SR FN
      have hne := SR.out.ne (by omega)
      have HDL := Aside0.mk hdl
      have HNE := Aside0.mk hne
      have HD := Aside0.mk hd
      have hm := s'.m_pos (l := d.length) (by omega)
      have hcn : wr.cell? ⟨g, 72, none⟩ = some (.int .i64 (s'.n : Int)) := cell_in kg (hc_n _ _ _ ok.ws ok.bs)
      have hrem : (s'.n : Int).tmod 64 = ((s'.n % 64 : Nat) : Int) := by rw [Int.tmod_eq_emod_of_nonneg (by omega)]; omega
      obtain ⟨o, ho⟩ : ∃ o, s'.n % 64 = o := ⟨_, rfl⟩
      have ho64 : o < 64 := by omega
      rw [ho] at hrem
      have hsl := fun w => slice122 g 8 o ho64 w
      obtain ⟨m, hmm⟩ : ∃ m, s'.m d.length = m := ⟨_, rfl⟩
      have hmin : m = min (64 - o) d.length := by rw [← hmm, ← ho]; rfl
      rw [hmm, ho] at hm
      have hclen : s'.cells.toArray.size = 73 := by rw [List.size_toArray]; exact hc_len _ _ _ ok.ws ok.bs
      have hcp : ∀ W : World, W.heap = wr.heap → (Builtin.copy_ #[57, 57] 3 #[.slice (some ⟨g, 8 + o, none⟩) (64 - o) (64 - o), .slice (some ⟨sb, so + r, none⟩) (b.length - r) c']).run Tryz.prog W = .ok (.int .i64 (m : Int)) (W.setRow g (hcells s'.ws (upd s'.bs o (d.take m)) (s'.n : Int)).toArray) := fun W hW => by
        have hl : ((d.take m).map (Value.int .u8)).length = m := by rw [List.length_map, List.length_take]; omega
        have := run_copy_row (P := Tryz.prog) W 57 57 3 5 g (8 + o) (64 - o) (64 - o) ⟨sb, so + r, none⟩ (b.length - r) c' s'.cells.toArray 124 ((d.take m).map (Value.int .u8)) Tryz.underlying57 (by kernel_rfl) (by rw [hW]; exact kg) (by rw [hl, hmin, ← hdl]; exact Nat.min_comm _ _) (fun j v hj => by
          have hjm : j < m := by have := (List.getElem?_eq_some_iff.1 hj).1; omega
          have hc := (SR.out.but B.out).cell j (by omega)
          rw [List.getElem?_map, List.getElem?_take, if_pos hjm, List.getElem?_eq_getElem (by omega)] at hj
          rw [getElem!_pos d j (by omega)] at hc
          simp only [Addr.add_mid]
          simp only [World.cell?, hW] at hc ⊢
          rw [hc]
          exact hj) (by rw [hclen, hl]; omega) (fun v hv => by
          obtain ⟨x, _, rfl⟩ := List.mem_map.1 hv
          rfl)
        rw [this, hl]
        have hu := hc_upd s'.ws s'.bs (s'.n : Int) ok.ws ok.bs o (d.take m) (by rw [List.length_take]; omega)
        rw [hl] at hu
        rw [show s'.cells.toArray.toList = hcells s'.ws s'.bs (s'.n : Int) from rfl, hu]
        rfl
      have hrem2 : (s'.n : Int) % 64 = (o : Int) := by omega
      have HHO := Aside0.mk ho
      have HMM := Aside0.mk hmm
      have HMIN := Aside0.mk hmin
      have hmr : m ≤ b.length - r := by omega
      have hmc : m ≤ c' := by have := SR.out.cap; omega
      have hwn : wrap64 ((s'.n : Int) + (m : Int)) = ((s'.n + m : Nat) : Int) := by have := SN.out; unfold wrap64; omega
      clear ho hmm hdl hne hd hmin
      have hcp1 := hcp wr rfl
      have hcp2 := hcp wr.drew rfl
      go_upto_region 4 with (fail)
      go_region
      have kg1 := setRow_heap wr.drew g _ (hcells s'.ws (upd s'.bs o (d.take m)) (s'.n : Int)).toArray 124 (0, 0) kg
      have B1 : But g w (wr.drew.setRow g (hcells s'.ws (upd s'.bs o (d.take m)) (s'.n : Int)).toArray) := ⟨B.out.os, B.out.tape, B.out.output, by rw [size_setRow]; exact B.out.size, fun k h1 h2 => (setRow_other _ _ k _ h1).trans (B.out.block k h1 h2)⟩
      generalize (wr.drew.setRow g (hcells s'.ws (upd s'.bs o (d.take m)) (s'.n : Int)).toArray) = W1 at kg1 B1 ⊢
      clear hcp1 hcp2 hcp hcn kg hrem hrem2 hsl
      have hup : (upd s'.bs o (d.take m)).length = 64 := upd64 _ _ _ ok.bs (Nat.le_trans (Nat.add_le_add_left (List.length_take_le _ _) o) hm.2.2)
      have hcn : W1.cell? ⟨g, 72, none⟩ = some (.int .i64 (s'.n : Int)) := cell_in kg1 (hc_n _ _ _ ok.ws hup)
      have hfn : W1.frozen? ⟨g, 72, none⟩ = false := frozen_in kg1
      have kg2 : (W1.setCell ⟨g, 72, none⟩ (.int .i64 ((s'.n + m : Nat) : Int))).heap[g]? = some (.cells (hcells s'.ws (upd s'.bs o (d.take m)) ((s'.n + m : Nat) : Int)).toArray 124 (0, 0)) := by
        rw [set_list kg1, hc_setn _ _ _ _ ok.ws hup]
      have B2 := B1.set (i := 72) (.int .i64 ((s'.n + m : Nat) : Int))
      have hcn2 : (W1.setCell ⟨g, 72, none⟩ (.int .i64 ((s'.n + m : Nat) : Int))).cell? ⟨g, 72, none⟩ = some (.int .i64 ((s'.n + m : Nat) : Int)) := cell_in kg2 (hc_n _ _ _ ok.ws hup)
      obtain ⟨v, hv⟩ : ∃ v, s'.n + m = v := ⟨_, rfl⟩
      rw [hv] at hwn hcn2 kg2 B2
      have hst : s'.step KS d = ⟨if v % 64 = 0 then mixF KS s'.ws (upd s'.bs o (d.take m)) else s'.ws, upd s'.bs o (d.take m), v⟩ := by
        unfold HS.step
        rw [HMM.out, HHO.out, hv]
      have HST := Aside0.mk hst
      have HV := Aside0.mk hv
      have hremv : (v : Int).tmod 64 = ((v % 64 : Nat) : Int) := by rw [Int.tmod_eq_emod_of_nonneg (by omega)]; omega
      clear hst hv
      go_upto_region 6 with (fail)
      generalize (W1.setCell ⟨g, 72, none⟩ (.int .i64 (v : Int))) = W2 at kg2 B2 hcn2 ⊢
      clear kg1 B1 hcn hfn
      go_upto_region 7 with (fail)
      have OK2 : Aside0 ((s'.step KS d).ok) := ⟨HS.step_ok ok (by have := HDL.out; omega)⟩
      have FN2 : Aside0 (writeF KS (s'.step KS d) (b.drop (r + m)) = FIN) := ⟨by
        have h1 := FN.out
        rw [writeF_pos _ _ _ (by have := HDL.out; omega), HMM.out] at h1
        rw [show d.drop m = b.drop (r + m) by rw [← HD.out, List.drop_drop]] at h1
        exact h1⟩
      have SN2 : Aside0 (v = s.n + (r + m)) := ⟨by have := SN.out; have := HV.out; omega⟩
      have SR2 : Aside0 (Src w g (if c' = m then some ⟨sb, so + r, none⟩ else some ⟨sb, so + r + m, none⟩) (c' - m) (b.drop (r + m)) sb (so + (r + m))) := ⟨by
        have hl : (b.drop (r + m)).length = b.length - (r + m) := List.length_drop ..
        have h0 := SR.out
        have hdl := HDL.out
        have hcap := h0.cap
        refine ⟨fun hp => ?_, by omega, fun _ => HNE.out, fun j hj => ?_⟩
        · rw [if_neg (by omega), show so + r + m = so + (r + m) by omega]
        · have hc := h0.cell (m + j) (by omega)
          rw [show so + r + (m + j) = so + (r + m) + j by omega, ← HD.out, getElem!_pos _ _ (by rw [HD.out]; omega), List.getElem_drop] at hc
          rw [getElem!_pos _ j hj, List.getElem_drop]
          rw [hc]
          congr 3
          omega⟩
      have hlr : b.length - r - m = b.length - (r + m) := by omega
      have HLR := Aside0.mk hlr
      have WS8 := Aside0.mk ok.ws
      have hm1 := hm.1
      clear hlr hup hm hclen hmc OK SN B K HDL HNE HD HMIN HHO HMM SR FN HV hwn ok
      generalize (if c' = m then some ⟨sb, so + r, none⟩ else some ⟨sb, so + r + m, none⟩ : Option Addr) = A2 at SR2 ⊢
      have hws := OK2.out.ws
      have hst := HST.out
      have hremv2 : (v : Int) % 64 = ((v % 64 : Nat) : Int) := by omega
      by_cases hv0 : v % 64 = 0
      · rw [if_pos hv0] at hst
        rw [hv0] at hremv hremv2
        have CM := Aside0.mk (mix_c KS g s'.ws (upd s'.bs o (d.take m)) (v : Int) W2 WS8.out (by have := OK2.out.bs; rw [hst] at this; exact this) kg2 (fun j hj => by
          have := HK.out j hj
          simp only [World.cell?, B2.block 0 (Ne.symm hg0) hw0] at this ⊢
          exact this))
        clear hst hws
        have hB2 := Aside0.mk B2
        clear kg2 B2
        go_wp2_with fail
        refine CM.out.mono ?_
        rintro e w3 ⟨rfl, hg3, hb3⟩
        have B3 := hB2.out.trans hb3
        have G3 := Aside0.mk hg3
        clear hg3 hb3 CM hB2 hcn2
        go_wp2_with fail
        go_roundg (b.length - (r + m))
        case measure => omega
        case rel =>
          refine ⟨s'.step KS d, A2, c' - m, r + m, by omega, by omega, by rw [← HLR.out], OK2.out, (show Aside _ from ?_), FN2.out, SR2.out, B3, (show Aside _ from ?_)⟩
          · rw [HST.out]
            exact SN2.out
          · rw [HST.out, if_pos hv0]
            exact G3.out
      · rw [if_neg hv0] at hst
        have hz : ((v % 64 : Nat) : Int) ≠ 0 := by omega
        have hz2 : (((v % 64 : Nat) : Int) == 0) = false := by simpa using hz
        obtain ⟨vm, hvm⟩ : ∃ vm : Nat, v % 64 = vm := ⟨_, rfl⟩
        rw [hvm] at hremv hremv2 hz hz2
        have hB2 := Aside0.mk B2
        have hG2 := Aside0.mk kg2
        have HV0 := Aside0.mk hv0
        clear hst hws kg2 B2 hv0 hvm
        go_wp2_with fail
        go_roundg (b.length - (r + m))
        case measure => omega
        case rel =>
          refine ⟨s'.step KS d, A2, c' - m, r + m, by omega, by omega, by rw [← HLR.out], OK2.out, (show Aside _ from ?_), FN2.out, SR2.out, hB2.out, (show Aside _ from ?_)⟩
          · rw [HST.out]
            exact SN2.out
          · rw [HST.out, if_neg HV0.out]
            exact hG2.out
    · have hltz : ¬ ((b.length - r : Nat) : Int) > 0 := by omega
      have hfn := FN.out
      rw [writeF_nil _ _ _ (by rw [List.length_drop]; omega)] at hfn
      subst hfn
      go_wp2_with fail
      go_ret
      exact ⟨rfl, K.out, B.out⟩
end Go.Proofs.YtadkeohohehmcaaGreatDoor.Top
end
section
/- The sum of bytes. -/
namespace Go.Proofs.YtadkeohohehmcaaGreatDoor.Top
open Go.RowKit Go.Proofs.YtadkeohohehmcaaGreatDoorW.PrintWords Go.Proofs.YtadkeohohehmcaaGreatDoor.PTop
set_option linter.unusedVariables false
set_option linter.unusedSimpArgs false
attribute [local go_sem] Oper.semAt_some

/-- A new variable, in a world of which no more is told. -/
theorem wpList_allocW {ops : Array Oper} {rest : List Oper} {o : Oper} {a : Act} {w : World} {Q : Exit → Act → World → Prop} (hg : o.guard = none) (T : TypeId) (ho : o.op = .alloc T) (z : Array Value) (hz : (Tryz.prog.info? T).map (·.zero) = some (some (.agg z)))
    (h : ∀ W, Below w.heap.size w W → W.heap.size = w.heap.size + 1 → W.heap[w.heap.size]? = some (.cells z T (0, 0)) → wpList Tryz.prog ops Q rest (a.put o.dst (.pointer (some ⟨w.heap.size, 0, none⟩))) W) : wpList Tryz.prog ops Q (o :: rest) a w := by
  refine Go.Great.wpList_runTo hg o.dst rfl (.pointer (some ⟨w.heap.size, 0, none⟩)) (w.alloc (.cells z T)) ?_ (h _ ((Below.refl _ w).alloc (Nat.le_refl _) _) (World.size_alloc w _) (blk_new w _))
  obtain ⟨it, hi, hz⟩ := Option.map_eq_some_iff.1 hz
  simp only [execOp, ho, Instr.alloc, zeroValue, newVar, newRow, typeInfo]
  simp [hi, hz, Value.cells]
def zD : Array Value := ((List.replicate 32 0).map (Value.int .u8)).toArray
theorem zero31 : (Tryz.prog.info? 31).map (·.zero) = some (some (.agg zD)) := by kernel_rfl
def z125 : Array Value := ((List.replicate 72 0).map (Value.int .u8)).toArray
theorem zero125 : (Tryz.prog.info? 125).map (·.zero) = some (some (.agg z125)) := by kernel_rfl
def z124 : Array Value := (hcells (List.replicate 8 0) (List.replicate 64 0) 0).toArray
theorem zero124 : (Tryz.prog.info? 124).map (·.zero) = some (some (.agg z124)) := by kernel_rfl
/-- The table of keys lies so. -/
def HKey (KS : List Int) (w : World) : Prop := ∀ j, j < 64 → w.cell? ⟨0, j, none⟩ = some (.int .u32 KS[j]!)
theorem HKey.pos {KS : List Int} {w : World} (h : HKey KS w) : 0 < w.heap.size := by
  have := h 0 (by decide)
  rcases Nat.eq_zero_or_pos w.heap.size with h | h
  · rw [World.cell?, Array.getElem?_eq_none (by simp [h])] at this
    simp at this
  · exact h
theorem HKey.but {KS : List Int} {w w' : World} {g : Nat} (h : HKey KS w) (hb : But g w w') (hg : g ≠ 0) : HKey KS w' := fun j hj => by
  have := h j hj
  simp only [World.cell?, hb.block 0 (Ne.symm hg) h.pos] at this ⊢
  exact this
theorem HKey.below {KS : List Int} {w w' : World} {B : Nat} (h : HKey KS w) (hb : Below B w w') (hB : 0 < B) : HKey KS w' := fun j hj => by
  have := h j hj
  simp only [World.cell?, hb.block 0 hB] at this ⊢
  exact this
def iv8 : List Int := [1779033703, 3144134277, 1013904242, 2773480762, 1359893119, 2600822924, 528734635, 1541459225]
def newH : HS := ⟨iv8, List.replicate 64 0, 0⟩
theorem newH_ok : newH.ok := ⟨rfl, rfl⟩

set_option maxHeartbeats 1000000 in
set_option maxRecDepth 100000 in
theorem new_c (w : World) : Calls Tryz.prog 41 #[] w fun e w' => e = .returned (.pointer (some ⟨w.heap.size, 0, none⟩)) ∧ w'.heap[w.heap.size]? = some (.cells newH.cells.toArray 124 (0, 0)) ∧ Below w.heap.size w w' := by
  go_enter Tryz.func41, Tryz.ntmps41
  go_wp2_with fail
  go_ret
  refine ⟨rfl, (blk_new w _).trans ?_, (Below.refl _ w).alloc (Nat.le_refl _) _⟩
  rw [show newH.cells.toArray = _ from rfl]
  congr 2
theorem al125 : Tryz.prog.arrayLen 125 = 72 := by kernel_rfl
theorem slice125 (b h : Nat) (hh : h ≤ 72) (w : World) : (Instr.sliceAt 125 (.pointer (some ⟨b, 0, none⟩)) none (some (.int .i64 (h : Int))) none).run Tryz.prog w = .ok (.slice (some ⟨b, 0, none⟩) h 72) w := by
  rw [run_sliceAt_array_h w 125 ⟨b, 0, none⟩ (by kernel_rfl) .i64 (h : Int) (by omega) (by rw [al125]; omega)]
  have hs : (sizeOf (Tryz.prog.elem 125)).run Tryz.prog w = .ok 1 w := by kernel_rfl
  rw [hs, al125]
  simp only [Result.andThen, slicedAt, Int.toNat_natCast]
  rw [if_neg (by omega)]
  simp [Addr.add]
theorem below_setRow {B : Nat} {w W : World} (h : Below B w W) (g : Nat) (hg : B ≤ g) (cs : Array Value) : Below B w (W.setRow g cs) :=
  ⟨h.os, h.tape, h.output, by rw [size_setRow]; exact h.size, fun k hk => (setRow_other W g k cs (by omega)).trans (h.block k hk)⟩
theorem hs_one (s : HS) : s.cells.toArray.all (·.oneCell') = true := by
  rw [Array.all_eq_true_iff_forall_mem]
  intro u hu
  have hu : u ∈ hcells s.ws s.bs (s.n : Int) := by simpa [HS.cells] using hu
  simp only [hcells, List.mem_append, List.mem_map, List.mem_singleton] at hu
  rcases hu with (⟨x, _, rfl⟩ | ⟨x, _, rfl⟩) | rfl <;> rfl
/-- The length's bytes behind a pad. -/
def lenAt (n : Int) (i : Nat) : Int := n * 8 / 2 ^ (56 - 8 * i) % 256
def tailF (n : Int) (pad : Nat) : Nat → List Int
  | 0 => List.replicate 72 0
  | i + 1 => (tailF n pad i).set (pad + i) (lenAt n i)
theorem tailF_len (n : Int) (pad : Nat) : ∀ i, (tailF n pad i).length = 72
  | 0 => by simp [tailF]
  | i + 1 => by rw [tailF, List.length_set]; exact tailF_len n pad i
def digAt (ws : List Int) (i : Nat) : Int := ws[i / 4]! / 2 ^ (24 - 8 * (i % 4)) % 256
def digF (ws : List Int) : Nat → List Int
  | 0 => List.replicate 32 0
  | i + 1 => (digF ws i).set i (digAt ws i)
theorem digF_len (ws : List Int) : ∀ i, (digF ws i).length = 32
  | 0 => by simp [digF]
  | i + 1 => by rw [digF, List.length_set]; exact digF_len ws i
def padF (n : Nat) : Nat := (120 - n % 64) % 64
/-- What is summed. -/
def sumF (KS : List Int) (s : HS) : List Int := digF (writeF KS (writeF KS s [128]) ((tailF (s.n : Int) (padF (s.n + 1)) 8).take (padF (s.n + 1) + 8))).ws 32
theorem info124 : (Tryz.prog.info? 124).map (·.size) = some 73 := by kernel_rfl

set_option maxHeartbeats 2000000 in
set_option maxRecDepth 100000 in
theorem sum_c (KS : List Int) (g : Nat) (s : HS) (w : World) (hs : s.ok) (hg : w.heap[g]? = some (.cells s.cells.toArray 124 (0, 0))) (hk : HKey KS w) (hn : s.n < 2305843009213693952) :
    Calls Tryz.prog 43 #[.pointer (some ⟨g, 0, none⟩)] w fun e w' => e = .returned (.agg ((sumF KS s).map (Value.int .u8)).toArray) ∧ Below w.heap.size w w' := by
  have e42 : ∀ args w, (callFunc 42 args).run Tryz.prog w = .ok (.enter 42 args) w := enters_of Tryz.func42 (by kernel_rfl) rfl
  have hgw : g < w.heap.size := (Array.getElem?_eq_some_iff.1 hg).1
  have hcl : s.cells.toArray.size = 73 := by rw [List.size_toArray]; exact hc_len _ _ _ hs.ws hs.bs
  have hi124 : (Tryz.prog.info? 124).map (·.size) = some s.cells.toArray.size := by rw [hcl]; exact info124
  have HKK := Aside0.mk hk
  have HSK := Aside0.mk hs
  have HG := Aside0.mk hg
  clear hk hs hg
  go_enter Tryz.func43, Tryz.ntmps43
  go_upto_region 1 with (refine wpList_allocW rfl 31 rfl zD zero31 ?_; intro W1 b1 s1 k1)
  go_upto_region 2 with (refine wpList_allocW rfl 31 rfl zD zero31 ?_; intro W2 b2 s2 k2)
  have kg2 := (b2.block g (by omega)).trans ((b1.block g hgw).trans HG.out)
  have r2 := (b2.block w.heap.size (by omega)).trans k1
  have q2 : Below w.heap.size w W2 := b1.trans (b2.mono (by omega))
  rw [s1] at k2 s2
  clear k1 b1 b2
  go_upto_region 4 with (fail)
  go_upto_region 5 with (first | (refine wpList_load_row rfl 124 (.tmp 13) rfl g rfl 124 _ (0, 0) _ kg2 Tryz.underlying124 rfl hi124 ?_) | (refine wpList_allocW rfl 124 rfl z124 zero124 ?_; intro W3 b3 s3 k3) | (refine wpList_store_row rfl 124 (.tmp 4) (.tmp 14) rfl W2.heap.size _ rfl rfl 124 _ k3 hi124 (by rw [hcl]; kernel_rfl) (hs_one s) ?_))
  have kg3 := setRow_heap W3 W2.heap.size _ s.cells.toArray 124 (0, 0) k3
  have r3 := (setRow_other W3 W2.heap.size w.heap.size s.cells.toArray (by omega)).trans ((b3.block w.heap.size (by omega)).trans r2)
  have d3 := (setRow_other W3 W2.heap.size (w.heap.size + 1) s.cells.toArray (by omega)).trans ((b3.block (w.heap.size + 1) (by omega)).trans k2)
  have o3 := (setRow_other W3 W2.heap.size g s.cells.toArray (by omega)).trans ((b3.block g (by omega)).trans kg2)
  have q3 : Below w.heap.size w (W3.setRow W2.heap.size s.cells.toArray) := below_setRow (q2.trans (b3.mono (by omega))) _ (by omega) _
  have s4 : (W3.setRow W2.heap.size s.cells.toArray).heap.size = w.heap.size + 3 := by rw [size_setRow]; omega
  obtain ⟨gl, hgl⟩ : ∃ gl, W2.heap.size = gl := ⟨_, rfl⟩
  rw [hgl] at kg3 r3 d3 o3 q3 s4 ⊢
  have hgl2 : gl = w.heap.size + 2 := by omega
  subst hgl2
  generalize W3.setRow (w.heap.size + 2) s.cells.toArray = W4 at kg3 r3 d3 o3 q3 s4 ⊢
  clear kg2 r2 q2 k2 s2 b3 s3 k3 hgl W2 W3 W1 s1
  have g5 := blk_new W4 (.cells #[.int .u8 128] 5)
  have b5 : Below W4.heap.size W4 (W4.alloc (.cells #[.int .u8 128] 5)) := (Below.refl _ W4).alloc (Nat.le_refl _) _
  have s5 : (W4.alloc (.cells #[.int .u8 128] 5)).heap.size = W4.heap.size + 1 := by simp
  rw [s4] at g5
  have kg5 := blk_alloc kg3 (.cells #[.int .u8 128] 5)
  have r5 := blk_alloc r3 (.cells #[.int .u8 128] 5)
  have d5 := blk_alloc d3 (.cells #[.int .u8 128] 5)
  have o5 := blk_alloc o3 (.cells #[.int .u8 128] 5)
  have q5 : Below w.heap.size w (W4.alloc (.cells #[.int .u8 128] 5)) := q3.alloc (by omega) _
  go_wp2_with fail
  have CW := Aside0.mk (write_c KS (w.heap.size + 2) s (some ⟨w.heap.size + 3, 0, none⟩) 1 [128] (w.heap.size + 3) 0 _ HSK.out kg5 (HKK.out.below q5 HKK.out.pos) (by omega)
    ⟨fun _ => rfl, by decide, fun _ => ⟨by omega, by omega⟩, fun j hj => by
      obtain rfl : j = 0 := by simpa using hj
      simp [World.cell?, g5]⟩ (by simp; omega))
  refine CW.out.mono ?_
  rintro e W6 ⟨rfl, kg6, hb6⟩
  have q6 : Below w.heap.size w W6 := q5.trans (hb6.below (by omega) (by omega))
  have r6 := (hb6.block w.heap.size (by omega) (by omega)).trans r5
  have d6 := (hb6.block (w.heap.size + 1) (by omega) (by omega)).trans d5
  have o6 := (hb6.block g (by omega) (by omega)).trans o5
  have s6 : w.heap.size + 4 ≤ W6.heap.size := by have := hb6.size; omega
  obtain ⟨h1, hh1⟩ : ∃ h1, writeF KS s [128] = h1 := ⟨_, rfl⟩
  rw [hh1] at kg6
  have H1 := Aside0.mk hh1
  have ok1 : h1.ok := by rw [← hh1]; exact writeF_ok KS _ _ _ (Nat.le_refl _) HSK.out
  have N1 : Aside0 (h1.n = s.n + 1) := ⟨by rw [← hh1]; exact writeF_n KS _ _ _ (Nat.le_refl _)⟩
  have n1b : h1.n < 4611686018427387904 := by rw [N1.out]; omega
  clear CW hb6 kg5 r5 d5 o5 q5 g5 b5 s5 kg3 r3 d3 o3 q3 s4 W4 hh1
  go_upto_region 7 with (refine wpList_allocW rfl 125 rfl z125 zero125 ?_; intro W7 b7 s7 k7)
  have kg7 := (b7.block _ (by omega)).trans kg6
  have r7 := (b7.block _ (by omega)).trans r6
  have d7 := (b7.block _ (by omega)).trans d6
  have o7 := (b7.block _ (by omega)).trans o6
  have q7 : Below w.heap.size w W7 := q6.trans (b7.mono (by omega))
  obtain ⟨gt, hgt⟩ : ∃ gt, W6.heap.size = gt := ⟨_, rfl⟩
  rw [hgt] at k7 s7 s6 ⊢
  clear kg6 r6 d6 o6 q6 b7 hgt W6
  have c72 : W7.cell? ⟨w.heap.size + 2, 72, none⟩ = some (.int .i64 (h1.n : Int)) := cell_in kg7 (hc_n _ _ _ ok1.ws ok1.bs)
  have hr1 : (h1.n : Int).tmod 64 = ((h1.n % 64 : Nat) : Int) := by rw [Int.tmod_eq_emod_of_nonneg (by omega)]; omega
  have hr2 : (h1.n : Int) % 64 = ((h1.n % 64 : Nat) : Int) := by omega
  have hr3 : wrap64 (120 - ((h1.n % 64 : Nat) : Int)) = 120 - ((h1.n % 64 : Nat) : Int) := by unfold wrap64; omega
  have hr4 : (120 - ((h1.n % 64 : Nat) : Int)).tmod 64 = ((padF h1.n : Nat) : Int) := by rw [Int.tmod_eq_emod_of_nonneg (by omega)]; unfold padF; omega
  have hr5 : (120 - ((h1.n % 64 : Nat) : Int)) % 64 = ((padF h1.n : Nat) : Int) := by unfold padF; omega
  have hpad : padF h1.n < 64 := by unfold padF; omega
  have PD : Aside0 (padF h1.n = padF (s.n + 1)) := ⟨by rw [N1.out]⟩
  generalize h1.n % 64 = n64 at *
  generalize padF h1.n = pad at *
  clear n1b
  go_upto_region 8 with (fail)
  clear hr1 hr2 hr3 hr4 hr5 c72
  go_wp2_with fail
  go_loopg [22] 8 (fun gg s22 wr => ∃ i : Nat, i ≤ 8 ∧ 8 - i ≤ gg ∧ s22 = .int .i64 i ∧ Aside (But gt W7 wr) ∧ Aside (wr.heap[gt]? = some (.cells ((tailF (s.n : Int) pad i).map (Value.int .u8)).toArray 125 (0, 0))))
  case atStart => exact ⟨0, by omega, by omega, rfl, But.of_below (Below.refl _ _), k7⟩
  case round =>
    obtain ⟨i, hi, hgg, rfl, B, K⟩ := hrel
    by_cases hlt : i < 8
    · have hltz : (i : Int) < 8 := by omega
      have kt := K.out
      have co : wr.cell? ⟨g, 72, none⟩ = some (.int .i64 (s.n : Int)) := cell_in ((B.out.block g (by omega) (by omega)).trans o7) (hc_n _ _ _ HSK.out.ws HSK.out.bs)
      obtain ⟨q, hq⟩ : ∃ q, pad + i = q := ⟨_, rfl⟩
      have hi2 : 0 ≤ (q : Int) ∧ (q : Int) < 72 := by omega
      have ct : wr.cell? ⟨gt, q, none⟩ = some (.int .u8 (tailF (s.n : Int) pad i)[q]!) := by
        refine cell_in kt ?_
        rw [List.getElem?_map, List.getElem?_eq_getElem (by rw [tailF_len]; omega), getElem!_pos _ _ (by rw [tailF_len]; omega)]
        rfl
      have ft : wr.frozen? ⟨gt, q, none⟩ = false := frozen_in kt
      generalize (tailF (s.n : Int) pad i)[q]! = zq at ct
      have HQ := Aside0.mk hq
      have HP := Aside0.mk hpad
      have hi1 : wrap64 ((pad : Int) + (i : Int)) = (q : Int) := by unfold wrap64; omega
      clear hq kt hpad
      have SET : Aside0 ((wr.setCell ⟨gt, q, none⟩ (.int .u8 (lenAt (s.n : Int) i))).heap[gt]? = some (.cells ((tailF (s.n : Int) pad (i + 1)).map (Value.int .u8)).toArray 125 (0, 0))) := ⟨by
        rw [set_list K.out, tailF, List.map_set, HQ.out]⟩
      go_upto_region 12 with (fail)
      go_wp2_with fail
      go_roundg (8 - (i + 1))
      case measure => omega
      case rel => exact ⟨i + 1, by omega, by omega, by go_num, B.out.set _, SET.out⟩
    · have hltz : ¬ (i : Int) < 8 := by omega
      obtain rfl : i = 8 := by omega
      have kt := K.out
      have kl := (B.out.block (w.heap.size + 2) (by omega) (by omega)).trans kg7
      have r8 := (B.out.block w.heap.size (by omega) (by omega)).trans r7
      have d8 := (B.out.block (w.heap.size + 1) (by omega) (by omega)).trans d7
      have q8 : Below w.heap.size w wr := q7.trans (B.out.below (by omega) (by omega))
      have s8 : gt < wr.heap.size := by have := B.out.size; omega
      have hsl := fun w => slice125 gt (pad + 8) (by omega) w
      have hcut : ((tailF (s.n : Int) pad 8).take (pad + 8)).length = pad + 8 := by rw [List.length_take, tailF_len]; omega
      have CW := write_c KS (w.heap.size + 2) h1 (some ⟨gt, 0, none⟩) 72 ((tailF (s.n : Int) pad 8).take (pad + 8)) gt 0 wr ok1 kl (HKK.out.below q8 HKK.out.pos) (by omega)
        ⟨fun _ => rfl, by omega, fun _ => ⟨by omega, s8⟩, fun j hj => by
          rw [hcut] at hj
          refine cell_in kt ?_
          rw [Nat.zero_add, List.getElem?_map, List.getElem?_eq_getElem (by rw [tailF_len]; omega), getElem!_pos _ j (by rw [hcut]; omega), List.getElem_take]
          rfl⟩ (by rw [hcut, N1.out]; omega)
      rw [hcut] at CW
      have HCW := Aside0.mk CW
      have HP := Aside0.mk hpad
      have hw8 : wrap64 ((pad : Int) + 8) = ((pad + 8 : Nat) : Int) := by unfold wrap64; omega
      clear CW hpad hcut kt kl kg7 r7 d7 o7 q7 k7 s7
      obtain ⟨p8, hp8⟩ : ∃ p8, pad + 8 = p8 := ⟨_, rfl⟩
      rw [hp8] at hsl hw8 HCW
      have HP8 := Aside0.mk hp8
      clear hp8
      go_wp2_with fail
      refine HCW.out.mono ?_
      rintro e W9 ⟨rfl, kl9, hb9⟩
      have ok9 : (writeF KS h1 ((tailF (s.n : Int) pad 8).take p8)).ok := writeF_ok KS _ _ _ (Nat.le_refl _) ok1
      have r9 := (hb9.block w.heap.size (by omega) (by omega)).trans r8
      have d9 := (hb9.block (w.heap.size + 1) (by omega) (by omega)).trans d8
      have q9 : Below w.heap.size w W9 := q8.trans (hb9.below (by omega) (by omega))
      have s9 : gt < W9.heap.size := by have := hb9.size; omega
      have FN : Aside0 (sumF KS s = digF (writeF KS h1 ((tailF (s.n : Int) pad 8).take p8)).ws 32) := ⟨by unfold sumF; rw [H1.out, ← PD.out, HP8.out]⟩
      generalize writeF KS h1 ((tailF (s.n : Int) pad 8).take p8) = h9 at *
      have DK := Aside0.mk d9
      clear hb9 HCW r8 d8 q8 s8 hw8 hsl d9 B K
      go_wp2_with fail
      go_loopg [45] 32 (fun gg s45 wr => ∃ i : Nat, i ≤ 32 ∧ 32 - i ≤ gg ∧ s45 = .int .i64 i ∧ Aside (But (w.heap.size + 1) W9 wr) ∧ Aside (wr.heap[w.heap.size + 1]? = some (.cells ((digF h9.ws i).map (Value.int .u8)).toArray 31 (0, 0))))
      case atStart => exact ⟨0, by omega, by omega, rfl, But.of_below (Below.refl _ _), DK.out⟩
      clear DK
      case round =>
        obtain ⟨i, hi, hgg, rfl, B, K⟩ := hrel
        by_cases hlt : i < 32
        · have hltz : (i : Int) < 32 := by omega
          have kl := (B.out.block (w.heap.size + 2) (by omega) (by omega)).trans kl9
          have cw : wr.cell? ⟨w.heap.size + 2, i / 4, none⟩ = some (.int .u32 h9.ws[i / 4]!) := cell_in kl (hc_word _ _ _ (i / 4) (by rw [ok9.ws]; omega))
          have cd : wr.cell? ⟨w.heap.size + 1, i, none⟩ = some (.int .u8 (digF h9.ws i)[i]!) := by
            refine cell_in K.out ?_
            rw [List.getElem?_map, List.getElem?_eq_getElem (by rw [digF_len]; omega), getElem!_pos _ _ (by rw [digF_len]; omega)]
            rfl
          have fd : wr.frozen? ⟨w.heap.size + 1, i, none⟩ = false := frozen_in K.out
          generalize (digF h9.ws i)[i]! = z at cd
          obtain ⟨i4, hi4⟩ : ∃ i4, i / 4 = i4 := ⟨_, rfl⟩
          have hi4b : 0 ≤ (i4 : Int) ∧ (i4 : Int) < 8 := by omega
          have e4 : (i : Int).tdiv 4 = (i4 : Int) := by rw [Int.tdiv_eq_ediv_of_nonneg (by omega)]; omega
          have e4b : (i : Int) / 4 = (i4 : Int) := by omega
          rw [hi4] at cw
          have HI4 := Aside0.mk hi4
          clear kl hi4
          have SET : Aside0 ((wr.setCell ⟨w.heap.size + 1, i, none⟩ (.int .u8 (digAt h9.ws i))).heap[w.heap.size + 1]? = some (.cells ((digF h9.ws (i + 1)).map (Value.int .u8)).toArray 31 (0, 0))) := ⟨by rw [set_list K.out, digF, List.map_set]⟩
          have BS := fun v => B.out.set (i := i) v
          unfold digAt at SET
          rw [HI4.out] at SET
          generalize h9.ws[i4]! = x at cw SET
          go_upto_region 18 with (fail)
          go_wp2_with fail
          go_roundg (32 - (i + 1))
          case measure => omega
          case rel => exact ⟨i + 1, by omega, by omega, by go_num, BS _, SET.out⟩
        · have hltz : ¬ (i : Int) < 32 := by omega
          obtain rfl : i = 32 := by omega
          have kd := K.out
          have kr := (B.out.block w.heap.size (by omega) (by omega)).trans r9
          have qf : Below w.heap.size w wr := q9.trans (B.out.below (by omega) (by omega))
          have hi31 : (Tryz.prog.info? 31).map (·.size) = some ((digF h9.ws 32).map (Value.int .u8)).toArray.size := by rw [List.size_toArray, List.length_map, digF_len]; kernel_rfl
          have hsz : zD.size = ((digF h9.ws 32).map (Value.int .u8)).toArray.size := by
            have : ((digF h9.ws 32).map (Value.int .u8)).toArray.size = 32 := by rw [List.size_toArray, List.length_map, digF_len]
            rw [this]
            rfl
          have h1c : ((digF h9.ws 32).map (Value.int .u8)).toArray.all (·.oneCell') = true := by
            rw [Array.all_eq_true_iff_forall_mem]
            intro u hu
            obtain ⟨x, _, rfl⟩ := List.mem_map.1 (by simpa using hu : u ∈ (digF h9.ws 32).map (Value.int .u8))
            rfl
          have FF : Aside0 ((sumF KS s).map (Value.int .u8) = (digF h9.ws 32).map (Value.int .u8)) := ⟨by rw [FN.out]⟩
          generalize ((digF h9.ws 32).map (Value.int .u8)) = DD at *
          go_wp2_with (first | (refine wpList_load_row rfl 31 (.tmp 3) rfl (w.heap.size + 1) rfl 31 _ (0, 0) _ kd Tryz.underlying31 rfl hi31 ?_) | (refine wpList_store_row rfl 31 (.tmp 2) (.tmp 62) rfl w.heap.size _ rfl rfl 31 _ kr hi31 hsz h1c ?_))
          have hgf := setRow_heap wr w.heap.size _ DD.toArray 31 (0, 0) kr
          refine bodyPost_ret (results_cell_row rfl _ _ w.heap.size 31 _ (0, 0) _ rfl hgf Tryz.underlying31 rfl hi31) rfl ?_
          refine ⟨by rw [FF.out], below_setRow qf _ (Nat.le_refl _) _⟩
/-- The sum of bytes. -/
def shaF (KS b : List Int) : List Int := sumF KS (writeF KS newH b)
end Go.Proofs.YtadkeohohehmcaaGreatDoor.Top
end
section
/- sha.Sum. -/
namespace Go.Proofs.YtadkeohohehmcaaGreatDoor.Top
open Go.RowKit Go.Proofs.YtadkeohohehmcaaGreatDoorW.PrintWords Go.Proofs.YtadkeohohehmcaaGreatDoor.PTop
set_option linter.unusedVariables false
set_option linter.unusedSimpArgs false
attribute [local go_sem] Oper.semAt_some

/-- A digest, as a value. -/
def dv (d : List Int) : Value := .agg (d.map (Value.int .u8)).toArray
theorem dig_one (d : List Int) : (d.map (Value.int .u8)).toArray.all (·.oneCell') = true := by
  rw [Array.all_eq_true_iff_forall_mem]
  intro u hu
  obtain ⟨x, _, rfl⟩ := List.mem_map.1 (by simpa using hu : u ∈ d.map (Value.int .u8))
  rfl
theorem info31 (d : List Int) (h : d.length = 32) : (Tryz.prog.info? 31).map (·.size) = some (d.map (Value.int .u8)).toArray.size := by rw [List.size_toArray, List.length_map, h]; kernel_rfl
theorem zD_size (d : List Int) (h : d.length = 32) : zD.size = (d.map (Value.int .u8)).toArray.size := by
  have : (d.map (Value.int .u8)).toArray.size = 32 := by rw [List.size_toArray, List.length_map, h]
  rw [this]
  rfl
theorem sumF_len (KS : List Int) (s : HS) : (sumF KS s).length = 32 := digF_len _ 32
theorem shaF_len (KS b : List Int) : (shaF KS b).length = 32 := sumF_len KS _
theorem digAt_byte (ws : List Int) (i : Nat) : 0 ≤ digAt ws i ∧ digAt ws i < 256 := by unfold digAt; exact ⟨Int.emod_nonneg _ (by decide), Int.emod_lt_of_pos _ (by decide)⟩
theorem digF_byte (ws : List Int) : ∀ i, ∀ x ∈ digF ws i, 0 ≤ x ∧ x < 256
  | 0, x, hx => by
    rw [digF] at hx
    obtain rfl := List.eq_of_mem_replicate hx
    decide
  | i + 1, x, hx => by
    rw [digF] at hx
    rcases List.mem_or_eq_of_mem_set hx with h | rfl
    · exact digF_byte ws i x h
    · exact digAt_byte ws i
theorem sumF_byte (KS : List Int) (s : HS) (x : Int) (hx : x ∈ sumF KS s) : 0 ≤ x ∧ x < 256 := by
  unfold sumF at hx
  generalize writeF KS (writeF KS s [128]) ((tailF (s.n : Int) (padF (s.n + 1)) 8).take (padF (s.n + 1) + 8)) = h at hx
  exact digF_byte h.ws 32 x hx
theorem shaF_byte (KS b : List Int) (x : Int) (hx : x ∈ shaF KS b) : 0 ≤ x ∧ x < 256 := sumF_byte KS _ x hx

set_option maxHeartbeats 1000000 in
set_option maxRecDepth 100000 in
theorem sha_c (KS : List Int) (A : Option Addr) (c : Nat) (b : List Int) (sb so : Nat) (w : World) (hk : HKey KS w) (hsrc : Src w w.heap.size A c b sb so) (hn : b.length < 1000000000000000) :
    Calls Tryz.prog 22 #[.slice A b.length c] w fun e w' => e = .returned (dv (shaF KS b)) ∧ Below w.heap.size w w' := by
  have e41 : ∀ args w, (callFunc 41 args).run Tryz.prog w = .ok (.enter 41 args) w := enters_of Tryz.func41 (by kernel_rfl) rfl
  have e42 : ∀ args w, (callFunc 42 args).run Tryz.prog w = .ok (.enter 42 args) w := enters_of Tryz.func42 (by kernel_rfl) rfl
  have e43 : ∀ args w, (callFunc 43 args).run Tryz.prog w = .ok (.enter 43 args) w := enters_of Tryz.func43 (by kernel_rfl) rfl
  have HKK := Aside0.mk hk
  have HSR := Aside0.mk hsrc
  have hw0 := hk.pos
  clear hk hsrc
  go_enter Tryz.func22, Tryz.ntmps22
  go_upto_region 1 with (refine wpList_allocW rfl 31 rfl zD zero31 ?_; intro W1 b1 s1 k1)
  go_wp2_with fail
  refine (new_c W1).mono ?_
  rintro e W2 ⟨rfl, kg2, b2⟩
  rw [s1] at kg2 ⊢
  have r2 := (b2.block w.heap.size (by omega)).trans k1
  have q2 : Below w.heap.size w W2 := b1.trans (b2.mono (by omega))
  have hgl : w.heap.size + 1 < W2.heap.size := (Array.getElem?_eq_some_iff.1 kg2).1
  have SR2 : Src W2 (w.heap.size + 1) A c b sb so := by
    have h := HSR.out
    refine ⟨h.A, h.cap, fun h0 => ⟨by have := (h.ne h0).2; omega, by have := (h.ne h0).2; omega⟩, fun j hj => ?_⟩
    have h1 := (h.ne (by omega)).2
    exact (q2.cell (p := ⟨sb, so + j, none⟩) h1).trans (h.cell j hj)
  have CW := Aside0.mk (write_c KS (w.heap.size + 1) newH A c b sb so W2 newH_ok kg2 (HKK.out.below q2 hw0) (by omega) SR2 (by show 0 + b.length < _; omega))
  clear b1 s1 k1 b2 kg2 SR2 HSR W1
  go_wp2_with fail
  refine CW.out.mono ?_
  rintro e W3 ⟨rfl, kg3, hb3⟩
  have r3 := (hb3.block w.heap.size (by omega) (by omega)).trans r2
  have q3 : Below w.heap.size w W3 := q2.trans (hb3.below (by omega) (by omega))
  have ok3 : (writeF KS newH b).ok := writeF_ok KS _ _ _ (Nat.le_refl _) newH_ok
  have n3 : (writeF KS newH b).n < 2305843009213693952 := by rw [writeF_n KS _ _ _ (Nat.le_refl _)]; show 0 + b.length < _; omega
  have CS := Aside0.mk (sum_c KS (w.heap.size + 1) (writeF KS newH b) W3 ok3 kg3 (HKK.out.below q3 hw0) n3)
  have hs3 := hb3.size
  clear CW hb3 r2 q2 kg3 ok3 n3
  go_wp2_with fail
  refine CS.out.mono ?_
  rintro e W4 ⟨rfl, hb4⟩
  have r4 := (hb4.block w.heap.size (by omega)).trans r3
  have q4 : Below w.heap.size w W4 := q3.trans (hb4.mono (by omega))
  have hl : (sumF KS (writeF KS newH b)).length = 32 := sumF_len _ _
  have FN : Aside0 (shaF KS b = sumF KS (writeF KS newH b)) := ⟨rfl⟩
  generalize sumF KS (writeF KS newH b) = d at *
  have hi31 := info31 d hl
  have hz := zD_size d hl
  have h1c := dig_one d
  clear CS hb4 r3 q3
  go_wp2_with (refine wpList_store_row rfl 31 (.tmp 2) (.tmp 9) rfl w.heap.size _ rfl rfl 31 _ r4 hi31 hz h1c ?_)
  have hgf := setRow_heap W4 w.heap.size _ (d.map (Value.int .u8)).toArray 31 (0, 0) r4
  refine bodyPost_ret (results_cell_row rfl _ _ w.heap.size 31 _ (0, 0) _ rfl hgf Tryz.underlying31 rfl hi31) rfl ?_
  exact ⟨by rw [FN.out]; rfl, below_setRow q4 _ (Nat.le_refl _) _⟩
end Go.Proofs.YtadkeohohehmcaaGreatDoor.Top
end
section
/- The sums of a tree's parts. -/
namespace Go.Proofs.YtadkeohohehmcaaGreatDoor.Top
open Go.RowKit Go.Proofs.YtadkeohohehmcaaGreatDoorW.PrintWords Go.Proofs.YtadkeohohehmcaaGreatDoor.PTop
set_option linter.unusedVariables false
set_option linter.unusedSimpArgs false
attribute [local go_sem] Oper.semAt_some

theorem al31 : Tryz.prog.arrayLen 31 = 32 := by kernel_rfl
theorem slice31h (b : Nat) (w : World) : (Instr.sliceAt 31 (.pointer (some ⟨b, 0, none⟩)) none (some (.int .i64 32)) none).run Tryz.prog w = .ok (.slice (some ⟨b, 0, none⟩) 32 32) w := by
  rw [run_sliceAt_array_h w 31 ⟨b, 0, none⟩ (by kernel_rfl) .i64 32 (by omega) (by rw [al31]; omega)]
  have hs : (sizeOf (Tryz.prog.elem 31)).run Tryz.prog w = .ok 1 w := by kernel_rfl
  rw [hs, al31]
  simp [Result.andThen, slicedAt, Addr.add]
theorem slice31 (b : Nat) (w : World) : (Instr.sliceAt 31 (.pointer (some ⟨b, 0, none⟩)) none none none).run Tryz.prog w = .ok (.slice (some ⟨b, 0, none⟩) 32 32) w := by
  rw [run_sliceAt_array_all w 31 ⟨b, 0, none⟩ (by kernel_rfl)]
  have hs : (sizeOf (Tryz.prog.elem 31)).run Tryz.prog w = .ok 1 w := by kernel_rfl
  rw [hs, al31]
  simp [Result.andThen, slicedAt, Addr.add]
theorem width_c (w : World) : Calls Tryz.prog 56 #[.int .i64 32] w fun e w' => e = .returned (.bool true) ∧ Drawn0 w w' := smt_width.calls 32 true w (by decide)

set_option maxHeartbeats 1000000 in
set_option maxRecDepth 100000 in
theorem short_c (d : List Int) (hd : d.length = 32) (w : World) : Calls Tryz.prog 112 #[.int .i64 32, dv d] w fun e w' => e = .returned (dv d) ∧ Below w.heap.size w w' := by
  have e56 : ∀ args w, (callFunc 56 args).run Tryz.prog w = .ok (.enter 56 args) w := enters_of Tryz.func56 (by kernel_rfl) rfl
  have hi31 := info31 d hd
  have hz := zD_size d hd
  have h1c := dig_one d
  have HD := Aside0.mk hd
  unfold dv
  obtain ⟨D, hD⟩ : ∃ D, (d.map (Value.int .u8)).toArray = D := ⟨_, rfl⟩
  have HDD := Aside0.mk hD
  rw [hD] at hi31 hz h1c ⊢
  clear hD hd
  have b1 : Below w.heap.size w (w.alloc (.cells D 31)) := (Below.refl _ w).alloc (Nat.le_refl _) _
  have s1 : (w.alloc (.cells D 31)).heap.size = w.heap.size + 1 := by simp
  have k1 := blk_new w (.cells D 31)
  go_enter Tryz.func112, Tryz.ntmps112
  go_upto_region 1 with (refine wpList_allocW rfl 31 rfl zD zero31 ?_; intro W2 b2 s2 k2)
  go_upto_region 2 with (refine wpList_allocW rfl 31 rfl zD zero31 ?_; intro W3 b3 s3 k3)
  have k1' := (b3.block w.heap.size (by omega)).trans ((b2.block w.heap.size (by omega)).trans k1)
  have k2' := (b3.block _ (by omega)).trans k2
  have q3 : Below w.heap.size w W3 := (b1.trans (b2.mono (by omega))).trans (b3.mono (by omega))
  rw [s2] at k3 s3
  rw [s1] at k2' k3 s3
  have e1 : W2.heap.size = w.heap.size + 2 := by omega
  rw [e1, s1]
  go_wp2_with fail
  refine (width_c W3).mono ?_
  rintro e W4 ⟨rfl, hd4⟩
  have b4 := hd4.below
  have k1 := (b4.block w.heap.size (by omega)).trans k1'
  have k2 := (b4.block (w.heap.size + 1) (by omega)).trans k2'
  have k3 := (b4.block (w.heap.size + 2) (by omega)).trans k3
  have q4 : Below w.heap.size w W4 := q3.trans (b4.mono (by omega))
  have hcp : ∀ W : World, W.heap = W4.heap → (Builtin.copy_ #[57, 57] 3 #[.slice (some ⟨w.heap.size + 2, 0, none⟩) 32 32, .slice (some ⟨w.heap.size, 0, none⟩) 32 32]).run Tryz.prog W = .ok (.int .i64 32) (W.setRow (w.heap.size + 2) D) := fun W hW => by
    have hl : (d.map (Value.int .u8)).length = 32 := by rw [List.length_map]; exact HD.out
    have := run_copy_row (P := Tryz.prog) W 57 57 3 5 (w.heap.size + 2) 0 32 32 ⟨w.heap.size, 0, none⟩ 32 32 zD 31 (d.map (Value.int .u8)) Tryz.underlying57 (by kernel_rfl) (by rw [hW]; exact k3) (by rw [hl]; rfl) (fun j v hj => by
      rw [Addr.add_mid, Nat.zero_add]
      simp only [World.cell?, hW, k1, ← HDD.out]
      simpa using hj) (by rw [hl]; decide) (fun v hv => by
      obtain ⟨x, _, rfl⟩ := List.mem_map.1 hv
      rfl)
    rw [this, hl]
    have e : (List.take 0 zD.toList ++ d.map (Value.int .u8) ++ List.drop (0 + 32) zD.toList).toArray = D := by
      rw [← HDD.out, show List.drop (0 + 32) zD.toList = [] from rfl]
      simp
    rw [e]
    rfl
  have hcp1 := hcp W4 rfl
  have hcp2 := hcp W4.drew rfl
  have hsl := fun w' => slice31h (w.heap.size + 2) w'
  have hsl2 := fun w' => slice31 w.heap.size w'
  clear hcp k1' k2' q3 b4 hd4 b1 k1
  go_upto_region 3 with (fail)
  go_region
  have k5 := setRow_heap W4.drew (w.heap.size + 2) _ D 31 (0, 0) k3
  have r5 := (setRow_other W4.drew (w.heap.size + 2) (w.heap.size + 1) D (by omega)).trans k2
  have q5 : Below w.heap.size w (W4.drew.setRow (w.heap.size + 2) D) := below_setRow q4.drew _ (by omega) _
  generalize W4.drew.setRow (w.heap.size + 2) D = W5 at k5 r5 q5 ⊢
  clear hcp1 hcp2 hsl hsl2 k2 k3 q4
  go_wp2_with (first | (refine wpList_load_row rfl 31 (.tmp 5) rfl (w.heap.size + 2) rfl 31 _ (0, 0) _ k5 Tryz.underlying31 rfl hi31 ?_) | (refine wpList_store_row rfl 31 (.tmp 4) (.tmp 12) rfl (w.heap.size + 1) _ rfl rfl 31 _ r5 hi31 hz h1c ?_))
  have hgf := setRow_heap W5 (w.heap.size + 1) _ D 31 (0, 0) r5
  refine bodyPost_ret (results_cell_row rfl _ _ (w.heap.size + 1) 31 _ (0, 0) _ rfl hgf Tryz.underlying31 rfl hi31) rfl ?_
  exact ⟨rfl, below_setRow q5 _ (by omega) _⟩

/-- The sum of a mark and of digests. -/
def summedF (KS : List Int) (m : Int) (ds : List (List Int)) : List Int := sumF KS (ds.foldl (writeF KS) (writeF KS newH [m]))
theorem summedF_len (KS : List Int) (m : Int) (ds : List (List Int)) : (summedF KS m ds).length = 32 := sumF_len _ _
theorem summedF_byte (KS : List Int) (m : Int) (ds : List (List Int)) (x : Int) (h : x ∈ summedF KS m ds) : 0 ≤ x ∧ x < 256 := sumF_byte KS _ x h
theorem foldW_ok (KS : List Int) : ∀ (ds : List (List Int)) (s : HS), s.ok → (ds.foldl (writeF KS) s).ok
  | [], s, h => h
  | d :: ds, s, h => foldW_ok KS ds _ (writeF_ok KS _ s d (Nat.le_refl _) h)
theorem foldW_n (KS : List Int) : ∀ (ds : List (List Int)) (s : HS), (∀ d ∈ ds, d.length = 32) → (ds.foldl (writeF KS) s).n = s.n + 32 * ds.length
  | [], s, h => by simp
  | d :: ds, s, h => by
    rw [List.foldl_cons, foldW_n KS ds _ (fun x hx => h x (List.mem_cons_of_mem _ hx)), writeF_n KS _ s d (Nat.le_refl _), h d List.mem_cons_self, List.length_cons]
    omega
/-- Digests in a row, as they lie. -/
structure SrcD (w : World) (A : Option Addr) (c : Nat) (ds : List (List Int)) (sb so : Nat) : Prop where
  A : 0 < ds.length → A = some ⟨sb, so, none⟩
  cap : ds.length ≤ c
  lt : 0 < ds.length → sb < w.heap.size
  cell : ∀ j, j < ds.length → w.rangeAt sb (so + j * 32) (ds[j]!.map (Value.int .u8))
  len : ∀ d ∈ ds, d.length = 32
theorem range_but {w w' : World} {g b o : Nat} {l : List Value} (h : w.rangeAt b o l) (hb : But g w w') (hne : b ≠ g) (hlt : b < w.heap.size) : w'.rangeAt b o l := fun i u hi => by
  have := h i u hi
  simp only [World.cell?, hb.block b hne hlt] at this ⊢
  exact this

set_option maxHeartbeats 1000000 in
set_option maxRecDepth 100000 in
theorem summed_c (KS : List Int) (m : Int) (A : Option Addr) (c : Nat) (ds : List (List Int)) (sb so : Nat) (w : World) (hk : HKey KS w) (hsrc : SrcD w A c ds sb so) (hn : ds.length ≤ 1000) :
    Calls Tryz.prog 95 #[.int .i64 32, .int .u8 m, .slice A ds.length c] w fun e w' => e = .returned (dv (summedF KS m ds)) ∧ Below w.heap.size w w' := by
  have e41 : ∀ args w, (callFunc 41 args).run Tryz.prog w = .ok (.enter 41 args) w := enters_of Tryz.func41 (by kernel_rfl) rfl
  have e42 : ∀ args w, (callFunc 42 args).run Tryz.prog w = .ok (.enter 42 args) w := enters_of Tryz.func42 (by kernel_rfl) rfl
  have e43 : ∀ args w, (callFunc 43 args).run Tryz.prog w = .ok (.enter 43 args) w := enters_of Tryz.func43 (by kernel_rfl) rfl
  have e112 : ∀ args w, (callFunc 112 args).run Tryz.prog w = .ok (.enter 112 args) w := enters_of Tryz.func112 (by kernel_rfl) rfl
  have HKK := Aside0.mk hk
  have HSR := Aside0.mk hsrc
  have hw0 := hk.pos
  clear hk hsrc
  go_enter Tryz.func95, Tryz.ntmps95
  go_upto_region 1 with (refine wpList_allocW rfl 31 rfl zD zero31 ?_; intro W1 b1 s1 k1)
  go_wp2_with fail
  refine (new_c W1).mono ?_
  rintro e W2 ⟨rfl, kg2, b2⟩
  rw [s1] at kg2 ⊢
  have r2 := (b2.block w.heap.size (by omega)).trans k1
  have q2 : Below w.heap.size w W2 := b1.trans (b2.mono (by omega))
  have hgl : w.heap.size + 1 < W2.heap.size := (Array.getElem?_eq_some_iff.1 kg2).1
  have b3 : Below W2.heap.size W2 (W2.alloc (.cells #[.int .u8 m] 5)) := (Below.refl _ W2).alloc (Nat.le_refl _) _
  have s3 : (W2.alloc (.cells #[.int .u8 m] 5)).heap.size = W2.heap.size + 1 := by simp
  have k3 := blk_new W2 (.cells #[.int .u8 m] 5)
  have kg3 := blk_alloc kg2 (.cells #[.int .u8 m] 5)
  have r3 := blk_alloc r2 (.cells #[.int .u8 m] 5)
  have q3 : Below w.heap.size w (W2.alloc (.cells #[.int .u8 m] 5)) := q2.trans (b3.mono q2.size)
  have CW := Aside0.mk (write_c KS (w.heap.size + 1) newH (some ⟨W2.heap.size, 0, none⟩) 1 [m] W2.heap.size 0 (W2.alloc (.cells #[.int .u8 m] 5)) newH_ok kg3 (HKK.out.below q3 hw0) (by omega)
    ⟨fun _ => rfl, Nat.le_refl _, fun _ => ⟨by omega, by omega⟩, fun j hj => by
      obtain rfl : j = 0 := by simpa using hj
      exact cell_in k3 rfl⟩ (by show (0:Nat) + 1 < 4611686018427387904; omega))
  clear b1 k1 b2 kg2 r2 q2 b3 k3 kg3
  go_wp2_with fail
  refine CW.out.mono ?_
  rintro e W4 ⟨rfl, kg4, hb4⟩
  have r4 := (hb4.block w.heap.size (by omega) (by omega)).trans r3
  have q4 : Below w.heap.size w W4 := q3.trans (hb4.below (by omega) (by omega))
  have s4 : w.heap.size + 1 < W4.heap.size := by have := hb4.size; omega
  have ok4 : (writeF KS newH [m]).ok := writeF_ok KS _ _ _ (Nat.le_refl _) newH_ok
  have n4 : Aside0 ((writeF KS newH [m]).n = 1) := ⟨writeF_n KS _ _ _ (Nat.le_refl _)⟩
  have FN : Aside0 (summedF KS m ds = sumF KS (ds.foldl (writeF KS) (writeF KS newH [m]))) := ⟨rfl⟩
  have OK4 := Aside0.mk ok4
  clear CW hb4 r3 q3 s3 hgl ok4
  generalize writeF KS newH [m] = h4 at *
  go_wp2_with fail
  go_loopg [17] ds.length (fun gg s17 wr => ∃ k : Nat, k ≤ ds.length ∧ ds.length - k ≤ gg ∧ s17 = .int .i64 k ∧ Aside (But (w.heap.size + 1) W4 wr) ∧ Aside (wr.heap[w.heap.size + 1]? = some (.cells ((ds.take k).foldl (writeF KS) h4).cells.toArray 124 (0, 0))))
  case atStart => exact ⟨0, by omega, by omega, rfl, But.of_below (Below.refl _ _), kg4⟩
  clear kg4
  case round =>
    obtain ⟨k, hk, hgg, rfl, B, K⟩ := hrel
    have qr : Below w.heap.size w wr := q4.trans (B.out.below (by omega) (by omega))
    by_cases hlt : k < ds.length
    · have hltz : (k : Int) < (ds.length : Int) := by omega
      obtain rfl := HSR.out.A (by omega)
      have hsb := HSR.out.lt (by omega)
      have hrg := HSR.out.cell k hlt
      have hrg2 : wr.rangeAt sb (so + k * 32) (ds[k]!.map (Value.int .u8)) := fun i u hi => (qr.cell (p := ⟨sb, so + k * 32 + i, none⟩) hsb).trans (hrg i u hi)
      have hdl : ds[k]!.length = 32 := HSR.out.len _ (by rw [getElem!_pos ds k hlt]; exact List.getElem_mem _)
      have hi31 : (Tryz.prog.info? 31).map (·.size) = some (ds[k]!.map (Value.int .u8)).length := by rw [List.length_map, hdl]; kernel_rfl
      have hi31' := info31 _ hdl
      have hz := zD_size _ hdl
      have h1c := dig_one ds[k]!
      have TK : Aside0 ((ds.take (k + 1)).foldl (writeF KS) h4 = writeF KS ((ds.take k).foldl (writeF KS) h4) ds[k]!) := ⟨by
        rw [List.take_add_one, List.getElem?_eq_getElem hlt, getElem!_pos ds k hlt, List.foldl_append]
        rfl⟩
      have okk : ((ds.take k).foldl (writeF KS) h4).ok := foldW_ok KS _ _ OK4.out
      have nk : ((ds.take k).foldl (writeF KS) h4).n ≤ 1 + 32 * 1000 := by
        rw [foldW_n KS _ _ (fun d hd => HSR.out.len d (List.mem_of_mem_take hd)), n4.out, List.length_take]
        omega
      generalize (ds.take k).foldl (writeF KS) h4 = hk' at *
      generalize ds[k]! = dk at *
      have hws := (Array.getElem?_eq_some_iff.1 K.out).1
      go_upto_region 6 with (first | (refine wpList_load_mid rfl 31 (.tmp 19) rfl sb (so + k * 32) rfl _ _ hrg2 Tryz.underlying31 rfl hi31 ?_) | (refine wpList_allocW rfl 31 rfl zD zero31 ?_; intro W5 b5 s5 k5) | (refine wpList_store_row rfl 31 (.tmp 9) (.tmp 20) rfl wr.heap.size _ rfl rfl 31 _ k5 hi31' hz h1c ?_))
      have k6 := setRow_heap W5 wr.heap.size _ (dk.map (Value.int .u8)).toArray 31 (0, 0) k5
      have kg6 := (setRow_other W5 wr.heap.size (w.heap.size + 1) (dk.map (Value.int .u8)).toArray (by omega)).trans ((b5.block _ hws).trans K.out)
      have b6 : Below wr.heap.size wr (W5.setRow wr.heap.size (dk.map (Value.int .u8)).toArray) := below_setRow b5 _ (Nat.le_refl _) _
      have s6 : (W5.setRow wr.heap.size (dk.map (Value.int .u8)).toArray).heap.size = wr.heap.size + 1 := by rw [size_setRow]; omega
      generalize W5.setRow wr.heap.size (dk.map (Value.int .u8)).toArray = W6 at k6 kg6 b6 s6 ⊢
      have hsl := fun w' => slice31 wr.heap.size w'
      have CW := write_c KS (w.heap.size + 1) hk' (some ⟨wr.heap.size, 0, none⟩) 32 dk wr.heap.size 0 W6 okk kg6 (HKK.out.below (qr.trans (b6.mono qr.size)) hw0) (by omega)
        ⟨fun _ => rfl, by omega, fun _ => ⟨by omega, by omega⟩, fun j hj => by
          refine cell_in k6 ?_
          rw [Nat.zero_add, List.getElem?_map, List.getElem?_eq_getElem hj, getElem!_pos dk j hj]
          rfl⟩ (by omega)
      rw [hdl] at CW
      have HCW := Aside0.mk CW
      clear CW k5 b5 s5 k6 kg6 hrg2 hi31 hi31' hz h1c okk nk hrg
      go_wp2_with fail
      refine HCW.out.mono ?_
      rintro e W7 ⟨rfl, kg7, hb7⟩
      have B7 : But (w.heap.size + 1) W4 W7 := B.out.trans ((But.of_below b6).trans hb7)
      rw [← TK.out] at kg7
      have KG7 := Aside0.mk kg7
      clear kg7 hb7 HCW
      go_wp2_with fail
      go_roundg (ds.length - (k + 1))
      case measure => omega
      case rel => exact ⟨k + 1, by omega, by omega, by go_num, B7, KG7.out⟩
    · have hltz : ¬ (k : Int) < (ds.length : Int) := by omega
      obtain rfl : k = ds.length := by omega
      have kg := K.out
      rw [List.take_length] at kg
      have rr := (B.out.block w.heap.size (by omega) (by omega)).trans r4
      have okf : (ds.foldl (writeF KS) h4).ok := foldW_ok KS _ _ OK4.out
      have nf : (ds.foldl (writeF KS) h4).n < 2305843009213693952 := by
        rw [foldW_n KS _ _ HSR.out.len, n4.out]
        omega
      have CS := Aside0.mk (sum_c KS (w.heap.size + 1) _ wr okf kg (HKK.out.below qr hw0) nf)
      have hl : (sumF KS (ds.foldl (writeF KS) h4)).length = 32 := sumF_len _ _
      generalize sumF KS (ds.foldl (writeF KS) h4) = d at *
      have hws := (Array.getElem?_eq_some_iff.1 kg).1
      clear okf nf kg
      go_wp2_with fail
      refine CS.out.mono ?_
      rintro e W8 ⟨rfl, hb8⟩
      have r8 := (hb8.block w.heap.size (by omega)).trans rr
      have q8 : Below w.heap.size w W8 := qr.trans (hb8.mono qr.size)
      clear hb8 CS
      go_wp2_with fail
      refine (short_c d hl W8).mono ?_
      rintro e W9 ⟨rfl, hb9⟩
      have r9 := (hb9.block w.heap.size (by have := (Array.getElem?_eq_some_iff.1 r8).1; omega)).trans r8
      have q9 : Below w.heap.size w W9 := q8.trans (hb9.mono q8.size)
      clear hb9 r8 q8
      have hi31 := info31 d hl
      have hz := zD_size d hl
      have h1c := dig_one d
      unfold dv
      go_wp2_with (refine wpList_store_row rfl 31 (.tmp 6) (.tmp 28) rfl w.heap.size _ rfl rfl 31 _ r9 hi31 hz h1c ?_)
      have hgf := setRow_heap W9 w.heap.size _ (d.map (Value.int .u8)).toArray 31 (0, 0) r9
      refine bodyPost_ret (results_cell_row rfl _ _ w.heap.size 31 _ (0, 0) _ rfl hgf Tryz.underlying31 rfl hi31) rfl ?_
      exact ⟨by rw [FN.out]; rfl, below_setRow q9 _ (Nat.le_refl _) _⟩
end Go.Proofs.YtadkeohohehmcaaGreatDoor.Top
end
