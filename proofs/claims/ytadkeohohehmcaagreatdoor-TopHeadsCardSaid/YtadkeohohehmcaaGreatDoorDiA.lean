/- Several texts in one. -/
import Derived.Shelf.SlicesE.Clone
import Derived.Shelf.Small.Strs
import Derived.Shelf.Small.Wraps
import Derived.Test.YtadkeohohehmcaaGreatDoorProg
import Derived.Shelf.SlSortCmp.WholeK
import Derived.Test.YtadkeohohehmcaaGreatDoorSmA
section
/- The library functions slices.Clone (five kinds), strings.Compare, cmp.Compare lie as the shelf has them. -/
namespace Go.Proofs
open Go.Shelf
def Tryz.clone73_ren : Go.Shelf.Ren := ⟨fun | 41 => 73 | n => n, fun | 22 => 55 | 23 => 89 | 4 => 4 | n => n, fun | n => n⟩
theorem Tryz.clone73 : Go.Proofs.SlLaysE0.n41 Tryz.prog Tryz.clone73_ren := {
  mixed := by kernel_rfl
  f41 := ⟨Tryz.f73.name, by decide, Tryz.func73.trans (congrArg some (by kernel_rfl))⟩
  t4 := Tryz.underlying4
  a4 := Tryz.isAgg4
  z4 := Tryz.sizeOf4
  v4 := Tryz.zeroValue4
  t22 := Tryz.underlying55
  a22 := Tryz.isAgg55
  z22 := Tryz.sizeOf55
  v22 := Tryz.zeroValue55 }
def Tryz.clone26_ren : Go.Shelf.Ren := ⟨fun | 41 => 26 | n => n, fun | 22 => 24 | 23 => 63 | 4 => 4 | n => n, fun | n => n⟩
theorem Tryz.clone26 : Go.Proofs.SlLaysE0.n41 Tryz.prog Tryz.clone26_ren := {
  mixed := by kernel_rfl
  f41 := ⟨Tryz.f26.name, by decide, Tryz.func26.trans (congrArg some (by kernel_rfl))⟩
  t4 := Tryz.underlying4
  a4 := Tryz.isAgg4
  z4 := Tryz.sizeOf4
  v4 := Tryz.zeroValue4
  t22 := Tryz.underlying24
  a22 := Tryz.isAgg24
  z22 := Tryz.sizeOf24
  v22 := Tryz.zeroValue24 }
def Tryz.clone27_ren : Go.Shelf.Ren := ⟨fun | 41 => 27 | n => n, fun | 22 => 61 | 23 => 68 | 4 => 4 | n => n, fun | n => n⟩
theorem Tryz.clone27 : Go.Proofs.SlLaysE0.n41 Tryz.prog Tryz.clone27_ren := {
  mixed := by kernel_rfl
  f41 := ⟨Tryz.f27.name, by decide, Tryz.func27.trans (congrArg some (by kernel_rfl))⟩
  t4 := Tryz.underlying4
  a4 := Tryz.isAgg4
  z4 := Tryz.sizeOf4
  v4 := Tryz.zeroValue4
  t22 := Tryz.underlying61
  a22 := Tryz.isAgg61
  z22 := Tryz.sizeOf61
  v22 := Tryz.zeroValue61 }
def Tryz.clone28_ren : Go.Shelf.Ren := ⟨fun | 41 => 28 | n => n, fun | 22 => 25 | 23 => 36 | 4 => 4 | n => n, fun | n => n⟩
theorem Tryz.clone28 : Go.Proofs.SlLaysE0.n41 Tryz.prog Tryz.clone28_ren := {
  mixed := by kernel_rfl
  f41 := ⟨Tryz.f28.name, by decide, Tryz.func28.trans (congrArg some (by kernel_rfl))⟩
  t4 := Tryz.underlying4
  a4 := Tryz.isAgg4
  z4 := Tryz.sizeOf4
  v4 := Tryz.zeroValue4
  t22 := Tryz.underlying25
  a22 := Tryz.isAgg25
  z22 := Tryz.sizeOf25
  v22 := Tryz.zeroValue25 }
def Tryz.clone29_ren : Go.Shelf.Ren := ⟨fun | 41 => 29 | n => n, fun | 22 => 26 | 23 => 71 | 4 => 4 | n => n, fun | n => n⟩
theorem Tryz.clone29 : Go.Proofs.SlLaysE0.n41 Tryz.prog Tryz.clone29_ren := {
  mixed := by kernel_rfl
  f41 := ⟨Tryz.f29.name, by decide, Tryz.func29.trans (congrArg some (by kernel_rfl))⟩
  t4 := Tryz.underlying4
  a4 := Tryz.isAgg4
  z4 := Tryz.sizeOf4
  v4 := Tryz.zeroValue4
  t22 := Tryz.underlying26
  a22 := Tryz.isAgg26
  z22 := Tryz.sizeOf26
  v22 := Tryz.zeroValue26 }
def Tryz.lays106_ren : Go.Shelf.Ren := ⟨fun | 106 => 70 | 213 => 89 | 265 => 98 | n => n, fun | 9 => 9 | 3 => 3 | n => n, fun | n => n⟩
theorem Tryz.lays106 : Go.Proofs.Lays.n106 Tryz.prog Tryz.lays106_ren := {
  mixed := by kernel_rfl
  f106 := Tryz.func70.trans (congrArg some (by kernel_rfl))
  f213 := Tryz.func89.trans (congrArg some (by kernel_rfl))
  f265 := Tryz.func98.trans (congrArg some (by kernel_rfl))
  t3 := Tryz.underlying3
  a3 := Tryz.isAgg3
  z3 := Tryz.sizeOf3
  v3 := Tryz.zeroValue3
  t9 := Tryz.underlying9
  a9 := Tryz.isAgg9
  z9 := Tryz.sizeOf9
  v9 := Tryz.zeroValue9 }
def Tryz.lays122_ren : Go.Shelf.Ren := ⟨fun | 122 => 49 | 215 => 66 | n => n, fun | 3 => 3 | 4 => 4 | n => n, fun | n => n⟩
theorem Tryz.lays122 : Go.Proofs.Lays.n122 Tryz.prog Tryz.lays122_ren := {
  mixed := by kernel_rfl
  f122 := Tryz.func49.trans (congrArg some (by kernel_rfl))
  f215 := Tryz.func66.trans (congrArg some (by kernel_rfl))
  t3 := Tryz.underlying3
  a3 := Tryz.isAgg3
  z3 := Tryz.sizeOf3
  v3 := Tryz.zeroValue3
  t4 := Tryz.underlying4
  a4 := Tryz.isAgg4
  z4 := Tryz.sizeOf4
  v4 := Tryz.zeroValue4 }
end Go.Proofs
end
section
/- slices.SortFunc at leaves lies as the shelf has it. -/
namespace Go.Proofs
open Go.Shelf
def Tryz.sortLeaf_ren : Go.Shelf.Ren := ⟨fun | 6 => 74 | 15 => 92 | 14 => 91 | 28 => 108 | 29 => 109 | 20 => 100 | 21 => 101 | 22 => 102 | 23 => 103 | 24 => 104 | 25 => 105 | 26 => 106 | 27 => 107 | 46 => 117 | 47 => 118 | 48 => 119 | 49 => 120 | 50 => 121 | 57 => 126 | n => n, fun | 22 => 55 | 24 => 89 | 25 => 136 | 3 => 3 | 39 => 127 | 0 => 0 | 53 => 120 | 55 => 126 | 4 => 4 | 46 => 175 | 45 => 174 | 50 => 76 | 5 => 5 | 9 => 9 | 66 => 189 | 70 => 193 | 76 => 198 | 77 => 199 | n => n, fun | n => n⟩
theorem Tryz.sortLeaf : Go.Proofs.SlLaysF0.n6 Tryz.prog Tryz.sortLeaf_ren := {
  mixed := by kernel_rfl
  f6 := ⟨Tryz.f74.name, by decide, Tryz.func74.trans (congrArg some (by kernel_rfl))⟩
  f14 := ⟨Tryz.f91.name, by decide, Tryz.func91.trans (congrArg some (by kernel_rfl))⟩
  f15 := Tryz.func92.trans (congrArg some (by kernel_rfl))
  f20 := ⟨Tryz.f100.name, by decide, Tryz.func100.trans (congrArg some (by kernel_rfl))⟩
  f21 := ⟨Tryz.f101.name, by decide, Tryz.func101.trans (congrArg some (by kernel_rfl))⟩
  f22 := ⟨Tryz.f102.name, by decide, Tryz.func102.trans (congrArg some (by kernel_rfl))⟩
  f23 := ⟨Tryz.f103.name, by decide, Tryz.func103.trans (congrArg some (by kernel_rfl))⟩
  f24 := ⟨Tryz.f104.name, by decide, Tryz.func104.trans (congrArg some (by kernel_rfl))⟩
  f25 := ⟨Tryz.f105.name, by decide, Tryz.func105.trans (congrArg some (by kernel_rfl))⟩
  f26 := ⟨Tryz.f106.name, by decide, Tryz.func106.trans (congrArg some (by kernel_rfl))⟩
  f27 := ⟨Tryz.f107.name, by decide, Tryz.func107.trans (congrArg some (by kernel_rfl))⟩
  f28 := Tryz.func108.trans (congrArg some (by kernel_rfl))
  f29 := Tryz.func109.trans (congrArg some (by kernel_rfl))
  f46 := ⟨Tryz.f117.name, by decide, Tryz.func117.trans (congrArg some (by kernel_rfl))⟩
  f47 := Tryz.func118.trans (congrArg some (by kernel_rfl))
  f48 := Tryz.func119.trans (congrArg some (by kernel_rfl))
  f49 := ⟨Tryz.f120.name, by decide, Tryz.func120.trans (congrArg some (by kernel_rfl))⟩
  f50 := ⟨Tryz.f121.name, by decide, Tryz.func121.trans (congrArg some (by kernel_rfl))⟩
  f57 := ⟨Tryz.f126.name, by decide, Tryz.func126.trans (congrArg some (by kernel_rfl))⟩
  t0 := Tryz.underlying0
  a0 := Tryz.isAgg0
  z0 := Tryz.sizeOf0
  v0 := Tryz.zeroValue0
  t3 := Tryz.underlying3
  a3 := Tryz.isAgg3
  z3 := Tryz.sizeOf3
  v3 := Tryz.zeroValue3
  t4 := Tryz.underlying4
  a4 := Tryz.isAgg4
  z4 := Tryz.sizeOf4
  v4 := Tryz.zeroValue4
  t5 := Tryz.underlying5
  a5 := Tryz.isAgg5
  z5 := Tryz.sizeOf5
  v5 := Tryz.zeroValue5
  t9 := Tryz.underlying9
  a9 := Tryz.isAgg9
  z9 := Tryz.sizeOf9
  v9 := Tryz.zeroValue9
  t22 := Tryz.underlying55
  a22 := Tryz.isAgg55
  z22 := Tryz.sizeOf55
  v22 := Tryz.zeroValue55
  t25 := Tryz.underlying136
  a25 := Tryz.isAgg136
  z25 := Tryz.sizeOf136
  v25 := Tryz.zeroValue136
  t39 := Tryz.underlying127
  a39 := Tryz.isAgg127
  z39 := Tryz.sizeOf127
  v39 := Tryz.zeroValue127
  t45 := Tryz.underlying174
  a45 := Tryz.isAgg174
  z45 := Tryz.sizeOf174
  v45 := Tryz.zeroValue174
  t46 := Tryz.underlying175
  a46 := Tryz.isAgg175
  z46 := Tryz.sizeOf175
  v46 := Tryz.zeroValue175
  t50 := Tryz.underlying76
  a50 := Tryz.isAgg76
  z50 := Tryz.sizeOf76
  v50 := Tryz.zeroValue76
  t53 := Tryz.underlying120
  a53 := Tryz.isAgg120
  z53 := Tryz.sizeOf120
  v53 := Tryz.zeroValue120
  t55 := Tryz.underlying126
  a55 := Tryz.isAgg126
  z55 := Tryz.sizeOf126
  v55 := Tryz.zeroValue126
  t66 := Tryz.underlying189
  a66 := Tryz.isAgg189
  z66 := Tryz.sizeOf189
  v66 := Tryz.zeroValue189
  t70 := Tryz.underlying193
  a70 := Tryz.isAgg193
  z70 := Tryz.sizeOf193
  v70 := Tryz.zeroValue193
  t76 := Tryz.underlying198
  a76 := Tryz.isAgg198
  z76 := Tryz.sizeOf198
  v76 := Tryz.zeroValue198
  t77 := Tryz.underlying199
  a77 := Tryz.isAgg199
  z77 := Tryz.sizeOf199
  v77 := Tryz.zeroValue199 }
end Go.Proofs
end
section
/- Copies of rows; frames by the blocks' types. -/
namespace Go.Proofs.YtadkeohohehmcaaGreatDoor.Top
open Go.RowKit Go.Proofs.YtadkeohohehmcaaGreatDoorW.PrintWords Go.Proofs.YtadkeohohehmcaaGreatDoorW.PrintLast Go.Proofs.YtadkeohohehmcaaGreatDoorW.PrintMore Go.Proofs.YtadkeohohehmcaaGreatDoor.PTop
set_option linter.unusedVariables false
set_option linter.unusedSimpArgs false

/-- A copy of a row. -/
def CloneP (t k : Nat) (n : Nat) (xs : List Value) (w : World) (e : Ending) (w' : World) : Prop := ∃ v', e = .returned v' ∧ w'.ownsRow w.heap.size t k v' n xs ∧ Below w.heap.size w w'
/-- What a slice's cells are. -/
def Reads (w : World) (k : Nat) (v : Value) (n : Nat) (xs : List Value) : Prop :=
  xs.length = n * k ∧ ((v = .slice none 0 0 ∧ n = 0) ∨ ∃ b off c, v = .slice (some ⟨b, off, none⟩) n c ∧ n ≤ c ∧ ∀ j u, xs[j]? = some u → w.cell? ⟨b, off + j, none⟩ = some u)
theorem Reads.of_own {w : World} {base t k n : Nat} {v : Value} {xs : List Value} (h : w.ownsRow base t k v n xs) : Reads w k v n xs := by
  refine ⟨h.1, ?_⟩
  rcases h.2 with h2 | ⟨g, cap, cur, rfl, hg, hh, hn, hm, hs, hx⟩
  · exact Or.inl h2
  · refine Or.inr ⟨g, 0, cap, rfl, hn, fun j u hj => ?_⟩
    have := h.cells (g := g) rfl j u hj
    rwa [Addr.add_lit] at this
theorem clone_any {ρ : Go.Shelf.Ren} (L : SlLaysE0.n41 Tryz.prog ρ) (i0 : TypeInfo) (z : Value) (size bytes : Nat) (hi : Tryz.prog.info? (ρ.t 23) = some i0) (hz0 : i0.zero = some z) (hz1 : i0.size = size) (hz2 : i0.bytes = bytes) (hzs : z.cells.size = size) (hsz : 0 < size)
    (z23 : ∀ w, (Go.sizeOf (ρ.t 23)).run Tryz.prog w = .ok size w) (hby : bytes ≤ 200) (v : Value) (n : Nat) (xs : List Value) (w : World) (hr : Reads w size v n xs) (hn : n ≤ 1000000) (h1 : ∀ u ∈ xs, u.oneCell' = true) :
    Calls Tryz.prog (ρ.f 41) #[v] w fun e w' => CloneP (ρ.t 23) size n xs w e w' := by
  rcases hr with ⟨hl, ⟨rfl, rfl⟩ | ⟨b, off, c, rfl, hc, hx⟩⟩
  · refine (AnyE.slices_Clone_nil L 0 0 w).mono ?_
    rintro e w' ⟨rfl, hw⟩
    replace hw := hw.symm
    subst hw
    have : xs = [] := List.length_eq_zero_iff.1 (by simpa using hl)
    subst this
    exact ⟨_, rfl, World.ownsRow_nil _ _ _ _, Below.refl _ _⟩
  · refine (AnyE.slices_Clone L i0 z size bytes hi hz0 hz1 hz2 hzs hsz z23 b off n c xs w hl (by simp only [maxLen]; omega) (Nat.le_trans (Nat.mul_le_mul hn hby) (by decide)) hx h1).mono ?_
    rintro e w' ⟨v', rfl, ho, hne, hb⟩
    exact ⟨v', rfl, ho, hb⟩
theorem info_of {t : Nat} {z : Value} {size bytes : Nat} (h : (Tryz.prog.info? t).map (fun i => (i.zero, i.size, i.bytes)) = some (some z, size, bytes)) : ∃ i, Tryz.prog.info? t = some i ∧ i.zero = some z ∧ i.size = size ∧ i.bytes = bytes := by
  obtain ⟨i, hi, h2⟩ := Option.map_eq_some_iff.1 h
  injection h2 with h3 h4
  injection h4 with h4 h5
  exact ⟨i, hi, h3, h4, h5⟩
theorem size68 (w : World) : (Go.sizeOf 68).run Tryz.prog w = .ok 3 w := Tryz.sizeOf68 w
theorem clone_ver (v : Value) (n : Nat) (xs : List Value) (w : World) (hr : Reads w 3 v n xs) (hn : n ≤ 1000000) (h1 : ∀ u ∈ xs, u.oneCell' = true) : Calls Tryz.prog 27 #[v] w fun e w' => CloneP 68 3 n xs w e w' := by
  obtain ⟨i, a, b, c, d⟩ := info_of info68
  exact clone_any Tryz.clone27 i _ 3 32 a b c d rfl (by decide) Tryz.sizeOf68 (by decide) v n xs w hr hn h1
/-- Touched: new blocks, and blocks from n0 on whose elements are of these types. -/
structure Tt (n0 : Nat) (ts : List Nat) (w w' : World) : Prop where
  os : w'.os = w.os
  tape : w'.tape = w.tape
  output : w'.output = w.output
  size : w.heap.size ≤ w'.heap.size
  block : ∀ k, k < w.heap.size → w'.heap[k]? = w.heap[k]? ∨ (n0 ≤ k ∧ ∃ t cur cur', t ∈ ts ∧ w.heap[k]? = some (.cells cur t (0, 0)) ∧ w'.heap[k]? = some (.cells cur' t (0, 0)))
end Go.Proofs.YtadkeohohehmcaaGreatDoor.Top
end
section
/- How a directory lies. -/
namespace Go.Proofs.YtadkeohohehmcaaGreatDoor.Top
open Go.RowKit Go.Proofs.YtadkeohohehmcaaGreatDoorW.PrintWords Go.Proofs.YtadkeohohehmcaaGreatDoorW.PrintLast Go.Proofs.YtadkeohohehmcaaGreatDoorW.PrintMore Go.Proofs.YtadkeohohehmcaaGreatDoor.PTop
set_option linter.unusedVariables false
set_option linter.unusedSimpArgs false
theorem info63 : (Tryz.prog.info? 63).map (fun i => (i.zero, i.size, i.bytes)) = some (some (.agg #[.string ⟨#[]⟩, .slice none 0 0]), 2, 40) := by kernel_rfl
theorem info71 : (Tryz.prog.info? 71).map (fun i => (i.zero, i.size, i.bytes)) = some (some (.agg #[.int .i64 0, .int .i64 0, .int .i64 0, .int .i64 0]), 4, 32) := by kernel_rfl
def z36 : List Value := .int .i64 0 :: List.replicate 64 (.int .u8 0)
theorem info36 : (Tryz.prog.info? 36).map (fun i => (i.zero, i.size, i.bytes)) = some (some (.agg z36.toArray), 65, 72) := by kernel_rfl
def zLfc : List Value := List.replicate 64 (.int .u8 0)
theorem infoLf : (Tryz.prog.info? 89).map (fun i => (i.zero, i.size, i.bytes)) = some (some (.agg zLfc.toArray), 64, 64) := by kernel_rfl
theorem clone_usr (v : Value) (n : Nat) (xs : List Value) (w : World) (hr : Reads w 2 v n xs) (hn : n ≤ 1000000) (h1 : ∀ u ∈ xs, u.oneCell' = true) : Calls Tryz.prog 26 #[v] w fun e w' => CloneP 63 2 n xs w e w' := by
  obtain ⟨i, a, b, c, d⟩ := info_of info63
  exact clone_any Tryz.clone26 i _ 2 40 a b c d rfl (by decide) Tryz.sizeOf63 (by decide) v n xs w hr hn h1
theorem clone_head (v : Value) (n : Nat) (xs : List Value) (w : World) (hr : Reads w 65 v n xs) (hn : n ≤ 1000000) (h1 : ∀ u ∈ xs, u.oneCell' = true) : Calls Tryz.prog 28 #[v] w fun e w' => CloneP 36 65 n xs w e w' := by
  obtain ⟨i, a, b, c, d⟩ := info_of info36
  exact clone_any Tryz.clone28 i _ 65 72 a b c d rfl (by decide) Tryz.sizeOf36 (by decide) v n xs w hr hn h1
theorem clone_ses (v : Value) (n : Nat) (xs : List Value) (w : World) (hr : Reads w 4 v n xs) (hn : n ≤ 1000000) (h1 : ∀ u ∈ xs, u.oneCell' = true) : Calls Tryz.prog 29 #[v] w fun e w' => CloneP 71 4 n xs w e w' := by
  obtain ⟨i, a, b, c, d⟩ := info_of info71
  exact clone_any Tryz.clone29 i _ 4 32 a b c d rfl (by decide) Tryz.sizeOf71 (by decide) v n xs w hr hn h1
theorem clone_leaf (v : Value) (n : Nat) (xs : List Value) (w : World) (hr : Reads w 64 v n xs) (hn : n ≤ 1000000) (h1 : ∀ u ∈ xs, u.oneCell' = true) : Calls Tryz.prog 73 #[v] w fun e w' => CloneP 89 64 n xs w e w' := by
  obtain ⟨i, a, b, c, d⟩ := info_of infoLf
  exact clone_any Tryz.clone73 i _ 64 64 a b c d rfl (by decide) Tryz.sizeOf89 (by decide) v n xs w hr hn h1

/-- A version's cells. -/
def vcells (x : S68) : List Value := [.int .i64 x.f0, .int .i64 x.f1, .string x.f2]
def vsC : List S68 → List Value
  | [] => []
  | x :: r => vcells x ++ vsC r
theorem vsC_len : ∀ vs : List S68, (vsC vs).length = vs.length * 3
  | [] => rfl
  | x :: r => by rw [vsC, List.length_append, vsC_len r, List.length_cons]; simp [vcells]; omega
theorem vsC_append : ∀ a b : List S68, vsC (a ++ b) = vsC a ++ vsC b
  | [], b => rfl
  | x :: r, b => by rw [List.cons_append, vsC, vsC, vsC_append r b, List.append_assoc]
theorem vsC_one : ∀ vs : List S68, ∀ u ∈ vsC vs, u.oneCell' = true
  | [], u, h => by cases h
  | x :: r, u, h => by
    rw [vsC, List.mem_append] at h
    rcases h with h | h
    · simp [vcells] at h
      rcases h with rfl | rfl | rfl <;> rfl
    · exact vsC_one r u h
theorem vsC_take : ∀ (vs : List S68) (m : Nat), (vsC vs).take (m * 3) = vsC (vs.take m)
  | [], m => by simp [vsC]
  | x :: r, 0 => by simp [vsC]
  | x :: r, m + 1 => by
    have e : (m + 1) * 3 = (vcells x).length + m * 3 := by simp [vcells]; omega
    rw [vsC, List.take_succ_cons, vsC, e, List.take_length_add_append, vsC_take r m]
theorem vsC_at : ∀ (vs : List S68) (i : Nat) (x : S68), vs[i]? = some x → (vsC vs)[i * 3]? = some (.int .i64 x.f0) ∧ (vsC vs)[i * 3 + 1]? = some (.int .i64 x.f1) ∧ (vsC vs)[i * 3 + 2]? = some (.string x.f2)
  | [], i, x, h => by simp at h
  | y :: r, 0, x, h => by
    obtain rfl : y = x := by simpa using h
    exact ⟨rfl, rfl, rfl⟩
  | y :: r, i + 1, x, h => by
    have := vsC_at r i x (by simpa using h)
    rw [vsC]
    have l : (vcells y).length = 3 := rfl
    rw [show (i + 1) * 3 = (vcells y).length + i * 3 by omega, show (vcells y).length + i * 3 + 1 = (vcells y).length + (i * 3 + 1) by omega, show (vcells y).length + i * 3 + 2 = (vcells y).length + (i * 3 + 2) by omega]
    rw [List.getElem?_append_right (by omega), List.getElem?_append_right (by omega), List.getElem?_append_right (by omega)]
    simpa using this
/-- Versions as they lie. -/
def Vs (w : World) (v : Value) (vs : List S68) : Prop := Reads w 3 v vs.length (vsC vs)
structure Usr where
  name : ByteArray
  vs : List S68
structure Hd where
  e : Int
  root : List Int
  prev : List Int
structure Ses where
  c : Int
  s : Int
  code : Int
  e : Int
structure Dir where
  e : Int
  us : List Usr
  hs : List Hd
  ss : List Ses
def hdcells (h : Hd) : List Value := .int .i64 h.e :: (h.root ++ h.prev).map (Value.int .u8)
def scells (s : Ses) : List Value := [.int .i64 s.c, .int .i64 s.s, .int .i64 s.code, .int .i64 s.e]
def hsC : List Hd → List Value
  | [] => []
  | x :: r => hdcells x ++ hsC r
def ssC : List Ses → List Value
  | [] => []
  | x :: r => scells x ++ ssC r
/-- A user's cells: the name, its versions' row (from base on). -/
def UsC (w : World) (base : Nat) : List Usr → List Value → Prop
  | [], cs => cs = []
  | u :: us, cs => ∃ v r, cs = .string u.name :: v :: r ∧ w.ownsRow base 68 3 v u.vs.length (vsC u.vs) ∧ UsC w base us r
/-- A directory's four cells, in rows from base on. -/
def DirC (w : World) (base : Nat) (d : Dir) (x1 x2 x3 : Value) : Prop :=
  (∃ uc, w.ownsRow base 63 2 x1 d.us.length uc ∧ UsC w base d.us uc) ∧ w.ownsRow base 36 65 x2 d.hs.length (hsC d.hs) ∧ w.ownsRow base 71 4 x3 d.ss.length (ssC d.ss)
end Go.Proofs.YtadkeohohehmcaaGreatDoor.Top
end
