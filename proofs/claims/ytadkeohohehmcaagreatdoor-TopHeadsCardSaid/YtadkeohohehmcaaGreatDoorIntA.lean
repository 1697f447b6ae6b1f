/- An intent; what it makes of a directory. -/
import Derived.Test.YtadkeohohehmcaaGreatDoorAdA
namespace Go.Proofs.YtadkeohohehmcaaGreatDoor.Top
open Go.RowKit Go.Proofs.YtadkeohohehmcaaGreatDoorW.PrintWords Go.Proofs.YtadkeohohehmcaaGreatDoorW.PrintLast Go.Proofs.YtadkeohohehmcaaGreatDoorW.PrintMore Go.Proofs.YtadkeohohehmcaaGreatDoor.PTop
set_option linter.unusedVariables false
set_option linter.unusedSimpArgs false
theorem U.dig_byte (KS : List Int) : ∀ (t : U) (x : Int), x ∈ t.dig KS → 0 ≤ x ∧ x < 256
  | .nil, x, h => by rw [U.dig, emptyF] at h; exact summedF_byte KS 2 [] x h
  | .leaf p v, x, h => by rw [U.dig, leafF] at h; exact summedF_byte KS 0 [p, v] x h
  | .node l r, x, h => by rw [U.dig, nodeF] at h; exact summedF_byte KS 1 [l.dig KS, r.dig KS] x h
theorem zero_byte (x : Int) (h : x ∈ List.replicate 32 (0 : Int)) : 0 ≤ x ∧ x < 256 := by
  have := List.eq_of_mem_replicate h
  omega
theorem rootE_ok (KS : List Int) (ep : Int) (us : List Usr) : PathOk (rootE KS ep us) := by
  refine ⟨rootE_len KS ep us, fun x hx => ?_⟩
  unfold rootE rootF at hx
  split at hx
  · exact zero_byte x hx
  · split at hx
    · exact zero_byte x hx
    · exact U.dig_byte KS _ x hx
theorem hsC_append : ∀ a b : List Hd, hsC (a ++ b) = hsC a ++ hsC b
  | [], b => rfl
  | x :: r, b => by rw [List.cons_append, hsC, hsC, hsC_append r b, List.append_assoc]
def hdAt : Nat → Option (Nat × Nat) := fun i => (#[(0, 1), (1, 32), (33, 32)] : Array (Nat × Nat))[i]?
set_option maxRecDepth 1000000 in
theorem places36 : (match Tryz.prog.underlying 36 with | some (.struct fields) => fields.toList.mapM (fun f => (Tryz.prog.info? f.type).map fun i => (f.offset, i.size)) | _ => none) = some [(0, 1), (1, 32), (33, 32)] := by kernel_rfl
set_option maxRecDepth 1000000 in
theorem built36 (ps : List (Nat × Value)) : Tryz.prog.built 36 ps = Instr.fill hdAt z36.toArray ps := by
  have h := places36
  rw [Tryz.underlying36] at h
  have := built_eq zero36 Tryz.underlying36 h ps
  rw [this]
  rfl
theorem built_hd (e : Int) (p v : List Int) (hp : p.length = 32) (hv : v.length = 32) : Tryz.prog.built 36 [(0, .int .i64 e), (1, .agg (u8s p).toArray), (2, .agg (u8s v).toArray)] = some (hdcells ⟨e, p, v⟩).toArray := by
  have hz : z36.length = 65 := rfl
  have h0 : (Value.int .i64 e).cells = #[.int .i64 e] := rfl
  rw [built36, fill_one hdAt _ 0 0 1 _ _ rfl rfl (by rw [List.size_toArray, hz]; decide),
    fill_one hdAt _ 1 1 32 _ _ rfl (by simp [Value.cells, hp]) (by simp [h0, hz]),
    fill_one hdAt _ 2 33 32 _ [] rfl (by simp [Value.cells, hv]) (by simp [Value.cells, hp, hz]), Instr.fill]
  congr 1
  unfold hdcells
  simp [Value.cells, hp, hv, hz, h0, List.take_append, List.drop_append]
theorem fill36 (cs : List Value) (h : cs.length = 65) : Instr.fill (fun i => some (i * 65, 65)) ((Array.range (1 * 65)).map (fun t => (Value.agg z36.toArray).cells[t % (Value.agg z36.toArray).cells.size]!)) [(0, .agg cs.toArray)] = some cs.toArray := by
  rw [fill_one _ _ 0 0 65 _ [] rfl (by simp [Value.cells, h]) (by simp), Instr.fill]
  congr 1
  simp [Value.cells, h]
theorem yieldsIf_build2 {ops : Array Oper} {S : World → Prop} {o : Oper} {a : Act} (hw : Region.wanted o (yielded ops a.tmps) = true) (t : TypeId) (parts : Array (Nat × Operand)) (ho : o.op = .build t parts)
    (ps : List (Nat × Value)) (hps : (parts.map fun (i, x) => (i, a.eval x)).toList = ps) (cs : Array Value) (hb : Tryz.prog.built t ps = some cs) : YieldsIf Tryz.prog ops S o (.agg cs) a :=
  .inl ⟨hw, fun w _ => by
    unfold execOp
    simp only [ho, Sem.run_bind, run_build w t _ cs (by rw [hps, hb]), Result.andThen_ok, Sem.run_pure]⟩
theorem ccells_root (c : Cmd) (j : Nat) (v : Value) (h : (u8s c.root)[j]? = some v) : (ccells c)[6 + j]? = some v := by
  unfold ccells
  rw [List.getElem?_append_right (by simp)]
  simpa using h
def intCode (KS : List Int) (d : Dir) (c : Cmd) : Int := if c.e ≠ (d.hs.length : Int) + 1 then 73 else if c.e > d.e then 73 else if c.root ≠ rootE KS c.e d.us then 73 else 0
def intD (KS : List Int) (d : Dir) (c : Cmd) : Dir := ⟨d.e, d.us, d.hs ++ [⟨c.e, c.root, prevF KS d.hs⟩], d.ss⟩
structure IntOk (d : Dir) (c : Cmd) : Prop where
  us : ∀ u ∈ d.us, UsOk u
  ul : d.us.length ≤ 1000
  hs : ∀ h ∈ d.hs, HdOk h
  hl : d.hs.length ≤ 200
  root : PathOk c.root
structure IntPost (KS : List Int) (d : Dir) (c : Cmd) (n0 wb : Nat) (w : World) (e : Ending) (w' : World) : Prop where
  ans : e = .returned (.int .i64 (intCode KS d c))
  wk : intCode KS d c = 0 → Wk w' wb n0 (intD KS d c)
  below : Below n0 w w'
end Go.Proofs.YtadkeohohehmcaaGreatDoor.Top
