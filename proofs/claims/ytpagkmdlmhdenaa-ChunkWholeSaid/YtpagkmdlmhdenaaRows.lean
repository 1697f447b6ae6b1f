/-
  No cell of these rows narrows 'for every input' (looked for: loops, veiled, ifaces, maps, wideKeys, modest, calm, conditions, laid).
  DERIVED. THE GIVEN ROWS OF THIS SEAT. 5 by the template 'for every input the law returns true; each argument reads behind the call as it read before'; 0 by the template 'total and deterministic' (their statements: YtpagkmdlmhdenaaTotals.lean).
  GIVEN WITH THE SEED: the statements are not yours to turn. If you find one false, say at which input.
  Laid BY PROGRAM, IN A SANDBOX (cutbox-rows.mjs): the forced cells as the released guide's own fill.sh prints them over the translation b6c2ecdcdb0e3d34… (all of the seat's roots in one cut). By AI agents, Wed Nov 11 2026. No macro, syntax, notation, axiom, sorry.
-/
import Derived.Test.YtpagkmdlmhdenaaChecked
import GoSem.Claim
import GoSem.ClaimJoined
import GoSem.ClaimMapViews
import Derived.JoinedTies
import Derived.KernelRfl
namespace Go.Proofs.Ytpagkmdlmhdenaa
/- THE CELL 'sum', in the pinned program and in every row, IS THE sha256 OF THE DUMP (.gsa) THAT YtpagkmdlmhdenaaProg.lean LOADS. Nothing in Lean hashes anything: it is a label: what it is worth is what the hold of that sum in a sandbox is worth. -/
noncomputable def Try.pinned : Pinned := { name := "ytpagkmdlmhdenaa", sum := "b6c2ecdcdb0e3d341c01996e5f2ef7dfe606347a7c7d7d143ea2062f8377c42f", checked := Try.checked }
namespace Rows
def none {H : Type} : Left H := { results := [], args := [] }

/-- 'tabellionlaw16.ChunkCuts': WHATEVER THE INPUT: true; the input reads as it did. -/
def chunkCutsSpec : ChangeSpec := { name := "chunkCuts", fn := fun _ => fun
  | [d1, d2] => { results := [.lit (.bool true)], args := [d1, d2] }
  | _ => none }
def chunkCutsRow : OpenClaim := { program := "ytpagkmdlmhdenaa", sum := "b6c2ecdcdb0e3d341c01996e5f2ef7dfe606347a7c7d7d143ea2062f8377c42f", func := "tabellion/tabellionlaw16.ChunkCuts", spec := "chunkCuts", apart := false }
def ChunkCutsSaid : Prop := chunkCutsRow.holds Try.pinned (OpenSpec.ofChange chunkCutsSpec)

/-- ITS FALSE NEIGHBOUR: 'it returns false'. Refute it at one input. -/
def chunkCutsWrong : ChangeSpec := { name := "chunkCuts", fn := fun _ => fun
  | [d1, d2] => { results := [.lit (.bool false)], args := [d1, d2] }
  | _ => none }
def ChunkCutsWrongFalsely : Prop := chunkCutsRow.holds Try.pinned (OpenSpec.ofChange chunkCutsWrong)

/-- 'tabellionlaw16.ChunkBegins': WHATEVER THE INPUT: true; the input reads as it did. -/
def chunkBeginsSpec : ChangeSpec := { name := "chunkBegins", fn := fun _ => fun
  | [d1, d2, d3, d4] => { results := [.lit (.bool true)], args := [d1, d2, d3, d4] }
  | _ => none }
def chunkBeginsRow : OpenClaim := { program := "ytpagkmdlmhdenaa", sum := "b6c2ecdcdb0e3d341c01996e5f2ef7dfe606347a7c7d7d143ea2062f8377c42f", func := "tabellion/tabellionlaw16.ChunkBegins", spec := "chunkBegins", apart := false }
def ChunkBeginsSaid : Prop := chunkBeginsRow.holds Try.pinned (OpenSpec.ofChange chunkBeginsSpec)

/-- ITS FALSE NEIGHBOUR: 'it returns false'. Refute it at one input. -/
def chunkBeginsWrong : ChangeSpec := { name := "chunkBegins", fn := fun _ => fun
  | [d1, d2, d3, d4] => { results := [.lit (.bool false)], args := [d1, d2, d3, d4] }
  | _ => none }
def ChunkBeginsWrongFalsely : Prop := chunkBeginsRow.holds Try.pinned (OpenSpec.ofChange chunkBeginsWrong)

/-- 'tabellionlaw16.ChunkTakes': WHATEVER THE INPUT: true; the input reads as it did. -/
def chunkTakesSpec : ChangeSpec := { name := "chunkTakes", fn := fun _ => fun
  | [d1, d2, d3] => { results := [.lit (.bool true)], args := [d1, d2, d3] }
  | _ => none }
def chunkTakesRow : OpenClaim := { program := "ytpagkmdlmhdenaa", sum := "b6c2ecdcdb0e3d341c01996e5f2ef7dfe606347a7c7d7d143ea2062f8377c42f", func := "tabellion/tabellionlaw16.ChunkTakes", spec := "chunkTakes", apart := false }
def ChunkTakesSaid : Prop := chunkTakesRow.holds Try.pinned (OpenSpec.ofChange chunkTakesSpec)

/-- ITS FALSE NEIGHBOUR: 'it returns false'. Refute it at one input. -/
def chunkTakesWrong : ChangeSpec := { name := "chunkTakes", fn := fun _ => fun
  | [d1, d2, d3] => { results := [.lit (.bool false)], args := [d1, d2, d3] }
  | _ => none }
def ChunkTakesWrongFalsely : Prop := chunkTakesRow.holds Try.pinned (OpenSpec.ofChange chunkTakesWrong)

/-- 'tabellionlaw16.ChunkTwice': WHATEVER THE INPUT: true; the input reads as it did. -/
def chunkTwiceSpec : ChangeSpec := { name := "chunkTwice", fn := fun _ => fun
  | [d1, d2, d3] => { results := [.lit (.bool true)], args := [d1, d2, d3] }
  | _ => none }
def chunkTwiceRow : OpenClaim := { program := "ytpagkmdlmhdenaa", sum := "b6c2ecdcdb0e3d341c01996e5f2ef7dfe606347a7c7d7d143ea2062f8377c42f", func := "tabellion/tabellionlaw16.ChunkTwice", spec := "chunkTwice", apart := false }
def ChunkTwiceSaid : Prop := chunkTwiceRow.holds Try.pinned (OpenSpec.ofChange chunkTwiceSpec)

/-- ITS FALSE NEIGHBOUR: 'it returns false'. Refute it at one input. -/
def chunkTwiceWrong : ChangeSpec := { name := "chunkTwice", fn := fun _ => fun
  | [d1, d2, d3] => { results := [.lit (.bool false)], args := [d1, d2, d3] }
  | _ => none }
def ChunkTwiceWrongFalsely : Prop := chunkTwiceRow.holds Try.pinned (OpenSpec.ofChange chunkTwiceWrong)

/-- 'tabellionlaw16.ChunkWhole': WHATEVER THE INPUT: true; the input reads as it did. -/
def chunkWholeSpec : ChangeSpec := { name := "chunkWhole", fn := fun _ => fun
  | [d1, d2, d3, d4, d5] => { results := [.lit (.bool true)], args := [d1, d2, d3, d4, d5] }
  | _ => none }
def chunkWholeRow : OpenClaim := { program := "ytpagkmdlmhdenaa", sum := "b6c2ecdcdb0e3d341c01996e5f2ef7dfe606347a7c7d7d143ea2062f8377c42f", func := "tabellion/tabellionlaw16.ChunkWhole", spec := "chunkWhole", apart := false }
def ChunkWholeSaid : Prop := chunkWholeRow.holds Try.pinned (OpenSpec.ofChange chunkWholeSpec)

/-- ITS FALSE NEIGHBOUR: 'it returns false'. Refute it at one input. -/
def chunkWholeWrong : ChangeSpec := { name := "chunkWhole", fn := fun _ => fun
  | [d1, d2, d3, d4, d5] => { results := [.lit (.bool false)], args := [d1, d2, d3, d4, d5] }
  | _ => none }
def ChunkWholeWrongFalsely : Prop := chunkWholeRow.holds Try.pinned (OpenSpec.ofChange chunkWholeWrong)

/- THE SECOND FORM. 'bulk': how many values and letters a reading holds, each counted each time it is reached (what is shared counts as often as it is met; a slice's spare places count too). A statement '..UptoSaid' is the law's where the arguments, and the package variables that the reading takes, are together of bulk at most 1048576: NARROWER than '..Said'. Prove '..Said' where nothing that the law and all that it calls make is longer than what came in: it says more and counts as full. Else prove '..UptoSaid'. A law counts once. -/
mutual
def uptoBulk {H : Type} : DataW H → Nat
  | .lit (.string bytes) => bytes.length + 1
  | .lit _ => 1
  | .nil => 1
  | .ptr d => uptoBulk d + 1
  | .slice elems spare => uptoBulkAll elems + uptoBulkAll spare + 1
  | .agg parts => uptoBulkAll parts + 1
  | .iface _ d => uptoBulk d + 1
  | .map entries => uptoBulkEntries entries + 1
  | .held _ => 1
def uptoBulkAll {H : Type} : List (DataW H) → Nat
  | [] => 0
  | d :: r => uptoBulk d + uptoBulkAll r
def uptoBulkEntries {H : Type} : List (Lit × DataW H) → Nat
  | [] => 0
  | x :: r => uptoBulkEntry x + uptoBulkEntries r
def uptoBulkEntry {H : Type} : Lit × DataW H → Nat
  | (.string bytes, d) => bytes.length + uptoBulk d + 1
  | (_, d) => uptoBulk d + 1
 end
def uptoSmall : (H : Type) → List (DataW H) → Bool := fun _ ds => decide (uptoBulkAll ds ≤ 1048576)
def OpenSpec.upto (s : _root_.Go.ChangeSpec) : _root_.Go.OpenSpec := { _root_.Go.OpenSpec.ofChange s with cond := some uptoSmall }

/-- 'tabellionlaw16.ChunkCuts', WHERE WHAT IT READS IS OF BULK AT MOST 1048576: true; the input reads as it did. -/
def chunkCutsUptoRow : OpenClaim := { program := "ytpagkmdlmhdenaa", sum := "b6c2ecdcdb0e3d341c01996e5f2ef7dfe606347a7c7d7d143ea2062f8377c42f", func := "tabellion/tabellionlaw16.ChunkCuts", spec := "chunkCuts", apart := false, narrowed := true }
def ChunkCutsUptoSaid : Prop := chunkCutsUptoRow.holds Try.pinned (OpenSpec.upto chunkCutsSpec)

/-- 'tabellionlaw16.ChunkBegins', WHERE WHAT IT READS IS OF BULK AT MOST 1048576: true; the input reads as it did. -/
def chunkBeginsUptoRow : OpenClaim := { program := "ytpagkmdlmhdenaa", sum := "b6c2ecdcdb0e3d341c01996e5f2ef7dfe606347a7c7d7d143ea2062f8377c42f", func := "tabellion/tabellionlaw16.ChunkBegins", spec := "chunkBegins", apart := false, narrowed := true }
def ChunkBeginsUptoSaid : Prop := chunkBeginsUptoRow.holds Try.pinned (OpenSpec.upto chunkBeginsSpec)

/-- 'tabellionlaw16.ChunkTakes', WHERE WHAT IT READS IS OF BULK AT MOST 1048576: true; the input reads as it did. -/
def chunkTakesUptoRow : OpenClaim := { program := "ytpagkmdlmhdenaa", sum := "b6c2ecdcdb0e3d341c01996e5f2ef7dfe606347a7c7d7d143ea2062f8377c42f", func := "tabellion/tabellionlaw16.ChunkTakes", spec := "chunkTakes", apart := false, narrowed := true }
def ChunkTakesUptoSaid : Prop := chunkTakesUptoRow.holds Try.pinned (OpenSpec.upto chunkTakesSpec)

/-- 'tabellionlaw16.ChunkTwice', WHERE WHAT IT READS IS OF BULK AT MOST 1048576: true; the input reads as it did. -/
def chunkTwiceUptoRow : OpenClaim := { program := "ytpagkmdlmhdenaa", sum := "b6c2ecdcdb0e3d341c01996e5f2ef7dfe606347a7c7d7d143ea2062f8377c42f", func := "tabellion/tabellionlaw16.ChunkTwice", spec := "chunkTwice", apart := false, narrowed := true }
def ChunkTwiceUptoSaid : Prop := chunkTwiceUptoRow.holds Try.pinned (OpenSpec.upto chunkTwiceSpec)

/-- 'tabellionlaw16.ChunkWhole', WHERE WHAT IT READS IS OF BULK AT MOST 1048576: true; the input reads as it did. -/
def chunkWholeUptoRow : OpenClaim := { program := "ytpagkmdlmhdenaa", sum := "b6c2ecdcdb0e3d341c01996e5f2ef7dfe606347a7c7d7d143ea2062f8377c42f", func := "tabellion/tabellionlaw16.ChunkWhole", spec := "chunkWhole", apart := false, narrowed := true }
def ChunkWholeUptoSaid : Prop := chunkWholeUptoRow.holds Try.pinned (OpenSpec.upto chunkWholeSpec)

end Rows
end Go.Proofs.Ytpagkmdlmhdenaa
