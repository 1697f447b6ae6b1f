/-
  No cell of these rows narrows 'for every input' (looked for: loops, veiled, ifaces, maps, wideKeys, modest, calm, conditions, laid).
  DERIVED. THE GIVEN ROWS OF THIS SEAT. 6 by the template 'for every input the law returns true; each argument reads behind the call as it read before'; 0 by the template 'total and deterministic' (their statements: YtpjachbmllklgaaTotals.lean).
  GIVEN WITH THE SEED: the statements are not yours to turn. If you find one false, say at which input.
  Laid BY PROGRAM, IN A SANDBOX (cutbox-rows.mjs): the forced cells as the released guide's own fill.sh prints them over the translation 2af11d6d3d2a44ad… (all of the seat's roots in one cut). By AI agents, Wed Nov 11 2026. No macro, syntax, notation, axiom, sorry.
-/
import Derived.Test.YtpjachbmllklgaaChecked
import GoSem.Claim
import GoSem.ClaimJoined
import GoSem.ClaimMapViews
import Derived.JoinedTies
import Derived.KernelRfl
namespace Go.Proofs.Ytpjachbmllklgaa
/- THE CELL 'sum', in the pinned program and in every row, IS THE sha256 OF THE DUMP (.gsa) THAT YtpjachbmllklgaaProg.lean LOADS. Nothing in Lean hashes anything: it is a label: what it is worth is what the hold of that sum in a sandbox is worth. -/
noncomputable def Try.pinned : Pinned := { name := "ytpjachbmllklgaa", sum := "2af11d6d3d2a44adc6660921f14dc8adf36655d623f555404669c9d4615ae941", checked := Try.checked }
namespace Rows
def none {H : Type} : Left H := { results := [], args := [] }

/-- 'tabellionlaw14.LedgerTerms': WHATEVER THE INPUT: true; the input reads as it did. -/
def ledgerTermsSpec : ChangeSpec := { name := "ledgerTerms", fn := fun _ => fun
  | [d1, d2] => { results := [.lit (.bool true)], args := [d1, d2] }
  | _ => none }
def ledgerTermsRow : OpenClaim := { program := "ytpjachbmllklgaa", sum := "2af11d6d3d2a44adc6660921f14dc8adf36655d623f555404669c9d4615ae941", func := "tabellion/tabellionlaw14.LedgerTerms", spec := "ledgerTerms", unfollowed := true, recurses := true, apart := false }
def LedgerTermsSaid : Prop := ledgerTermsRow.holds Try.pinned (OpenSpec.ofChange ledgerTermsSpec)

/-- ITS FALSE NEIGHBOUR: 'it returns false'. Refute it at one input. -/
def ledgerTermsWrong : ChangeSpec := { name := "ledgerTerms", fn := fun _ => fun
  | [d1, d2] => { results := [.lit (.bool false)], args := [d1, d2] }
  | _ => none }
def LedgerTermsWrongFalsely : Prop := ledgerTermsRow.holds Try.pinned (OpenSpec.ofChange ledgerTermsWrong)

/-- 'tabellionlaw14.LedgerCouncil': WHATEVER THE INPUT: true; the input reads as it did. -/
def ledgerCouncilSpec : ChangeSpec := { name := "ledgerCouncil", fn := fun _ => fun
  | [d1, d2] => { results := [.lit (.bool true)], args := [d1, d2] }
  | _ => none }
def ledgerCouncilRow : OpenClaim := { program := "ytpjachbmllklgaa", sum := "2af11d6d3d2a44adc6660921f14dc8adf36655d623f555404669c9d4615ae941", func := "tabellion/tabellionlaw14.LedgerCouncil", spec := "ledgerCouncil", unfollowed := true, recurses := true, apart := false }
def LedgerCouncilSaid : Prop := ledgerCouncilRow.holds Try.pinned (OpenSpec.ofChange ledgerCouncilSpec)

/-- ITS FALSE NEIGHBOUR: 'it returns false'. Refute it at one input. -/
def ledgerCouncilWrong : ChangeSpec := { name := "ledgerCouncil", fn := fun _ => fun
  | [d1, d2] => { results := [.lit (.bool false)], args := [d1, d2] }
  | _ => none }
def LedgerCouncilWrongFalsely : Prop := ledgerCouncilRow.holds Try.pinned (OpenSpec.ofChange ledgerCouncilWrong)

/-- 'tabellionlaw14.LedgerAbove': WHATEVER THE INPUT: true; the input reads as it did. -/
def ledgerAboveSpec : ChangeSpec := { name := "ledgerAbove", fn := fun _ => fun
  | [d1, d2, d3, d4] => { results := [.lit (.bool true)], args := [d1, d2, d3, d4] }
  | _ => none }
def ledgerAboveRow : OpenClaim := { program := "ytpjachbmllklgaa", sum := "2af11d6d3d2a44adc6660921f14dc8adf36655d623f555404669c9d4615ae941", func := "tabellion/tabellionlaw14.LedgerAbove", spec := "ledgerAbove", unfollowed := true, recurses := true, apart := false }
def LedgerAboveSaid : Prop := ledgerAboveRow.holds Try.pinned (OpenSpec.ofChange ledgerAboveSpec)

/-- ITS FALSE NEIGHBOUR: 'it returns false'. Refute it at one input. -/
def ledgerAboveWrong : ChangeSpec := { name := "ledgerAbove", fn := fun _ => fun
  | [d1, d2, d3, d4] => { results := [.lit (.bool false)], args := [d1, d2, d3, d4] }
  | _ => none }
def LedgerAboveWrongFalsely : Prop := ledgerAboveRow.holds Try.pinned (OpenSpec.ofChange ledgerAboveWrong)

/-- 'tabellionlaw14.LedgerRoom': WHATEVER THE INPUT: true; the input reads as it did. -/
def ledgerRoomSpec : ChangeSpec := { name := "ledgerRoom", fn := fun _ => fun
  | [d] => { results := [.lit (.bool true)], args := [d] }
  | _ => none }
def ledgerRoomRow : OpenClaim := { program := "ytpjachbmllklgaa", sum := "2af11d6d3d2a44adc6660921f14dc8adf36655d623f555404669c9d4615ae941", func := "tabellion/tabellionlaw14.LedgerRoom", spec := "ledgerRoom", unfollowed := true, recurses := true, apart := false }
def LedgerRoomSaid : Prop := ledgerRoomRow.holds Try.pinned (OpenSpec.ofChange ledgerRoomSpec)

/-- ITS FALSE NEIGHBOUR: 'it returns false'. Refute it at one input. -/
def ledgerRoomWrong : ChangeSpec := { name := "ledgerRoom", fn := fun _ => fun
  | [d] => { results := [.lit (.bool false)], args := [d] }
  | _ => none }
def LedgerRoomWrongFalsely : Prop := ledgerRoomRow.holds Try.pinned (OpenSpec.ofChange ledgerRoomWrong)

/-- 'tabellionlaw14.LedgerParts': WHATEVER THE INPUT: true; the input reads as it did. -/
def ledgerPartsSpec : ChangeSpec := { name := "ledgerParts", fn := fun _ => fun
  | [d1, d2, d3, d4] => { results := [.lit (.bool true)], args := [d1, d2, d3, d4] }
  | _ => none }
def ledgerPartsRow : OpenClaim := { program := "ytpjachbmllklgaa", sum := "2af11d6d3d2a44adc6660921f14dc8adf36655d623f555404669c9d4615ae941", func := "tabellion/tabellionlaw14.LedgerParts", spec := "ledgerParts", unfollowed := true, recurses := true, apart := false }
def LedgerPartsSaid : Prop := ledgerPartsRow.holds Try.pinned (OpenSpec.ofChange ledgerPartsSpec)

/-- ITS FALSE NEIGHBOUR: 'it returns false'. Refute it at one input. -/
def ledgerPartsWrong : ChangeSpec := { name := "ledgerParts", fn := fun _ => fun
  | [d1, d2, d3, d4] => { results := [.lit (.bool false)], args := [d1, d2, d3, d4] }
  | _ => none }
def LedgerPartsWrongFalsely : Prop := ledgerPartsRow.holds Try.pinned (OpenSpec.ofChange ledgerPartsWrong)

/-- 'tabellionlaw14.LedgerJoined': WHATEVER THE INPUT: true; the input reads as it did. -/
def ledgerJoinedSpec : ChangeSpec := { name := "ledgerJoined", fn := fun _ => fun
  | [d1, d2, d3, d4] => { results := [.lit (.bool true)], args := [d1, d2, d3, d4] }
  | _ => none }
def ledgerJoinedRow : OpenClaim := { program := "ytpjachbmllklgaa", sum := "2af11d6d3d2a44adc6660921f14dc8adf36655d623f555404669c9d4615ae941", func := "tabellion/tabellionlaw14.LedgerJoined", spec := "ledgerJoined", unfollowed := true, recurses := true, apart := false }
def LedgerJoinedSaid : Prop := ledgerJoinedRow.holds Try.pinned (OpenSpec.ofChange ledgerJoinedSpec)

/-- ITS FALSE NEIGHBOUR: 'it returns false'. Refute it at one input. -/
def ledgerJoinedWrong : ChangeSpec := { name := "ledgerJoined", fn := fun _ => fun
  | [d1, d2, d3, d4] => { results := [.lit (.bool false)], args := [d1, d2, d3, d4] }
  | _ => none }
def LedgerJoinedWrongFalsely : Prop := ledgerJoinedRow.holds Try.pinned (OpenSpec.ofChange ledgerJoinedWrong)

/- THE SECOND FORM. 'bulk': how many values and letters a reading holds, each counted each time it is reached (what is shared counts as often as it is met; a slice's spare places count too). A statement '..UptoSaid' is the law's where the arguments, and the package variables that the reading takes, are together of bulk at most 1048576: NARROWER than '..Said'. Prove '..Said' where nothing that the law and all that it calls make is longer than what came in: it says more and counts as full. Else prove '..UptoSaid'. A law counts once. -/
mutual
def uptoBulk {H : Type} : DataW H → Nat
  | .lit (.string bytes) => bytes.length + 1
  | .lit _ => 1
  | .nil => 1
  | .ptr d => uptoBulk d + 1
  | .slice elems spare => uptoBulkAll elems + uptoBulkAll spare + 1
  | .agg parts => uptoBulkAll parts + 1
  | .iface _ d => uptoBulk d + 1
  | .map entries => uptoBulkEntries entries + 1
  | .held _ => 1
def uptoBulkAll {H : Type} : List (DataW H) → Nat
  | [] => 0
  | d :: r => uptoBulk d + uptoBulkAll r
def uptoBulkEntries {H : Type} : List (Lit × DataW H) → Nat
  | [] => 0
  | x :: r => uptoBulkEntry x + uptoBulkEntries r
def uptoBulkEntry {H : Type} : Lit × DataW H → Nat
  | (.string bytes, d) => bytes.length + uptoBulk d + 1
  | (_, d) => uptoBulk d + 1
 end
def uptoSmall : (H : Type) → List (DataW H) → Bool := fun _ ds => decide (uptoBulkAll ds ≤ 1048576)
def OpenSpec.upto (s : _root_.Go.ChangeSpec) : _root_.Go.OpenSpec := { _root_.Go.OpenSpec.ofChange s with cond := some uptoSmall }

/-- 'tabellionlaw14.LedgerTerms', WHERE WHAT IT READS IS OF BULK AT MOST 1048576: true; the input reads as it did. -/
def ledgerTermsUptoRow : OpenClaim := { program := "ytpjachbmllklgaa", sum := "2af11d6d3d2a44adc6660921f14dc8adf36655d623f555404669c9d4615ae941", func := "tabellion/tabellionlaw14.LedgerTerms", spec := "ledgerTerms", unfollowed := true, recurses := true, apart := false, narrowed := true }
def LedgerTermsUptoSaid : Prop := ledgerTermsUptoRow.holds Try.pinned (OpenSpec.upto ledgerTermsSpec)

/-- 'tabellionlaw14.LedgerCouncil', WHERE WHAT IT READS IS OF BULK AT MOST 1048576: true; the input reads as it did. -/
def ledgerCouncilUptoRow : OpenClaim := { program := "ytpjachbmllklgaa", sum := "2af11d6d3d2a44adc6660921f14dc8adf36655d623f555404669c9d4615ae941", func := "tabellion/tabellionlaw14.LedgerCouncil", spec := "ledgerCouncil", unfollowed := true, recurses := true, apart := false, narrowed := true }
def LedgerCouncilUptoSaid : Prop := ledgerCouncilUptoRow.holds Try.pinned (OpenSpec.upto ledgerCouncilSpec)

/-- 'tabellionlaw14.LedgerAbove', WHERE WHAT IT READS IS OF BULK AT MOST 1048576: true; the input reads as it did. -/
def ledgerAboveUptoRow : OpenClaim := { program := "ytpjachbmllklgaa", sum := "2af11d6d3d2a44adc6660921f14dc8adf36655d623f555404669c9d4615ae941", func := "tabellion/tabellionlaw14.LedgerAbove", spec := "ledgerAbove", unfollowed := true, recurses := true, apart := false, narrowed := true }
def LedgerAboveUptoSaid : Prop := ledgerAboveUptoRow.holds Try.pinned (OpenSpec.upto ledgerAboveSpec)

/-- 'tabellionlaw14.LedgerRoom', WHERE WHAT IT READS IS OF BULK AT MOST 1048576: true; the input reads as it did. -/
def ledgerRoomUptoRow : OpenClaim := { program := "ytpjachbmllklgaa", sum := "2af11d6d3d2a44adc6660921f14dc8adf36655d623f555404669c9d4615ae941", func := "tabellion/tabellionlaw14.LedgerRoom", spec := "ledgerRoom", unfollowed := true, recurses := true, apart := false, narrowed := true }
def LedgerRoomUptoSaid : Prop := ledgerRoomUptoRow.holds Try.pinned (OpenSpec.upto ledgerRoomSpec)

/-- 'tabellionlaw14.LedgerParts', WHERE WHAT IT READS IS OF BULK AT MOST 1048576: true; the input reads as it did. -/
def ledgerPartsUptoRow : OpenClaim := { program := "ytpjachbmllklgaa", sum := "2af11d6d3d2a44adc6660921f14dc8adf36655d623f555404669c9d4615ae941", func := "tabellion/tabellionlaw14.LedgerParts", spec := "ledgerParts", unfollowed := true, recurses := true, apart := false, narrowed := true }
def LedgerPartsUptoSaid : Prop := ledgerPartsUptoRow.holds Try.pinned (OpenSpec.upto ledgerPartsSpec)

/-- 'tabellionlaw14.LedgerJoined', WHERE WHAT IT READS IS OF BULK AT MOST 1048576: true; the input reads as it did. -/
def ledgerJoinedUptoRow : OpenClaim := { program := "ytpjachbmllklgaa", sum := "2af11d6d3d2a44adc6660921f14dc8adf36655d623f555404669c9d4615ae941", func := "tabellion/tabellionlaw14.LedgerJoined", spec := "ledgerJoined", unfollowed := true, recurses := true, apart := false, narrowed := true }
def LedgerJoinedUptoSaid : Prop := ledgerJoinedUptoRow.holds Try.pinned (OpenSpec.upto ledgerJoinedSpec)

end Rows
end Go.Proofs.Ytpjachbmllklgaa
