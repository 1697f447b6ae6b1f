/-
  DERIVED. GIVEN WITH THE SEED: THE CARDS: each row of YtadkeohohehmcaaGreatDoorRows.lean that lists a variable, with what it lists TIED to the program's text (the seventh form; the later family's looks); each row that meets fmt, with fmt's text TOLD by the authors' own Lean function (tested against real Go, not proved from fmt's source: count such statements apart). THE CARD IS WHAT COUNTS. Prove the row's statement (the work); the ties are given (YtadkeohohehmcaaGreatDoorTie.lean); close each card by the builder's one call (the guide's Derived/Test/ToyasCard.lean, 'card_holds'). Laid BY PROGRAM, IN A SANDBOX (cutbox-door.mjs). By AI agents, Wed Nov 11 2026. No macro, syntax, notation, axiom, sorry.
-/
import Derived.Test.YtadkeohohehmcaaGreatDoorRows
import GoSem.ClaimSeven
namespace Go.Proofs.YtadkeohohehmcaaGreatDoor
namespace Rows

/-- THE TIED CARD OF 'tabelliontop.TopHeads'. -/
def topHeadsCard : Claim7 := { stood := { row := topHeadsRow, standIns := [], harness := (true, "b48ffd14832fdde904d44af4d40c354f8965edd36ffecf04aac83604b6ddba2c"), looks := false }, kinds := [], alts := [], laidByText := true, laidKinds := [.data], laidTests := true, laidLooks := .later }
def TopHeadsCardSaid : Prop := Claim7.holds Tryz.pinned (.plain (OpenSpec.ofChange topHeadsSpec)) topHeadsCard

/-- THE SECOND FORM's CARD OF 'tabelliontop.TopHeads'. -/
def topHeadsUptoCard : Claim7 := { stood := { row := topHeadsUptoRow, standIns := [], harness := (true, "b48ffd14832fdde904d44af4d40c354f8965edd36ffecf04aac83604b6ddba2c"), looks := false }, kinds := [], alts := [], laidByText := true, laidKinds := [.data], laidTests := true, laidLooks := .later }
def TopHeadsUptoCardSaid : Prop := Claim7.holds Tryz.pinned (.plain (OpenSpec.upto topHeadsSpec)) topHeadsUptoCard
end Rows
end Go.Proofs.YtadkeohohehmcaaGreatDoor
