/-
  DERIVED. GIVEN WITH THE SEED: THE CARDS: each row of YtipfekjmcddelaaGreatDoorRows.lean that lists a variable, with what it lists TIED to the program's text (the seventh form; the later family's looks); each row that meets fmt, with fmt's text TOLD by the authors' own Lean function (tested against real Go, not proved from fmt's source: count such statements apart). THE CARD IS WHAT COUNTS. Prove the row's statement (the work); the ties are given (YtipfekjmcddelaaGreatDoorTie.lean); close each card by the builder's one call (the guide's Derived/Test/ToyasCard.lean, 'card_holds'). Laid BY PROGRAM, IN A SANDBOX (cutbox-door.mjs). By AI agents, Wed Nov 11 2026. No macro, syntax, notation, axiom, sorry.
-/
import Derived.Test.YtipfekjmcddelaaGreatDoorRows
import GoSem.ClaimSeven
namespace Go.Proofs.YtipfekjmcddelaaGreatDoor
namespace Rows

/-- THE TIED CARD OF 'calepinlaw08.HttpReads'. -/
def httpReadsCard : Claim7 := { stood := { row := httpReadsRow, standIns := [], harness := (true, "b7eeeec4d941313962c05fb7cc6d8c5d46af76e2de6760f38b9153bffb0d0b37"), looks := true }, kinds := [], alts := [], laidByText := true, laidKinds := [.data, .data, .data, .data, .sentinel, .sentinel, .pinned], laidTests := true, laidLooks := .later }
def HttpReadsCardSaid : Prop := Claim7.holds Tryz.pinned (.plain (OpenSpec.ofChange httpReadsSpec)) httpReadsCard

/-- THE TIED CARD OF 'calepinlaw08.HttpWrites'. -/
def httpWritesCard : Claim7 := { stood := { row := httpWritesRow, standIns := [], harness := (true, "b7eeeec4d941313962c05fb7cc6d8c5d46af76e2de6760f38b9153bffb0d0b37"), looks := true }, kinds := [], alts := [], laidByText := true, laidKinds := [.data, .data, .data, .data, .sentinel, .sentinel, .pinned], laidTests := true, laidLooks := .later }
def HttpWritesCardSaid : Prop := Claim7.holds Tryz.pinned (.plain (OpenSpec.ofChange httpWritesSpec)) httpWritesCard

/-- THE SECOND FORM's CARD OF 'calepinlaw08.HttpReads'. -/
def httpReadsUptoCard : Claim7 := { stood := { row := httpReadsUptoRow, standIns := [], harness := (true, "b7eeeec4d941313962c05fb7cc6d8c5d46af76e2de6760f38b9153bffb0d0b37"), looks := true }, kinds := [], alts := [], laidByText := true, laidKinds := [.data, .data, .data, .data, .sentinel, .sentinel, .pinned], laidTests := true, laidLooks := .later }
def HttpReadsUptoCardSaid : Prop := Claim7.holds Tryz.pinned (.plain (OpenSpec.upto httpReadsSpec)) httpReadsUptoCard

/-- THE SECOND FORM's CARD OF 'calepinlaw08.HttpWrites'. -/
def httpWritesUptoCard : Claim7 := { stood := { row := httpWritesUptoRow, standIns := [], harness := (true, "b7eeeec4d941313962c05fb7cc6d8c5d46af76e2de6760f38b9153bffb0d0b37"), looks := true }, kinds := [], alts := [], laidByText := true, laidKinds := [.data, .data, .data, .data, .sentinel, .sentinel, .pinned], laidTests := true, laidLooks := .later }
def HttpWritesUptoCardSaid : Prop := Claim7.holds Tryz.pinned (.plain (OpenSpec.upto httpWritesSpec)) httpWritesUptoCard
end Rows
end Go.Proofs.YtipfekjmcddelaaGreatDoor
