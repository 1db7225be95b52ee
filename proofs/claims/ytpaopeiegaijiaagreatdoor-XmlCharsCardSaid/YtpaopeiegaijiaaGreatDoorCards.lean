/-
  DERIVED. GIVEN WITH THE SEED: THE CARDS: each row of YtpaopeiegaijiaaGreatDoorRows.lean that lists a variable, with what it lists TIED to the program's text (the seventh form; the later family's looks); each row that meets fmt, with fmt's text TOLD by the authors' own Lean function (tested against real Go, not proved from fmt's source: count such statements apart). THE CARD IS WHAT COUNTS. Prove the row's statement (the work); the ties are given (YtpaopeiegaijiaaGreatDoorTie.lean); close each card by the builder's one call (the guide's Derived/Test/ToyasCard.lean, 'card_holds'). Laid BY PROGRAM, IN A SANDBOX (cutbox-door.mjs). By AI agents, Wed Nov 11 2026. No macro, syntax, notation, axiom, sorry.
-/
import Derived.Test.YtpaopeiegaijiaaGreatDoorRows
import GoSem.ClaimSeven
namespace Go.Proofs.YtpaopeiegaijiaaGreatDoor
namespace Rows

/-- THE TIED CARD OF 'calepinlaw09.DavAsks'. -/
def davAsksCard : Claim7 := { stood := { row := davAsksRow, standIns := [], harness := (true, "56cc588c01a9504f984456a0bf4da7b25790544f26d27ca853d05f7051b57c16"), looks := true }, kinds := [], alts := [], laidByText := true, laidKinds := [.data, .data, .data, .data, .sentinel, .sentinel, .pinned], laidTests := true, laidLooks := .later }
def DavAsksCardSaid : Prop := Claim7.holds Tryz.pinned (.plain (OpenSpec.ofChange davAsksSpec)) davAsksCard

/-- THE TIED CARD OF 'calepinlaw09.DavReads'. -/
def davReadsCard : Claim7 := { stood := { row := davReadsRow, standIns := [], harness := (true, "56cc588c01a9504f984456a0bf4da7b25790544f26d27ca853d05f7051b57c16"), looks := true }, kinds := [], alts := [], laidByText := true, laidKinds := [.data, .data, .data, .data, .sentinel, .sentinel, .pinned], laidTests := true, laidLooks := .later }
def DavReadsCardSaid : Prop := Claim7.holds Tryz.pinned (.plain (OpenSpec.ofChange davReadsSpec)) davReadsCard

/-- THE TIED CARD OF 'calepinlaw07.XmlWrites'. -/
def xmlWritesCard : Claim7 := { stood := { row := xmlWritesRow, standIns := [], harness := (true, "56cc588c01a9504f984456a0bf4da7b25790544f26d27ca853d05f7051b57c16"), looks := true }, kinds := [], alts := [], laidByText := true, laidKinds := [.data, .data, .data, .data, .sentinel, .sentinel, .pinned], laidTests := true, laidLooks := .later }
def XmlWritesCardSaid : Prop := Claim7.holds Tryz.pinned (.plain (OpenSpec.ofChange xmlWritesSpec)) xmlWritesCard

/-- THE TIED CARD OF 'calepinlaw07.XmlNames'. -/
def xmlNamesCard : Claim7 := { stood := { row := xmlNamesRow, standIns := [], harness := (true, "56cc588c01a9504f984456a0bf4da7b25790544f26d27ca853d05f7051b57c16"), looks := true }, kinds := [], alts := [], laidByText := true, laidKinds := [.data, .data, .data, .data, .sentinel, .sentinel, .pinned], laidTests := true, laidLooks := .later }
def XmlNamesCardSaid : Prop := Claim7.holds Tryz.pinned (.plain (OpenSpec.ofChange xmlNamesSpec)) xmlNamesCard

/-- THE TIED CARD OF 'calepinlaw07.XmlDeep'. -/
def xmlDeepCard : Claim7 := { stood := { row := xmlDeepRow, standIns := [], harness := (true, "56cc588c01a9504f984456a0bf4da7b25790544f26d27ca853d05f7051b57c16"), looks := true }, kinds := [], alts := [], laidByText := true, laidKinds := [.data, .data, .data, .data, .sentinel, .sentinel, .pinned], laidTests := true, laidLooks := .later }
def XmlDeepCardSaid : Prop := Claim7.holds Tryz.pinned (.plain (OpenSpec.ofChange xmlDeepSpec)) xmlDeepCard

/-- THE TIED CARD OF 'calepinlaw07.XmlRemarks'. -/
def xmlRemarksCard : Claim7 := { stood := { row := xmlRemarksRow, standIns := [], harness := (true, "56cc588c01a9504f984456a0bf4da7b25790544f26d27ca853d05f7051b57c16"), looks := true }, kinds := [], alts := [], laidByText := true, laidKinds := [.data, .data, .data, .data, .sentinel, .sentinel, .pinned], laidTests := true, laidLooks := .later }
def XmlRemarksCardSaid : Prop := Claim7.holds Tryz.pinned (.plain (OpenSpec.ofChange xmlRemarksSpec)) xmlRemarksCard

/-- THE TIED CARD OF 'calepinlaw07.XmlChars'. -/
def xmlCharsCard : Claim7 := { stood := { row := xmlCharsRow, standIns := [], harness := (true, "56cc588c01a9504f984456a0bf4da7b25790544f26d27ca853d05f7051b57c16"), looks := true }, kinds := [], alts := [], laidByText := true, laidKinds := [.data, .data, .data, .data, .sentinel, .sentinel, .pinned], laidTests := true, laidLooks := .later }
def XmlCharsCardSaid : Prop := Claim7.holds Tryz.pinned (.plain (OpenSpec.ofChange xmlCharsSpec)) xmlCharsCard

/-- THE TIED CARD OF 'calepinlaw09.DavTells'. -/
def davTellsCard : Claim7 := { stood := { row := davTellsRow, standIns := [], harness := (true, "56cc588c01a9504f984456a0bf4da7b25790544f26d27ca853d05f7051b57c16"), looks := true }, kinds := [], alts := [], laidByText := true, laidKinds := [.data, .data, .data, .data, .sentinel, .sentinel, .pinned], laidTests := true, laidLooks := .later }
def DavTellsCardSaid : Prop := Claim7.holds Tryz.pinned (.plain (OpenSpec.ofChange davTellsSpec)) davTellsCard

/-- THE SECOND FORM's CARD OF 'calepinlaw09.DavAsks'. -/
def davAsksUptoCard : Claim7 := { stood := { row := davAsksUptoRow, standIns := [], harness := (true, "56cc588c01a9504f984456a0bf4da7b25790544f26d27ca853d05f7051b57c16"), looks := true }, kinds := [], alts := [], laidByText := true, laidKinds := [.data, .data, .data, .data, .sentinel, .sentinel, .pinned], laidTests := true, laidLooks := .later }
def DavAsksUptoCardSaid : Prop := Claim7.holds Tryz.pinned (.plain (OpenSpec.upto davAsksSpec)) davAsksUptoCard

/-- THE SECOND FORM's CARD OF 'calepinlaw09.DavReads'. -/
def davReadsUptoCard : Claim7 := { stood := { row := davReadsUptoRow, standIns := [], harness := (true, "56cc588c01a9504f984456a0bf4da7b25790544f26d27ca853d05f7051b57c16"), looks := true }, kinds := [], alts := [], laidByText := true, laidKinds := [.data, .data, .data, .data, .sentinel, .sentinel, .pinned], laidTests := true, laidLooks := .later }
def DavReadsUptoCardSaid : Prop := Claim7.holds Tryz.pinned (.plain (OpenSpec.upto davReadsSpec)) davReadsUptoCard

/-- THE SECOND FORM's CARD OF 'calepinlaw07.XmlWrites'. -/
def xmlWritesUptoCard : Claim7 := { stood := { row := xmlWritesUptoRow, standIns := [], harness := (true, "56cc588c01a9504f984456a0bf4da7b25790544f26d27ca853d05f7051b57c16"), looks := true }, kinds := [], alts := [], laidByText := true, laidKinds := [.data, .data, .data, .data, .sentinel, .sentinel, .pinned], laidTests := true, laidLooks := .later }
def XmlWritesUptoCardSaid : Prop := Claim7.holds Tryz.pinned (.plain (OpenSpec.upto xmlWritesSpec)) xmlWritesUptoCard

/-- THE SECOND FORM's CARD OF 'calepinlaw07.XmlNames'. -/
def xmlNamesUptoCard : Claim7 := { stood := { row := xmlNamesUptoRow, standIns := [], harness := (true, "56cc588c01a9504f984456a0bf4da7b25790544f26d27ca853d05f7051b57c16"), looks := true }, kinds := [], alts := [], laidByText := true, laidKinds := [.data, .data, .data, .data, .sentinel, .sentinel, .pinned], laidTests := true, laidLooks := .later }
def XmlNamesUptoCardSaid : Prop := Claim7.holds Tryz.pinned (.plain (OpenSpec.upto xmlNamesSpec)) xmlNamesUptoCard

/-- THE SECOND FORM's CARD OF 'calepinlaw07.XmlDeep'. -/
def xmlDeepUptoCard : Claim7 := { stood := { row := xmlDeepUptoRow, standIns := [], harness := (true, "56cc588c01a9504f984456a0bf4da7b25790544f26d27ca853d05f7051b57c16"), looks := true }, kinds := [], alts := [], laidByText := true, laidKinds := [.data, .data, .data, .data, .sentinel, .sentinel, .pinned], laidTests := true, laidLooks := .later }
def XmlDeepUptoCardSaid : Prop := Claim7.holds Tryz.pinned (.plain (OpenSpec.upto xmlDeepSpec)) xmlDeepUptoCard

/-- THE SECOND FORM's CARD OF 'calepinlaw07.XmlRemarks'. -/
def xmlRemarksUptoCard : Claim7 := { stood := { row := xmlRemarksUptoRow, standIns := [], harness := (true, "56cc588c01a9504f984456a0bf4da7b25790544f26d27ca853d05f7051b57c16"), looks := true }, kinds := [], alts := [], laidByText := true, laidKinds := [.data, .data, .data, .data, .sentinel, .sentinel, .pinned], laidTests := true, laidLooks := .later }
def XmlRemarksUptoCardSaid : Prop := Claim7.holds Tryz.pinned (.plain (OpenSpec.upto xmlRemarksSpec)) xmlRemarksUptoCard

/-- THE SECOND FORM's CARD OF 'calepinlaw07.XmlChars'. -/
def xmlCharsUptoCard : Claim7 := { stood := { row := xmlCharsUptoRow, standIns := [], harness := (true, "56cc588c01a9504f984456a0bf4da7b25790544f26d27ca853d05f7051b57c16"), looks := true }, kinds := [], alts := [], laidByText := true, laidKinds := [.data, .data, .data, .data, .sentinel, .sentinel, .pinned], laidTests := true, laidLooks := .later }
def XmlCharsUptoCardSaid : Prop := Claim7.holds Tryz.pinned (.plain (OpenSpec.upto xmlCharsSpec)) xmlCharsUptoCard

/-- THE SECOND FORM's CARD OF 'calepinlaw09.DavTells'. -/
def davTellsUptoCard : Claim7 := { stood := { row := davTellsUptoRow, standIns := [], harness := (true, "56cc588c01a9504f984456a0bf4da7b25790544f26d27ca853d05f7051b57c16"), looks := true }, kinds := [], alts := [], laidByText := true, laidKinds := [.data, .data, .data, .data, .sentinel, .sentinel, .pinned], laidTests := true, laidLooks := .later }
def DavTellsUptoCardSaid : Prop := Claim7.holds Tryz.pinned (.plain (OpenSpec.upto davTellsSpec)) davTellsUptoCard
end Rows
end Go.Proofs.YtpaopeiegaijiaaGreatDoor
