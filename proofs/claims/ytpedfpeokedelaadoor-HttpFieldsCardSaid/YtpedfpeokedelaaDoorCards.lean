/-
  DERIVED. GIVEN WITH THE SEED: THE CARDS: each row of YtpedfpeokedelaaDoorRows.lean that lists a variable, with what it lists TIED to the program's text (the seventh form; the later family's looks); each row that meets fmt, with fmt's text TOLD by the authors' own Lean function (tested against real Go, not proved from fmt's source: count such statements apart). THE CARD IS WHAT COUNTS. Prove the row's statement (the work); the ties are given (YtpedfpeokedelaaDoorTie.lean); close each card by the builder's one call (the guide's Derived/Test/ToyasCard.lean, 'card_holds'). Laid BY PROGRAM, IN A SANDBOX (cutbox-door.mjs). By AI agents, Wed Nov 11 2026. No macro, syntax, notation, axiom, sorry.
-/
import Derived.Test.YtpedfpeokedelaaDoorRows
import GoSem.ClaimSeven
namespace Go.Proofs.YtpedfpeokedelaaDoor
namespace Rows

/-- THE TIED CARD OF 'calepinlaw01.CharPieces'. -/
def charPiecesCard : Claim7 := { stood := { row := charPiecesRow, standIns := [], harness := (true, "e71c48230232e8cc18c68f93d5fe8af27225f46cfbaba28b467c29b777ff953e"), looks := true }, kinds := [], alts := [], laidByText := true, laidKinds := [.data, .data, .data, .data, .sentinel, .sentinel, .pinned], laidTests := true, laidLooks := .later }
def CharPiecesCardSaid : Prop := Claim7.holds Tryd.pinned (.plain (OpenSpec.ofChange charPiecesSpec)) charPiecesCard

/-- THE TIED CARD OF 'calepinlaw01.CharTexts'. -/
def charTextsCard : Claim7 := { stood := { row := charTextsRow, standIns := [], harness := (true, "e71c48230232e8cc18c68f93d5fe8af27225f46cfbaba28b467c29b777ff953e"), looks := true }, kinds := [], alts := [], laidByText := true, laidKinds := [.data, .data, .data, .data, .sentinel, .sentinel, .pinned], laidTests := true, laidLooks := .later }
def CharTextsCardSaid : Prop := Claim7.holds Tryd.pinned (.plain (OpenSpec.ofChange charTextsSpec)) charTextsCard

/-- THE TIED CARD OF 'calepinlaw01.CharJoins'. -/
def charJoinsCard : Claim7 := { stood := { row := charJoinsRow, standIns := [], harness := (true, "e71c48230232e8cc18c68f93d5fe8af27225f46cfbaba28b467c29b777ff953e"), looks := true }, kinds := [], alts := [], laidByText := true, laidKinds := [.data, .data, .data, .data, .sentinel, .sentinel, .pinned], laidTests := true, laidLooks := .later }
def CharJoinsCardSaid : Prop := Claim7.holds Tryd.pinned (.plain (OpenSpec.ofChange charJoinsSpec)) charJoinsCard

/-- THE TIED CARD OF 'calepinlaw01.CharNumbers'. -/
def charNumbersCard : Claim7 := { stood := { row := charNumbersRow, standIns := [], harness := (true, "e71c48230232e8cc18c68f93d5fe8af27225f46cfbaba28b467c29b777ff953e"), looks := true }, kinds := [], alts := [], laidByText := true, laidKinds := [.data, .data, .data, .data, .sentinel, .sentinel, .pinned], laidTests := true, laidLooks := .later }
def CharNumbersCardSaid : Prop := Claim7.holds Tryd.pinned (.plain (OpenSpec.ofChange charNumbersSpec)) charNumbersCard

/-- THE TIED CARD OF 'calepinlaw01.CharOrder'. -/
def charOrderCard : Claim7 := { stood := { row := charOrderRow, standIns := [], harness := (true, "e71c48230232e8cc18c68f93d5fe8af27225f46cfbaba28b467c29b777ff953e"), looks := true }, kinds := [], alts := [], laidByText := true, laidKinds := [.data, .data, .data, .data, .sentinel, .sentinel, .pinned], laidTests := true, laidLooks := .later }
def CharOrderCardSaid : Prop := Claim7.holds Tryd.pinned (.plain (OpenSpec.ofChange charOrderSpec)) charOrderCard

/-- THE TIED CARD OF 'calepinlaw11.TokenWrites'. -/
def tokenWritesCard : Claim7 := { stood := { row := tokenWritesRow, standIns := [], harness := (true, "e71c48230232e8cc18c68f93d5fe8af27225f46cfbaba28b467c29b777ff953e"), looks := true }, kinds := [], alts := [], laidByText := true, laidKinds := [.data, .data, .data, .data, .sentinel, .sentinel, .pinned], laidTests := true, laidLooks := .later }
def TokenWritesCardSaid : Prop := Claim7.holds Tryd.pinned (.plain (OpenSpec.ofChange tokenWritesSpec)) tokenWritesCard

/-- THE TIED CARD OF 'calepinlaw11.TokenReads'. -/
def tokenReadsCard : Claim7 := { stood := { row := tokenReadsRow, standIns := [], harness := (true, "e71c48230232e8cc18c68f93d5fe8af27225f46cfbaba28b467c29b777ff953e"), looks := true }, kinds := [], alts := [], laidByText := true, laidKinds := [.data, .data, .data, .data, .sentinel, .sentinel, .pinned], laidTests := true, laidLooks := .later }
def TokenReadsCardSaid : Prop := Claim7.holds Tryd.pinned (.plain (OpenSpec.ofChange tokenReadsSpec)) tokenReadsCard

/-- THE TIED CARD OF 'calepinlaw11.TokenApart'. -/
def tokenApartCard : Claim7 := { stood := { row := tokenApartRow, standIns := [], harness := (true, "e71c48230232e8cc18c68f93d5fe8af27225f46cfbaba28b467c29b777ff953e"), looks := true }, kinds := [], alts := [], laidByText := true, laidKinds := [.data, .data, .data, .data, .sentinel, .sentinel, .pinned], laidTests := true, laidLooks := .later }
def TokenApartCardSaid : Prop := Claim7.holds Tryd.pinned (.plain (OpenSpec.ofChange tokenApartSpec)) tokenApartCard

/-- THE TIED CARD OF 'calepinlaw11.TokenChecks'. -/
def tokenChecksCard : Claim7 := { stood := { row := tokenChecksRow, standIns := [], harness := (true, "e71c48230232e8cc18c68f93d5fe8af27225f46cfbaba28b467c29b777ff953e"), looks := true }, kinds := [], alts := [], laidByText := true, laidKinds := [.data, .data, .data, .data, .sentinel, .sentinel, .pinned], laidTests := true, laidLooks := .later }
def TokenChecksCardSaid : Prop := Claim7.holds Tryd.pinned (.plain (OpenSpec.ofChange tokenChecksSpec)) tokenChecksCard

/-- THE TIED CARD OF 'calepinlaw10.CondTags'. -/
def condTagsCard : Claim7 := { stood := { row := condTagsRow, standIns := [], harness := (true, "e71c48230232e8cc18c68f93d5fe8af27225f46cfbaba28b467c29b777ff953e"), looks := true }, kinds := [], alts := [], laidByText := true, laidKinds := [.data, .data, .data, .data, .sentinel, .sentinel, .pinned], laidTests := true, laidLooks := .later }
def CondTagsCardSaid : Prop := Claim7.holds Tryd.pinned (.plain (OpenSpec.ofChange condTagsSpec)) condTagsCard

/-- THE TIED CARD OF 'calepinlaw10.CondHolds'. -/
def condHoldsCard : Claim7 := { stood := { row := condHoldsRow, standIns := [], harness := (true, "e71c48230232e8cc18c68f93d5fe8af27225f46cfbaba28b467c29b777ff953e"), looks := true }, kinds := [], alts := [], laidByText := true, laidKinds := [.data, .data, .data, .data, .sentinel, .sentinel, .pinned], laidTests := true, laidLooks := .later }
def CondHoldsCardSaid : Prop := Claim7.holds Tryd.pinned (.plain (OpenSpec.ofChange condHoldsSpec)) condHoldsCard

/-- THE TIED CARD OF 'calepinlaw10.CondTwins'. -/
def condTwinsCard : Claim7 := { stood := { row := condTwinsRow, standIns := [], harness := (true, "e71c48230232e8cc18c68f93d5fe8af27225f46cfbaba28b467c29b777ff953e"), looks := true }, kinds := [], alts := [], laidByText := true, laidKinds := [.data, .data, .data, .data, .sentinel, .sentinel, .pinned], laidTests := true, laidLooks := .later }
def CondTwinsCardSaid : Prop := Claim7.holds Tryd.pinned (.plain (OpenSpec.ofChange condTwinsSpec)) condTwinsCard

/-- THE TIED CARD OF 'calepinlaw10.CondOrder'. -/
def condOrderCard : Claim7 := { stood := { row := condOrderRow, standIns := [], harness := (true, "e71c48230232e8cc18c68f93d5fe8af27225f46cfbaba28b467c29b777ff953e"), looks := true }, kinds := [], alts := [], laidByText := true, laidKinds := [.data, .data, .data, .data, .sentinel, .sentinel, .pinned], laidTests := true, laidLooks := .later }
def CondOrderCardSaid : Prop := Claim7.holds Tryd.pinned (.plain (OpenSpec.ofChange condOrderSpec)) condOrderCard

/-- THE TIED CARD OF 'calepinlaw08.HttpShort'. -/
def httpShortCard : Claim7 := { stood := { row := httpShortRow, standIns := [], harness := (true, "e71c48230232e8cc18c68f93d5fe8af27225f46cfbaba28b467c29b777ff953e"), looks := true }, kinds := [], alts := [], laidByText := true, laidKinds := [.data, .data, .data, .data, .sentinel, .sentinel, .pinned], laidTests := true, laidLooks := .later }
def HttpShortCardSaid : Prop := Claim7.holds Tryd.pinned (.plain (OpenSpec.ofChange httpShortSpec)) httpShortCard

/-- THE TIED CARD OF 'calepinlaw08.HttpPieces'. -/
def httpPiecesCard : Claim7 := { stood := { row := httpPiecesRow, standIns := [], harness := (true, "e71c48230232e8cc18c68f93d5fe8af27225f46cfbaba28b467c29b777ff953e"), looks := true }, kinds := [], alts := [], laidByText := true, laidKinds := [.data, .data, .data, .data, .sentinel, .sentinel, .pinned], laidTests := true, laidLooks := .later }
def HttpPiecesCardSaid : Prop := Claim7.holds Tryd.pinned (.plain (OpenSpec.ofChange httpPiecesSpec)) httpPiecesCard

/-- THE TIED CARD OF 'calepinlaw08.HttpFields'. -/
def httpFieldsCard : Claim7 := { stood := { row := httpFieldsRow, standIns := [], harness := (true, "e71c48230232e8cc18c68f93d5fe8af27225f46cfbaba28b467c29b777ff953e"), looks := true }, kinds := [], alts := [], laidByText := true, laidKinds := [.data, .data, .data, .data, .sentinel, .sentinel, .pinned], laidTests := true, laidLooks := .later }
def HttpFieldsCardSaid : Prop := Claim7.holds Tryd.pinned (.plain (OpenSpec.ofChange httpFieldsSpec)) httpFieldsCard

/-- THE TIED CARD OF 'calepinlaw08.HttpGets'. -/
def httpGetsCard : Claim7 := { stood := { row := httpGetsRow, standIns := [], harness := (true, "e71c48230232e8cc18c68f93d5fe8af27225f46cfbaba28b467c29b777ff953e"), looks := true }, kinds := [], alts := [], laidByText := true, laidKinds := [.data, .data, .data, .data, .sentinel, .sentinel, .pinned], laidTests := true, laidLooks := .later }
def HttpGetsCardSaid : Prop := Claim7.holds Tryd.pinned (.plain (OpenSpec.ofChange httpGetsSpec)) httpGetsCard

/-- THE SECOND FORM's CARD OF 'calepinlaw01.CharPieces'. -/
def charPiecesUptoCard : Claim7 := { stood := { row := charPiecesUptoRow, standIns := [], harness := (true, "e71c48230232e8cc18c68f93d5fe8af27225f46cfbaba28b467c29b777ff953e"), looks := true }, kinds := [], alts := [], laidByText := true, laidKinds := [.data, .data, .data, .data, .sentinel, .sentinel, .pinned], laidTests := true, laidLooks := .later }
def CharPiecesUptoCardSaid : Prop := Claim7.holds Tryd.pinned (.plain (OpenSpec.upto charPiecesSpec)) charPiecesUptoCard

/-- THE SECOND FORM's CARD OF 'calepinlaw01.CharTexts'. -/
def charTextsUptoCard : Claim7 := { stood := { row := charTextsUptoRow, standIns := [], harness := (true, "e71c48230232e8cc18c68f93d5fe8af27225f46cfbaba28b467c29b777ff953e"), looks := true }, kinds := [], alts := [], laidByText := true, laidKinds := [.data, .data, .data, .data, .sentinel, .sentinel, .pinned], laidTests := true, laidLooks := .later }
def CharTextsUptoCardSaid : Prop := Claim7.holds Tryd.pinned (.plain (OpenSpec.upto charTextsSpec)) charTextsUptoCard

/-- THE SECOND FORM's CARD OF 'calepinlaw01.CharJoins'. -/
def charJoinsUptoCard : Claim7 := { stood := { row := charJoinsUptoRow, standIns := [], harness := (true, "e71c48230232e8cc18c68f93d5fe8af27225f46cfbaba28b467c29b777ff953e"), looks := true }, kinds := [], alts := [], laidByText := true, laidKinds := [.data, .data, .data, .data, .sentinel, .sentinel, .pinned], laidTests := true, laidLooks := .later }
def CharJoinsUptoCardSaid : Prop := Claim7.holds Tryd.pinned (.plain (OpenSpec.upto charJoinsSpec)) charJoinsUptoCard

/-- THE SECOND FORM's CARD OF 'calepinlaw01.CharNumbers'. -/
def charNumbersUptoCard : Claim7 := { stood := { row := charNumbersUptoRow, standIns := [], harness := (true, "e71c48230232e8cc18c68f93d5fe8af27225f46cfbaba28b467c29b777ff953e"), looks := true }, kinds := [], alts := [], laidByText := true, laidKinds := [.data, .data, .data, .data, .sentinel, .sentinel, .pinned], laidTests := true, laidLooks := .later }
def CharNumbersUptoCardSaid : Prop := Claim7.holds Tryd.pinned (.plain (OpenSpec.upto charNumbersSpec)) charNumbersUptoCard

/-- THE SECOND FORM's CARD OF 'calepinlaw01.CharOrder'. -/
def charOrderUptoCard : Claim7 := { stood := { row := charOrderUptoRow, standIns := [], harness := (true, "e71c48230232e8cc18c68f93d5fe8af27225f46cfbaba28b467c29b777ff953e"), looks := true }, kinds := [], alts := [], laidByText := true, laidKinds := [.data, .data, .data, .data, .sentinel, .sentinel, .pinned], laidTests := true, laidLooks := .later }
def CharOrderUptoCardSaid : Prop := Claim7.holds Tryd.pinned (.plain (OpenSpec.upto charOrderSpec)) charOrderUptoCard

/-- THE SECOND FORM's CARD OF 'calepinlaw11.TokenWrites'. -/
def tokenWritesUptoCard : Claim7 := { stood := { row := tokenWritesUptoRow, standIns := [], harness := (true, "e71c48230232e8cc18c68f93d5fe8af27225f46cfbaba28b467c29b777ff953e"), looks := true }, kinds := [], alts := [], laidByText := true, laidKinds := [.data, .data, .data, .data, .sentinel, .sentinel, .pinned], laidTests := true, laidLooks := .later }
def TokenWritesUptoCardSaid : Prop := Claim7.holds Tryd.pinned (.plain (OpenSpec.upto tokenWritesSpec)) tokenWritesUptoCard

/-- THE SECOND FORM's CARD OF 'calepinlaw11.TokenReads'. -/
def tokenReadsUptoCard : Claim7 := { stood := { row := tokenReadsUptoRow, standIns := [], harness := (true, "e71c48230232e8cc18c68f93d5fe8af27225f46cfbaba28b467c29b777ff953e"), looks := true }, kinds := [], alts := [], laidByText := true, laidKinds := [.data, .data, .data, .data, .sentinel, .sentinel, .pinned], laidTests := true, laidLooks := .later }
def TokenReadsUptoCardSaid : Prop := Claim7.holds Tryd.pinned (.plain (OpenSpec.upto tokenReadsSpec)) tokenReadsUptoCard

/-- THE SECOND FORM's CARD OF 'calepinlaw11.TokenApart'. -/
def tokenApartUptoCard : Claim7 := { stood := { row := tokenApartUptoRow, standIns := [], harness := (true, "e71c48230232e8cc18c68f93d5fe8af27225f46cfbaba28b467c29b777ff953e"), looks := true }, kinds := [], alts := [], laidByText := true, laidKinds := [.data, .data, .data, .data, .sentinel, .sentinel, .pinned], laidTests := true, laidLooks := .later }
def TokenApartUptoCardSaid : Prop := Claim7.holds Tryd.pinned (.plain (OpenSpec.upto tokenApartSpec)) tokenApartUptoCard

/-- THE SECOND FORM's CARD OF 'calepinlaw11.TokenChecks'. -/
def tokenChecksUptoCard : Claim7 := { stood := { row := tokenChecksUptoRow, standIns := [], harness := (true, "e71c48230232e8cc18c68f93d5fe8af27225f46cfbaba28b467c29b777ff953e"), looks := true }, kinds := [], alts := [], laidByText := true, laidKinds := [.data, .data, .data, .data, .sentinel, .sentinel, .pinned], laidTests := true, laidLooks := .later }
def TokenChecksUptoCardSaid : Prop := Claim7.holds Tryd.pinned (.plain (OpenSpec.upto tokenChecksSpec)) tokenChecksUptoCard

/-- THE SECOND FORM's CARD OF 'calepinlaw10.CondTags'. -/
def condTagsUptoCard : Claim7 := { stood := { row := condTagsUptoRow, standIns := [], harness := (true, "e71c48230232e8cc18c68f93d5fe8af27225f46cfbaba28b467c29b777ff953e"), looks := true }, kinds := [], alts := [], laidByText := true, laidKinds := [.data, .data, .data, .data, .sentinel, .sentinel, .pinned], laidTests := true, laidLooks := .later }
def CondTagsUptoCardSaid : Prop := Claim7.holds Tryd.pinned (.plain (OpenSpec.upto condTagsSpec)) condTagsUptoCard

/-- THE SECOND FORM's CARD OF 'calepinlaw10.CondHolds'. -/
def condHoldsUptoCard : Claim7 := { stood := { row := condHoldsUptoRow, standIns := [], harness := (true, "e71c48230232e8cc18c68f93d5fe8af27225f46cfbaba28b467c29b777ff953e"), looks := true }, kinds := [], alts := [], laidByText := true, laidKinds := [.data, .data, .data, .data, .sentinel, .sentinel, .pinned], laidTests := true, laidLooks := .later }
def CondHoldsUptoCardSaid : Prop := Claim7.holds Tryd.pinned (.plain (OpenSpec.upto condHoldsSpec)) condHoldsUptoCard

/-- THE SECOND FORM's CARD OF 'calepinlaw10.CondTwins'. -/
def condTwinsUptoCard : Claim7 := { stood := { row := condTwinsUptoRow, standIns := [], harness := (true, "e71c48230232e8cc18c68f93d5fe8af27225f46cfbaba28b467c29b777ff953e"), looks := true }, kinds := [], alts := [], laidByText := true, laidKinds := [.data, .data, .data, .data, .sentinel, .sentinel, .pinned], laidTests := true, laidLooks := .later }
def CondTwinsUptoCardSaid : Prop := Claim7.holds Tryd.pinned (.plain (OpenSpec.upto condTwinsSpec)) condTwinsUptoCard

/-- THE SECOND FORM's CARD OF 'calepinlaw10.CondOrder'. -/
def condOrderUptoCard : Claim7 := { stood := { row := condOrderUptoRow, standIns := [], harness := (true, "e71c48230232e8cc18c68f93d5fe8af27225f46cfbaba28b467c29b777ff953e"), looks := true }, kinds := [], alts := [], laidByText := true, laidKinds := [.data, .data, .data, .data, .sentinel, .sentinel, .pinned], laidTests := true, laidLooks := .later }
def CondOrderUptoCardSaid : Prop := Claim7.holds Tryd.pinned (.plain (OpenSpec.upto condOrderSpec)) condOrderUptoCard

/-- THE SECOND FORM's CARD OF 'calepinlaw08.HttpShort'. -/
def httpShortUptoCard : Claim7 := { stood := { row := httpShortUptoRow, standIns := [], harness := (true, "e71c48230232e8cc18c68f93d5fe8af27225f46cfbaba28b467c29b777ff953e"), looks := true }, kinds := [], alts := [], laidByText := true, laidKinds := [.data, .data, .data, .data, .sentinel, .sentinel, .pinned], laidTests := true, laidLooks := .later }
def HttpShortUptoCardSaid : Prop := Claim7.holds Tryd.pinned (.plain (OpenSpec.upto httpShortSpec)) httpShortUptoCard

/-- THE SECOND FORM's CARD OF 'calepinlaw08.HttpPieces'. -/
def httpPiecesUptoCard : Claim7 := { stood := { row := httpPiecesUptoRow, standIns := [], harness := (true, "e71c48230232e8cc18c68f93d5fe8af27225f46cfbaba28b467c29b777ff953e"), looks := true }, kinds := [], alts := [], laidByText := true, laidKinds := [.data, .data, .data, .data, .sentinel, .sentinel, .pinned], laidTests := true, laidLooks := .later }
def HttpPiecesUptoCardSaid : Prop := Claim7.holds Tryd.pinned (.plain (OpenSpec.upto httpPiecesSpec)) httpPiecesUptoCard

/-- THE SECOND FORM's CARD OF 'calepinlaw08.HttpFields'. -/
def httpFieldsUptoCard : Claim7 := { stood := { row := httpFieldsUptoRow, standIns := [], harness := (true, "e71c48230232e8cc18c68f93d5fe8af27225f46cfbaba28b467c29b777ff953e"), looks := true }, kinds := [], alts := [], laidByText := true, laidKinds := [.data, .data, .data, .data, .sentinel, .sentinel, .pinned], laidTests := true, laidLooks := .later }
def HttpFieldsUptoCardSaid : Prop := Claim7.holds Tryd.pinned (.plain (OpenSpec.upto httpFieldsSpec)) httpFieldsUptoCard

/-- THE SECOND FORM's CARD OF 'calepinlaw08.HttpGets'. -/
def httpGetsUptoCard : Claim7 := { stood := { row := httpGetsUptoRow, standIns := [], harness := (true, "e71c48230232e8cc18c68f93d5fe8af27225f46cfbaba28b467c29b777ff953e"), looks := true }, kinds := [], alts := [], laidByText := true, laidKinds := [.data, .data, .data, .data, .sentinel, .sentinel, .pinned], laidTests := true, laidLooks := .later }
def HttpGetsUptoCardSaid : Prop := Claim7.holds Tryd.pinned (.plain (OpenSpec.upto httpGetsSpec)) httpGetsUptoCard
end Rows
end Go.Proofs.YtpedfpeokedelaaDoor
