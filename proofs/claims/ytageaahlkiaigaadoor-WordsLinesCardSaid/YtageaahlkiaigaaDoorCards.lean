/-
  DERIVED. GIVEN WITH THE SEED: THE CARDS: each row of YtageaahlkiaigaaDoorRows.lean that lists a variable, with what it lists TIED to the program's text (the seventh form; the later family's looks); each row that meets fmt, with fmt's text TOLD by the authors' own Lean function (tested against real Go, not proved from fmt's source: count such statements apart). THE CARD IS WHAT COUNTS. Prove the row's statement (the work); the ties are given (YtageaahlkiaigaaDoorTie.lean); close each card by the builder's one call (the guide's Derived/Test/ToyasCard.lean, 'card_holds'). Laid BY PROGRAM, IN A SANDBOX (cutbox-door.mjs). By AI agents, Wed Nov 11 2026. No macro, syntax, notation, axiom, sorry.
-/
import Derived.Test.YtageaahlkiaigaaDoorRows
import GoSem.ClaimSeven
namespace Go.Proofs.YtageaahlkiaigaaDoor
namespace Rows

/-- THE TIED CARD OF 'syntagmlaw08.WordsNames'. -/
def wordsNamesCard : Claim7 := { stood := { row := wordsNamesRow, standIns := [], harness := (true, "655aaf43d7fc428595caa3f2e8c4f31593a3acd00607985173668d87e331d1a0"), looks := true }, kinds := [], alts := [], laidByText := true, laidKinds := [.data, .data, .data, .sentinel, .sentinel], laidTests := true, laidLooks := .later }
def WordsNamesCardSaid : Prop := Claim7.holds Tryd.pinned (.plain (OpenSpec.ofChange wordsNamesSpec)) wordsNamesCard

/-- THE TIED CARD OF 'syntagmlaw08.WordsQuote'. -/
def wordsQuoteCard : Claim7 := { stood := { row := wordsQuoteRow, standIns := [], harness := (true, "655aaf43d7fc428595caa3f2e8c4f31593a3acd00607985173668d87e331d1a0"), looks := true }, kinds := [], alts := [], laidByText := true, laidKinds := [.data, .data, .data, .sentinel, .sentinel], laidTests := true, laidLooks := .later }
def WordsQuoteCardSaid : Prop := Claim7.holds Tryd.pinned (.plain (OpenSpec.ofChange wordsQuoteSpec)) wordsQuoteCard

/-- THE TIED CARD OF 'syntagmlaw08.WordsOrder'. -/
def wordsOrderCard : Claim7 := { stood := { row := wordsOrderRow, standIns := [], harness := (true, "655aaf43d7fc428595caa3f2e8c4f31593a3acd00607985173668d87e331d1a0"), looks := true }, kinds := [], alts := [], laidByText := true, laidKinds := [.data, .data, .data, .sentinel, .sentinel], laidTests := true, laidLooks := .later }
def WordsOrderCardSaid : Prop := Claim7.holds Tryd.pinned (.plain (OpenSpec.ofChange wordsOrderSpec)) wordsOrderCard

/-- THE TIED CARD OF 'syntagmlaw08.WordsLines'. -/
def wordsLinesCard : Claim7 := { stood := { row := wordsLinesRow, standIns := [], harness := (true, "655aaf43d7fc428595caa3f2e8c4f31593a3acd00607985173668d87e331d1a0"), looks := true }, kinds := [], alts := [], laidByText := true, laidKinds := [.data, .data, .data, .sentinel, .sentinel], laidTests := true, laidLooks := .later }
def WordsLinesCardSaid : Prop := Claim7.holds Tryd.pinned (.plain (OpenSpec.ofChange wordsLinesSpec)) wordsLinesCard

/-- THE TIED CARD OF 'syntagmlaw08.WordsSpace'. -/
def wordsSpaceCard : Claim7 := { stood := { row := wordsSpaceRow, standIns := [], harness := (true, "655aaf43d7fc428595caa3f2e8c4f31593a3acd00607985173668d87e331d1a0"), looks := true }, kinds := [], alts := [], laidByText := true, laidKinds := [.data, .data, .data, .sentinel, .sentinel], laidTests := true, laidLooks := .later }
def WordsSpaceCardSaid : Prop := Claim7.holds Tryd.pinned (.plain (OpenSpec.ofChange wordsSpaceSpec)) wordsSpaceCard

/-- THE TIED CARD OF 'syntagmlaw08.WordsNumbers'. -/
def wordsNumbersCard : Claim7 := { stood := { row := wordsNumbersRow, standIns := [], harness := (true, "655aaf43d7fc428595caa3f2e8c4f31593a3acd00607985173668d87e331d1a0"), looks := true }, kinds := [], alts := [], laidByText := true, laidKinds := [.data, .data, .data, .sentinel, .sentinel], laidTests := true, laidLooks := .later }
def WordsNumbersCardSaid : Prop := Claim7.holds Tryd.pinned (.plain (OpenSpec.ofChange wordsNumbersSpec)) wordsNumbersCard

/-- THE SECOND FORM's CARD OF 'syntagmlaw08.WordsNames'. -/
def wordsNamesUptoCard : Claim7 := { stood := { row := wordsNamesUptoRow, standIns := [], harness := (true, "655aaf43d7fc428595caa3f2e8c4f31593a3acd00607985173668d87e331d1a0"), looks := true }, kinds := [], alts := [], laidByText := true, laidKinds := [.data, .data, .data, .sentinel, .sentinel], laidTests := true, laidLooks := .later }
def WordsNamesUptoCardSaid : Prop := Claim7.holds Tryd.pinned (.plain (OpenSpec.upto wordsNamesSpec)) wordsNamesUptoCard

/-- THE SECOND FORM's CARD OF 'syntagmlaw08.WordsQuote'. -/
def wordsQuoteUptoCard : Claim7 := { stood := { row := wordsQuoteUptoRow, standIns := [], harness := (true, "655aaf43d7fc428595caa3f2e8c4f31593a3acd00607985173668d87e331d1a0"), looks := true }, kinds := [], alts := [], laidByText := true, laidKinds := [.data, .data, .data, .sentinel, .sentinel], laidTests := true, laidLooks := .later }
def WordsQuoteUptoCardSaid : Prop := Claim7.holds Tryd.pinned (.plain (OpenSpec.upto wordsQuoteSpec)) wordsQuoteUptoCard

/-- THE SECOND FORM's CARD OF 'syntagmlaw08.WordsOrder'. -/
def wordsOrderUptoCard : Claim7 := { stood := { row := wordsOrderUptoRow, standIns := [], harness := (true, "655aaf43d7fc428595caa3f2e8c4f31593a3acd00607985173668d87e331d1a0"), looks := true }, kinds := [], alts := [], laidByText := true, laidKinds := [.data, .data, .data, .sentinel, .sentinel], laidTests := true, laidLooks := .later }
def WordsOrderUptoCardSaid : Prop := Claim7.holds Tryd.pinned (.plain (OpenSpec.upto wordsOrderSpec)) wordsOrderUptoCard

/-- THE SECOND FORM's CARD OF 'syntagmlaw08.WordsLines'. -/
def wordsLinesUptoCard : Claim7 := { stood := { row := wordsLinesUptoRow, standIns := [], harness := (true, "655aaf43d7fc428595caa3f2e8c4f31593a3acd00607985173668d87e331d1a0"), looks := true }, kinds := [], alts := [], laidByText := true, laidKinds := [.data, .data, .data, .sentinel, .sentinel], laidTests := true, laidLooks := .later }
def WordsLinesUptoCardSaid : Prop := Claim7.holds Tryd.pinned (.plain (OpenSpec.upto wordsLinesSpec)) wordsLinesUptoCard

/-- THE SECOND FORM's CARD OF 'syntagmlaw08.WordsSpace'. -/
def wordsSpaceUptoCard : Claim7 := { stood := { row := wordsSpaceUptoRow, standIns := [], harness := (true, "655aaf43d7fc428595caa3f2e8c4f31593a3acd00607985173668d87e331d1a0"), looks := true }, kinds := [], alts := [], laidByText := true, laidKinds := [.data, .data, .data, .sentinel, .sentinel], laidTests := true, laidLooks := .later }
def WordsSpaceUptoCardSaid : Prop := Claim7.holds Tryd.pinned (.plain (OpenSpec.upto wordsSpaceSpec)) wordsSpaceUptoCard

/-- THE SECOND FORM's CARD OF 'syntagmlaw08.WordsNumbers'. -/
def wordsNumbersUptoCard : Claim7 := { stood := { row := wordsNumbersUptoRow, standIns := [], harness := (true, "655aaf43d7fc428595caa3f2e8c4f31593a3acd00607985173668d87e331d1a0"), looks := true }, kinds := [], alts := [], laidByText := true, laidKinds := [.data, .data, .data, .sentinel, .sentinel], laidTests := true, laidLooks := .later }
def WordsNumbersUptoCardSaid : Prop := Claim7.holds Tryd.pinned (.plain (OpenSpec.upto wordsNumbersSpec)) wordsNumbersUptoCard
end Rows
end Go.Proofs.YtageaahlkiaigaaDoor
