/-
  DERIVED. GIVEN WITH THE SEED: THE CARDS: each row of YtknkgponjjghcaaDoorRows.lean that lists a variable, with what it lists TIED to the program's text (the seventh form; the later family's looks); each row that meets fmt, with fmt's text TOLD by the authors' own Lean function (tested against real Go, not proved from fmt's source: count such statements apart). THE CARD IS WHAT COUNTS. Prove the row's statement (the work); the ties are given (YtknkgponjjghcaaDoorTie.lean); close each card by the builder's one call (the guide's Derived/Test/ToyasCard.lean, 'card_holds'). Laid BY PROGRAM, IN A SANDBOX (cutbox-door.mjs). By AI agents, Wed Nov 11 2026. No macro, syntax, notation, axiom, sorry.
-/
import Derived.Test.YtknkgponjjghcaaDoorRows
import GoSem.ClaimSeven
namespace Go.Proofs.YtknkgponjjghcaaDoor
namespace Rows

/-- THE TIED CARD OF 'syntagmlaw01.BitsTell'. -/
def bitsTellCard : Claim7 := { stood := { row := bitsTellRow, standIns := [], harness := (true, "e99830c834cdf8242982fbbd05955c74c3ec29984f2d849d5cec8c34688418b0"), looks := false }, kinds := [], alts := [], laidByText := true, laidKinds := [.data], laidTests := true, laidLooks := .later }
def BitsTellCardSaid : Prop := Claim7.holds Tryd.pinned (.plain (OpenSpec.ofChange bitsTellSpec)) bitsTellCard

/-- THE TIED CARD OF 'syntagmlaw01.BitsAll'. -/
def bitsAllCard : Claim7 := { stood := { row := bitsAllRow, standIns := [], harness := (true, "e99830c834cdf8242982fbbd05955c74c3ec29984f2d849d5cec8c34688418b0"), looks := false }, kinds := [], alts := [], laidByText := true, laidKinds := [.data], laidTests := true, laidLooks := .later }
def BitsAllCardSaid : Prop := Claim7.holds Tryd.pinned (.plain (OpenSpec.ofChange bitsAllSpec)) bitsAllCard

/-- THE TIED CARD OF 'syntagmlaw01.BitsLaws'. -/
def bitsLawsCard : Claim7 := { stood := { row := bitsLawsRow, standIns := [], harness := (true, "e99830c834cdf8242982fbbd05955c74c3ec29984f2d849d5cec8c34688418b0"), looks := false }, kinds := [], alts := [], laidByText := true, laidKinds := [.data], laidTests := true, laidLooks := .later }
def BitsLawsCardSaid : Prop := Claim7.holds Tryd.pinned (.plain (OpenSpec.ofChange bitsLawsSpec)) bitsLawsCard

/-- THE TIED CARD OF 'syntagmlaw01.BitsBack'. -/
def bitsBackCard : Claim7 := { stood := { row := bitsBackRow, standIns := [], harness := (true, "e99830c834cdf8242982fbbd05955c74c3ec29984f2d849d5cec8c34688418b0"), looks := false }, kinds := [], alts := [], laidByText := true, laidKinds := [.data], laidTests := true, laidLooks := .later }
def BitsBackCardSaid : Prop := Claim7.holds Tryd.pinned (.plain (OpenSpec.ofChange bitsBackSpec)) bitsBackCard

/-- THE TIED CARD OF 'syntagmlaw01.BitsFirst'. -/
def bitsFirstCard : Claim7 := { stood := { row := bitsFirstRow, standIns := [], harness := (true, "e99830c834cdf8242982fbbd05955c74c3ec29984f2d849d5cec8c34688418b0"), looks := false }, kinds := [], alts := [], laidByText := true, laidKinds := [.data], laidTests := true, laidLooks := .later }
def BitsFirstCardSaid : Prop := Claim7.holds Tryd.pinned (.plain (OpenSpec.ofChange bitsFirstSpec)) bitsFirstCard

/-- THE SECOND FORM's CARD OF 'syntagmlaw01.BitsTell'. -/
def bitsTellUptoCard : Claim7 := { stood := { row := bitsTellUptoRow, standIns := [], harness := (true, "e99830c834cdf8242982fbbd05955c74c3ec29984f2d849d5cec8c34688418b0"), looks := false }, kinds := [], alts := [], laidByText := true, laidKinds := [.data], laidTests := true, laidLooks := .later }
def BitsTellUptoCardSaid : Prop := Claim7.holds Tryd.pinned (.plain (OpenSpec.upto bitsTellSpec)) bitsTellUptoCard

/-- THE SECOND FORM's CARD OF 'syntagmlaw01.BitsAll'. -/
def bitsAllUptoCard : Claim7 := { stood := { row := bitsAllUptoRow, standIns := [], harness := (true, "e99830c834cdf8242982fbbd05955c74c3ec29984f2d849d5cec8c34688418b0"), looks := false }, kinds := [], alts := [], laidByText := true, laidKinds := [.data], laidTests := true, laidLooks := .later }
def BitsAllUptoCardSaid : Prop := Claim7.holds Tryd.pinned (.plain (OpenSpec.upto bitsAllSpec)) bitsAllUptoCard

/-- THE SECOND FORM's CARD OF 'syntagmlaw01.BitsLaws'. -/
def bitsLawsUptoCard : Claim7 := { stood := { row := bitsLawsUptoRow, standIns := [], harness := (true, "e99830c834cdf8242982fbbd05955c74c3ec29984f2d849d5cec8c34688418b0"), looks := false }, kinds := [], alts := [], laidByText := true, laidKinds := [.data], laidTests := true, laidLooks := .later }
def BitsLawsUptoCardSaid : Prop := Claim7.holds Tryd.pinned (.plain (OpenSpec.upto bitsLawsSpec)) bitsLawsUptoCard

/-- THE SECOND FORM's CARD OF 'syntagmlaw01.BitsBack'. -/
def bitsBackUptoCard : Claim7 := { stood := { row := bitsBackUptoRow, standIns := [], harness := (true, "e99830c834cdf8242982fbbd05955c74c3ec29984f2d849d5cec8c34688418b0"), looks := false }, kinds := [], alts := [], laidByText := true, laidKinds := [.data], laidTests := true, laidLooks := .later }
def BitsBackUptoCardSaid : Prop := Claim7.holds Tryd.pinned (.plain (OpenSpec.upto bitsBackSpec)) bitsBackUptoCard

/-- THE SECOND FORM's CARD OF 'syntagmlaw01.BitsFirst'. -/
def bitsFirstUptoCard : Claim7 := { stood := { row := bitsFirstUptoRow, standIns := [], harness := (true, "e99830c834cdf8242982fbbd05955c74c3ec29984f2d849d5cec8c34688418b0"), looks := false }, kinds := [], alts := [], laidByText := true, laidKinds := [.data], laidTests := true, laidLooks := .later }
def BitsFirstUptoCardSaid : Prop := Claim7.holds Tryd.pinned (.plain (OpenSpec.upto bitsFirstSpec)) bitsFirstUptoCard
end Rows
end Go.Proofs.YtknkgponjjghcaaDoor
