/-
  DERIVED. GIVEN WITH THE SEED: THE CARDS: each row of YtclollnicbcooaaDoorRows.lean that lists a variable, with what it lists TIED to the program's text (the seventh form; the later family's looks); each row that meets fmt, with fmt's text TOLD by the authors' own Lean function (tested against real Go, not proved from fmt's source: count such statements apart). THE CARD IS WHAT COUNTS. Prove the row's statement (the work); the ties are given (YtclollnicbcooaaDoorTie.lean); close each card by the builder's one call (the guide's Derived/Test/ToyasCard.lean, 'card_holds'). Laid BY PROGRAM, IN A SANDBOX (cutbox-door.mjs). By AI agents, Wed Nov 11 2026. No macro, syntax, notation, axiom, sorry.
-/
import Derived.Test.YtclollnicbcooaaDoorRows
import GoSem.ClaimSeven
namespace Go.Proofs.YtclollnicbcooaaDoor
namespace Rows

/-- THE TIED CARD OF 'syntagmlaw14.StatesItems'. -/
def statesItemsCard : Claim7 := { stood := { row := statesItemsRow, standIns := [], harness := (true, "fee7bc1a4326af851ce6f3dfc06363902645237b8d2c32ed05c8db18cd7326c8"), looks := false }, kinds := [], alts := [], laidByText := true, laidKinds := [.data, .data, .data], laidTests := true, laidLooks := .later }
def StatesItemsCardSaid : Prop := Claim7.holds Tryd.pinned (.plain (OpenSpec.ofChange statesItemsSpec)) statesItemsCard

/-- THE TIED CARD OF 'syntagmlaw14.StatesBuild'. -/
def statesBuildCard : Claim7 := { stood := { row := statesBuildRow, standIns := [], harness := (true, "fee7bc1a4326af851ce6f3dfc06363902645237b8d2c32ed05c8db18cd7326c8"), looks := false }, kinds := [], alts := [], laidByText := true, laidKinds := [.data, .data, .data], laidTests := true, laidLooks := .later }
def StatesBuildCardSaid : Prop := Claim7.holds Tryd.pinned (.plain (OpenSpec.ofChange statesBuildSpec)) statesBuildCard

/-- THE TIED CARD OF 'syntagmlaw14.StatesClosed'. -/
def statesClosedCard : Claim7 := { stood := { row := statesClosedRow, standIns := [], harness := (true, "fee7bc1a4326af851ce6f3dfc06363902645237b8d2c32ed05c8db18cd7326c8"), looks := false }, kinds := [], alts := [], laidByText := true, laidKinds := [.data, .data, .data], laidTests := true, laidLooks := .later }
def StatesClosedCardSaid : Prop := Claim7.holds Tryd.pinned (.plain (OpenSpec.ofChange statesClosedSpec)) statesClosedCard

/-- THE TIED CARD OF 'syntagmlaw14.StatesAhead'. -/
def statesAheadCard : Claim7 := { stood := { row := statesAheadRow, standIns := [], harness := (true, "fee7bc1a4326af851ce6f3dfc06363902645237b8d2c32ed05c8db18cd7326c8"), looks := false }, kinds := [], alts := [], laidByText := true, laidKinds := [.data, .data, .data], laidTests := true, laidLooks := .later }
def StatesAheadCardSaid : Prop := Claim7.holds Tryd.pinned (.plain (OpenSpec.ofChange statesAheadSpec)) statesAheadCard

/-- THE TIED CARD OF 'syntagmlaw14.StatesSteps'. -/
def statesStepsCard : Claim7 := { stood := { row := statesStepsRow, standIns := [], harness := (true, "fee7bc1a4326af851ce6f3dfc06363902645237b8d2c32ed05c8db18cd7326c8"), looks := false }, kinds := [], alts := [], laidByText := true, laidKinds := [.data, .data, .data], laidTests := true, laidLooks := .later }
def StatesStepsCardSaid : Prop := Claim7.holds Tryd.pinned (.plain (OpenSpec.ofChange statesStepsSpec)) statesStepsCard

/-- THE TIED CARD OF 'syntagmlaw14.StatesMore'. -/
def statesMoreCard : Claim7 := { stood := { row := statesMoreRow, standIns := [], harness := (true, "fee7bc1a4326af851ce6f3dfc06363902645237b8d2c32ed05c8db18cd7326c8"), looks := false }, kinds := [], alts := [], laidByText := true, laidKinds := [.data, .data, .data], laidTests := true, laidLooks := .later }
def StatesMoreCardSaid : Prop := Claim7.holds Tryd.pinned (.plain (OpenSpec.ofChange statesMoreSpec)) statesMoreCard

/-- THE TIED CARD OF 'syntagmlaw15.LookEmpty'. -/
def lookEmptyCard : Claim7 := { stood := { row := lookEmptyRow, standIns := [], harness := (true, "fee7bc1a4326af851ce6f3dfc06363902645237b8d2c32ed05c8db18cd7326c8"), looks := false }, kinds := [], alts := [], laidByText := true, laidKinds := [.data, .data, .data], laidTests := true, laidLooks := .later }
def LookEmptyCardSaid : Prop := Claim7.holds Tryd.pinned (.plain (OpenSpec.ofChange lookEmptySpec)) lookEmptyCard

/-- THE TIED CARD OF 'syntagmlaw15.LookBegins'. -/
def lookBeginsCard : Claim7 := { stood := { row := lookBeginsRow, standIns := [], harness := (true, "fee7bc1a4326af851ce6f3dfc06363902645237b8d2c32ed05c8db18cd7326c8"), looks := false }, kinds := [], alts := [], laidByText := true, laidKinds := [.data, .data, .data], laidTests := true, laidLooks := .later }
def LookBeginsCardSaid : Prop := Claim7.holds Tryd.pinned (.plain (OpenSpec.ofChange lookBeginsSpec)) lookBeginsCard

/-- THE TIED CARD OF 'syntagmlaw15.LookFollows'. -/
def lookFollowsCard : Claim7 := { stood := { row := lookFollowsRow, standIns := [], harness := (true, "fee7bc1a4326af851ce6f3dfc06363902645237b8d2c32ed05c8db18cd7326c8"), looks := false }, kinds := [], alts := [], laidByText := true, laidKinds := [.data, .data, .data], laidTests := true, laidLooks := .later }
def LookFollowsCardSaid : Prop := Claim7.holds Tryd.pinned (.plain (OpenSpec.ofChange lookFollowsSpec)) lookFollowsCard

/-- THE SECOND FORM's CARD OF 'syntagmlaw14.StatesItems'. -/
def statesItemsUptoCard : Claim7 := { stood := { row := statesItemsUptoRow, standIns := [], harness := (true, "fee7bc1a4326af851ce6f3dfc06363902645237b8d2c32ed05c8db18cd7326c8"), looks := false }, kinds := [], alts := [], laidByText := true, laidKinds := [.data, .data, .data], laidTests := true, laidLooks := .later }
def StatesItemsUptoCardSaid : Prop := Claim7.holds Tryd.pinned (.plain (OpenSpec.upto statesItemsSpec)) statesItemsUptoCard

/-- THE SECOND FORM's CARD OF 'syntagmlaw14.StatesBuild'. -/
def statesBuildUptoCard : Claim7 := { stood := { row := statesBuildUptoRow, standIns := [], harness := (true, "fee7bc1a4326af851ce6f3dfc06363902645237b8d2c32ed05c8db18cd7326c8"), looks := false }, kinds := [], alts := [], laidByText := true, laidKinds := [.data, .data, .data], laidTests := true, laidLooks := .later }
def StatesBuildUptoCardSaid : Prop := Claim7.holds Tryd.pinned (.plain (OpenSpec.upto statesBuildSpec)) statesBuildUptoCard

/-- THE SECOND FORM's CARD OF 'syntagmlaw14.StatesClosed'. -/
def statesClosedUptoCard : Claim7 := { stood := { row := statesClosedUptoRow, standIns := [], harness := (true, "fee7bc1a4326af851ce6f3dfc06363902645237b8d2c32ed05c8db18cd7326c8"), looks := false }, kinds := [], alts := [], laidByText := true, laidKinds := [.data, .data, .data], laidTests := true, laidLooks := .later }
def StatesClosedUptoCardSaid : Prop := Claim7.holds Tryd.pinned (.plain (OpenSpec.upto statesClosedSpec)) statesClosedUptoCard

/-- THE SECOND FORM's CARD OF 'syntagmlaw14.StatesAhead'. -/
def statesAheadUptoCard : Claim7 := { stood := { row := statesAheadUptoRow, standIns := [], harness := (true, "fee7bc1a4326af851ce6f3dfc06363902645237b8d2c32ed05c8db18cd7326c8"), looks := false }, kinds := [], alts := [], laidByText := true, laidKinds := [.data, .data, .data], laidTests := true, laidLooks := .later }
def StatesAheadUptoCardSaid : Prop := Claim7.holds Tryd.pinned (.plain (OpenSpec.upto statesAheadSpec)) statesAheadUptoCard

/-- THE SECOND FORM's CARD OF 'syntagmlaw14.StatesSteps'. -/
def statesStepsUptoCard : Claim7 := { stood := { row := statesStepsUptoRow, standIns := [], harness := (true, "fee7bc1a4326af851ce6f3dfc06363902645237b8d2c32ed05c8db18cd7326c8"), looks := false }, kinds := [], alts := [], laidByText := true, laidKinds := [.data, .data, .data], laidTests := true, laidLooks := .later }
def StatesStepsUptoCardSaid : Prop := Claim7.holds Tryd.pinned (.plain (OpenSpec.upto statesStepsSpec)) statesStepsUptoCard

/-- THE SECOND FORM's CARD OF 'syntagmlaw14.StatesMore'. -/
def statesMoreUptoCard : Claim7 := { stood := { row := statesMoreUptoRow, standIns := [], harness := (true, "fee7bc1a4326af851ce6f3dfc06363902645237b8d2c32ed05c8db18cd7326c8"), looks := false }, kinds := [], alts := [], laidByText := true, laidKinds := [.data, .data, .data], laidTests := true, laidLooks := .later }
def StatesMoreUptoCardSaid : Prop := Claim7.holds Tryd.pinned (.plain (OpenSpec.upto statesMoreSpec)) statesMoreUptoCard

/-- THE SECOND FORM's CARD OF 'syntagmlaw15.LookEmpty'. -/
def lookEmptyUptoCard : Claim7 := { stood := { row := lookEmptyUptoRow, standIns := [], harness := (true, "fee7bc1a4326af851ce6f3dfc06363902645237b8d2c32ed05c8db18cd7326c8"), looks := false }, kinds := [], alts := [], laidByText := true, laidKinds := [.data, .data, .data], laidTests := true, laidLooks := .later }
def LookEmptyUptoCardSaid : Prop := Claim7.holds Tryd.pinned (.plain (OpenSpec.upto lookEmptySpec)) lookEmptyUptoCard

/-- THE SECOND FORM's CARD OF 'syntagmlaw15.LookBegins'. -/
def lookBeginsUptoCard : Claim7 := { stood := { row := lookBeginsUptoRow, standIns := [], harness := (true, "fee7bc1a4326af851ce6f3dfc06363902645237b8d2c32ed05c8db18cd7326c8"), looks := false }, kinds := [], alts := [], laidByText := true, laidKinds := [.data, .data, .data], laidTests := true, laidLooks := .later }
def LookBeginsUptoCardSaid : Prop := Claim7.holds Tryd.pinned (.plain (OpenSpec.upto lookBeginsSpec)) lookBeginsUptoCard

/-- THE SECOND FORM's CARD OF 'syntagmlaw15.LookFollows'. -/
def lookFollowsUptoCard : Claim7 := { stood := { row := lookFollowsUptoRow, standIns := [], harness := (true, "fee7bc1a4326af851ce6f3dfc06363902645237b8d2c32ed05c8db18cd7326c8"), looks := false }, kinds := [], alts := [], laidByText := true, laidKinds := [.data, .data, .data], laidTests := true, laidLooks := .later }
def LookFollowsUptoCardSaid : Prop := Claim7.holds Tryd.pinned (.plain (OpenSpec.upto lookFollowsSpec)) lookFollowsUptoCard
end Rows
end Go.Proofs.YtclollnicbcooaaDoor
