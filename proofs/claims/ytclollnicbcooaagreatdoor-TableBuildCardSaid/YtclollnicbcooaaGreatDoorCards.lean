/-
  DERIVED. GIVEN WITH THE SEED: THE CARDS: each row of YtclollnicbcooaaGreatDoorRows.lean that lists a variable, with what it lists TIED to the program's text (the seventh form; the later family's looks); each row that meets fmt, with fmt's text TOLD by the authors' own Lean function (tested against real Go, not proved from fmt's source: count such statements apart). THE CARD IS WHAT COUNTS. Prove the row's statement (the work); the ties are given (YtclollnicbcooaaGreatDoorTie.lean); close each card by the builder's one call (the guide's Derived/Test/ToyasCard.lean, 'card_holds'). Laid BY PROGRAM, IN A SANDBOX (cutbox-door.mjs). By AI agents, Wed Nov 11 2026. No macro, syntax, notation, axiom, sorry.
-/
import Derived.Test.YtclollnicbcooaaGreatDoorRows
import GoSem.ClaimSeven
namespace Go.Proofs.YtclollnicbcooaaGreatDoor
namespace Rows

/-- THE TIED CARD OF 'syntagmlaw16.TableBuild'. -/
def tableBuildCard : Claim7 := { stood := { row := tableBuildRow, standIns := [], harness := (true, "b6066eab590a89812e57c1deda4fa3ff036164ebc05eafeae8ec2318bd0ddc2a"), looks := false }, kinds := [], alts := [], laidByText := true, laidKinds := [.data, .data, .data], laidTests := true, laidLooks := .later }
def TableBuildCardSaid : Prop := Claim7.holds Tryz.pinned (.plain (OpenSpec.ofChange tableBuildSpec)) tableBuildCard

/-- THE TIED CARD OF 'syntagmlaw16.TableAccepts'. -/
def tableAcceptsCard : Claim7 := { stood := { row := tableAcceptsRow, standIns := [], harness := (true, "b6066eab590a89812e57c1deda4fa3ff036164ebc05eafeae8ec2318bd0ddc2a"), looks := false }, kinds := [], alts := [], laidByText := true, laidKinds := [.data, .data, .data], laidTests := true, laidLooks := .later }
def TableAcceptsCardSaid : Prop := Claim7.holds Tryz.pinned (.plain (OpenSpec.ofChange tableAcceptsSpec)) tableAcceptsCard

/-- THE TIED CARD OF 'syntagmlaw16.TableLonger'. -/
def tableLongerCard : Claim7 := { stood := { row := tableLongerRow, standIns := [], harness := (true, "b6066eab590a89812e57c1deda4fa3ff036164ebc05eafeae8ec2318bd0ddc2a"), looks := false }, kinds := [], alts := [], laidByText := true, laidKinds := [.data, .data, .data], laidTests := true, laidLooks := .later }
def TableLongerCardSaid : Prop := Claim7.holds Tryz.pinned (.plain (OpenSpec.ofChange tableLongerSpec)) tableLongerCard

/-- THE TIED CARD OF 'syntagmlaw16.TableEmpty'. -/
def tableEmptyCard : Claim7 := { stood := { row := tableEmptyRow, standIns := [], harness := (true, "b6066eab590a89812e57c1deda4fa3ff036164ebc05eafeae8ec2318bd0ddc2a"), looks := false }, kinds := [], alts := [], laidByText := true, laidKinds := [.data, .data, .data], laidTests := true, laidLooks := .later }
def TableEmptyCardSaid : Prop := Claim7.holds Tryz.pinned (.plain (OpenSpec.ofChange tableEmptySpec)) tableEmptyCard

/-- THE TIED CARD OF 'syntagmlaw16.TablePrefix'. -/
def tablePrefixCard : Claim7 := { stood := { row := tablePrefixRow, standIns := [], harness := (true, "b6066eab590a89812e57c1deda4fa3ff036164ebc05eafeae8ec2318bd0ddc2a"), looks := false }, kinds := [], alts := [], laidByText := true, laidKinds := [.data, .data, .data], laidTests := true, laidLooks := .later }
def TablePrefixCardSaid : Prop := Claim7.holds Tryz.pinned (.plain (OpenSpec.ofChange tablePrefixSpec)) tablePrefixCard

/-- THE TIED CARD OF 'syntagmlaw16.TableMay'. -/
def tableMayCard : Claim7 := { stood := { row := tableMayRow, standIns := [], harness := (true, "b6066eab590a89812e57c1deda4fa3ff036164ebc05eafeae8ec2318bd0ddc2a"), looks := false }, kinds := [], alts := [], laidByText := true, laidKinds := [.data, .data, .data], laidTests := true, laidLooks := .later }
def TableMayCardSaid : Prop := Claim7.holds Tryz.pinned (.plain (OpenSpec.ofChange tableMaySpec)) tableMayCard

/-- THE SECOND FORM's CARD OF 'syntagmlaw16.TableBuild'. -/
def tableBuildUptoCard : Claim7 := { stood := { row := tableBuildUptoRow, standIns := [], harness := (true, "b6066eab590a89812e57c1deda4fa3ff036164ebc05eafeae8ec2318bd0ddc2a"), looks := false }, kinds := [], alts := [], laidByText := true, laidKinds := [.data, .data, .data], laidTests := true, laidLooks := .later }
def TableBuildUptoCardSaid : Prop := Claim7.holds Tryz.pinned (.plain (OpenSpec.upto tableBuildSpec)) tableBuildUptoCard

/-- THE SECOND FORM's CARD OF 'syntagmlaw16.TableAccepts'. -/
def tableAcceptsUptoCard : Claim7 := { stood := { row := tableAcceptsUptoRow, standIns := [], harness := (true, "b6066eab590a89812e57c1deda4fa3ff036164ebc05eafeae8ec2318bd0ddc2a"), looks := false }, kinds := [], alts := [], laidByText := true, laidKinds := [.data, .data, .data], laidTests := true, laidLooks := .later }
def TableAcceptsUptoCardSaid : Prop := Claim7.holds Tryz.pinned (.plain (OpenSpec.upto tableAcceptsSpec)) tableAcceptsUptoCard

/-- THE SECOND FORM's CARD OF 'syntagmlaw16.TableLonger'. -/
def tableLongerUptoCard : Claim7 := { stood := { row := tableLongerUptoRow, standIns := [], harness := (true, "b6066eab590a89812e57c1deda4fa3ff036164ebc05eafeae8ec2318bd0ddc2a"), looks := false }, kinds := [], alts := [], laidByText := true, laidKinds := [.data, .data, .data], laidTests := true, laidLooks := .later }
def TableLongerUptoCardSaid : Prop := Claim7.holds Tryz.pinned (.plain (OpenSpec.upto tableLongerSpec)) tableLongerUptoCard

/-- THE SECOND FORM's CARD OF 'syntagmlaw16.TableEmpty'. -/
def tableEmptyUptoCard : Claim7 := { stood := { row := tableEmptyUptoRow, standIns := [], harness := (true, "b6066eab590a89812e57c1deda4fa3ff036164ebc05eafeae8ec2318bd0ddc2a"), looks := false }, kinds := [], alts := [], laidByText := true, laidKinds := [.data, .data, .data], laidTests := true, laidLooks := .later }
def TableEmptyUptoCardSaid : Prop := Claim7.holds Tryz.pinned (.plain (OpenSpec.upto tableEmptySpec)) tableEmptyUptoCard

/-- THE SECOND FORM's CARD OF 'syntagmlaw16.TablePrefix'. -/
def tablePrefixUptoCard : Claim7 := { stood := { row := tablePrefixUptoRow, standIns := [], harness := (true, "b6066eab590a89812e57c1deda4fa3ff036164ebc05eafeae8ec2318bd0ddc2a"), looks := false }, kinds := [], alts := [], laidByText := true, laidKinds := [.data, .data, .data], laidTests := true, laidLooks := .later }
def TablePrefixUptoCardSaid : Prop := Claim7.holds Tryz.pinned (.plain (OpenSpec.upto tablePrefixSpec)) tablePrefixUptoCard

/-- THE SECOND FORM's CARD OF 'syntagmlaw16.TableMay'. -/
def tableMayUptoCard : Claim7 := { stood := { row := tableMayUptoRow, standIns := [], harness := (true, "b6066eab590a89812e57c1deda4fa3ff036164ebc05eafeae8ec2318bd0ddc2a"), looks := false }, kinds := [], alts := [], laidByText := true, laidKinds := [.data, .data, .data], laidTests := true, laidLooks := .later }
def TableMayUptoCardSaid : Prop := Claim7.holds Tryz.pinned (.plain (OpenSpec.upto tableMaySpec)) tableMayUptoCard
end Rows
end Go.Proofs.YtclollnicbcooaaGreatDoor
