/-
  No cell of these rows narrows 'for every input' (looked for: loops, veiled, ifaces, maps, wideKeys, modest, calm, conditions, laid).
  DERIVED. THE GIVEN ROWS OF THIS SEAT. 7 by the template 'for every input the law returns true; each argument reads behind the call as it read before'; 0 by the template 'total and deterministic' (their statements: YtggfiopajogiiaaTotals.lean).
  GIVEN WITH THE SEED: the statements are not yours to turn. If you find one false, say at which input.
  Laid BY PROGRAM, IN A SANDBOX (cutbox-rows.mjs): the forced cells as the released guide's own fill.sh prints them over the translation 61f56c10d314880f… (all of the seat's roots in one cut). By AI agents, Wed Nov 11 2026. No macro, syntax, notation, axiom, sorry.
-/
import Derived.Test.YtggfiopajogiiaaChecked
import GoSem.Claim
import GoSem.ClaimJoined
import GoSem.ClaimMapViews
import Derived.JoinedTies
import Derived.KernelRfl
namespace Go.Proofs.Ytggfiopajogiiaa
/- THE CELL 'sum', in the pinned program and in every row, IS THE sha256 OF THE DUMP (.gsa) THAT YtggfiopajogiiaaProg.lean LOADS. Nothing in Lean hashes anything: it is a label: what it is worth is what the hold of that sum in a sandbox is worth. -/
noncomputable def Try.pinned : Pinned := { name := "ytggfiopajogiiaa", sum := "61f56c10d314880fe621e2e7d142d850cdb11eca84e57f9b478a5f20bcd6c4c8", checked := Try.checked }
namespace Rows
def none {H : Type} : Left H := { results := [], args := [] }

/-- 'syntagmlaw13.SetsTell': WHATEVER THE INPUT: true; the input reads as it did. -/
def setsTellSpec : ChangeSpec := { name := "setsTell", fn := fun _ => fun
  | [d1, d2, d3] => { results := [.lit (.bool true)], args := [d1, d2, d3] }
  | _ => none }
def setsTellRow : OpenClaim := { program := "ytggfiopajogiiaa", sum := "61f56c10d314880fe621e2e7d142d850cdb11eca84e57f9b478a5f20bcd6c4c8", func := "syntagm/syntagmlaw13.SetsTell", spec := "setsTell", unfollowed := true, recurses := true, apart := false }
def SetsTellSaid : Prop := setsTellRow.holds Try.pinned (OpenSpec.ofChange setsTellSpec)

/-- ITS FALSE NEIGHBOUR: 'it returns false'. Refute it at one input. -/
def setsTellWrong : ChangeSpec := { name := "setsTell", fn := fun _ => fun
  | [d1, d2, d3] => { results := [.lit (.bool false)], args := [d1, d2, d3] }
  | _ => none }
def SetsTellWrongFalsely : Prop := setsTellRow.holds Try.pinned (OpenSpec.ofChange setsTellWrong)

/-- 'syntagmlaw13.SetsRows': WHATEVER THE INPUT: true; the input reads as it did. -/
def setsRowsSpec : ChangeSpec := { name := "setsRows", fn := fun _ => fun
  | [d1, d2, d3, d4] => { results := [.lit (.bool true)], args := [d1, d2, d3, d4] }
  | _ => none }
def setsRowsRow : OpenClaim := { program := "ytggfiopajogiiaa", sum := "61f56c10d314880fe621e2e7d142d850cdb11eca84e57f9b478a5f20bcd6c4c8", func := "syntagm/syntagmlaw13.SetsRows", spec := "setsRows", unfollowed := true, recurses := true, apart := false }
def SetsRowsSaid : Prop := setsRowsRow.holds Try.pinned (OpenSpec.ofChange setsRowsSpec)

/-- ITS FALSE NEIGHBOUR: 'it returns false'. Refute it at one input. -/
def setsRowsWrong : ChangeSpec := { name := "setsRows", fn := fun _ => fun
  | [d1, d2, d3, d4] => { results := [.lit (.bool false)], args := [d1, d2, d3, d4] }
  | _ => none }
def SetsRowsWrongFalsely : Prop := setsRowsRow.holds Try.pinned (OpenSpec.ofChange setsRowsWrong)

/-- 'syntagmlaw13.SetsLive': WHATEVER THE INPUT: true; the input reads as it did. -/
def setsLiveSpec : ChangeSpec := { name := "setsLive", fn := fun _ => fun
  | [d] => { results := [.lit (.bool true)], args := [d] }
  | _ => none }
def setsLiveRow : OpenClaim := { program := "ytggfiopajogiiaa", sum := "61f56c10d314880fe621e2e7d142d850cdb11eca84e57f9b478a5f20bcd6c4c8", func := "syntagm/syntagmlaw13.SetsLive", spec := "setsLive", unfollowed := true, recurses := true, apart := false }
def SetsLiveSaid : Prop := setsLiveRow.holds Try.pinned (OpenSpec.ofChange setsLiveSpec)

/-- ITS FALSE NEIGHBOUR: 'it returns false'. Refute it at one input. -/
def setsLiveWrong : ChangeSpec := { name := "setsLive", fn := fun _ => fun
  | [d] => { results := [.lit (.bool false)], args := [d] }
  | _ => none }
def SetsLiveWrongFalsely : Prop := setsLiveRow.holds Try.pinned (OpenSpec.ofChange setsLiveWrong)

/-- 'syntagmlaw13.SetsAlone': WHATEVER THE INPUT: true; the input reads as it did. -/
def setsAloneSpec : ChangeSpec := { name := "setsAlone", fn := fun _ => fun
  | [d1, d2, d3, d4] => { results := [.lit (.bool true)], args := [d1, d2, d3, d4] }
  | _ => none }
def setsAloneRow : OpenClaim := { program := "ytggfiopajogiiaa", sum := "61f56c10d314880fe621e2e7d142d850cdb11eca84e57f9b478a5f20bcd6c4c8", func := "syntagm/syntagmlaw13.SetsAlone", spec := "setsAlone", unfollowed := true, recurses := true, apart := false }
def SetsAloneSaid : Prop := setsAloneRow.holds Try.pinned (OpenSpec.ofChange setsAloneSpec)

/-- ITS FALSE NEIGHBOUR: 'it returns false'. Refute it at one input. -/
def setsAloneWrong : ChangeSpec := { name := "setsAlone", fn := fun _ => fun
  | [d1, d2, d3, d4] => { results := [.lit (.bool false)], args := [d1, d2, d3, d4] }
  | _ => none }
def SetsAloneWrongFalsely : Prop := setsAloneRow.holds Try.pinned (OpenSpec.ofChange setsAloneWrong)

/-- 'syntagmlaw13.SetsMore': WHATEVER THE INPUT: true; the input reads as it did. -/
def setsMoreSpec : ChangeSpec := { name := "setsMore", fn := fun _ => fun
  | [d1, d2] => { results := [.lit (.bool true)], args := [d1, d2] }
  | _ => none }
def setsMoreRow : OpenClaim := { program := "ytggfiopajogiiaa", sum := "61f56c10d314880fe621e2e7d142d850cdb11eca84e57f9b478a5f20bcd6c4c8", func := "syntagm/syntagmlaw13.SetsMore", spec := "setsMore", unfollowed := true, recurses := true, apart := false }
def SetsMoreSaid : Prop := setsMoreRow.holds Try.pinned (OpenSpec.ofChange setsMoreSpec)

/-- ITS FALSE NEIGHBOUR: 'it returns false'. Refute it at one input. -/
def setsMoreWrong : ChangeSpec := { name := "setsMore", fn := fun _ => fun
  | [d1, d2] => { results := [.lit (.bool false)], args := [d1, d2] }
  | _ => none }
def SetsMoreWrongFalsely : Prop := setsMoreRow.holds Try.pinned (OpenSpec.ofChange setsMoreWrong)

/-- 'syntagmlaw13.SetsClosed': WHATEVER THE INPUT: true; the input reads as it did. -/
def setsClosedSpec : ChangeSpec := { name := "setsClosed", fn := fun _ => fun
  | [d] => { results := [.lit (.bool true)], args := [d] }
  | _ => none }
def setsClosedRow : OpenClaim := { program := "ytggfiopajogiiaa", sum := "61f56c10d314880fe621e2e7d142d850cdb11eca84e57f9b478a5f20bcd6c4c8", func := "syntagm/syntagmlaw13.SetsClosed", spec := "setsClosed", unfollowed := true, recurses := true, apart := false }
def SetsClosedSaid : Prop := setsClosedRow.holds Try.pinned (OpenSpec.ofChange setsClosedSpec)

/-- ITS FALSE NEIGHBOUR: 'it returns false'. Refute it at one input. -/
def setsClosedWrong : ChangeSpec := { name := "setsClosed", fn := fun _ => fun
  | [d] => { results := [.lit (.bool false)], args := [d] }
  | _ => none }
def SetsClosedWrongFalsely : Prop := setsClosedRow.holds Try.pinned (OpenSpec.ofChange setsClosedWrong)

/-- 'syntagmlaw13.SetsFollow': WHATEVER THE INPUT: true; the input reads as it did. -/
def setsFollowSpec : ChangeSpec := { name := "setsFollow", fn := fun _ => fun
  | [d1, d2, d3] => { results := [.lit (.bool true)], args := [d1, d2, d3] }
  | _ => none }
def setsFollowRow : OpenClaim := { program := "ytggfiopajogiiaa", sum := "61f56c10d314880fe621e2e7d142d850cdb11eca84e57f9b478a5f20bcd6c4c8", func := "syntagm/syntagmlaw13.SetsFollow", spec := "setsFollow", unfollowed := true, recurses := true, apart := false }
def SetsFollowSaid : Prop := setsFollowRow.holds Try.pinned (OpenSpec.ofChange setsFollowSpec)

/-- ITS FALSE NEIGHBOUR: 'it returns false'. Refute it at one input. -/
def setsFollowWrong : ChangeSpec := { name := "setsFollow", fn := fun _ => fun
  | [d1, d2, d3] => { results := [.lit (.bool false)], args := [d1, d2, d3] }
  | _ => none }
def SetsFollowWrongFalsely : Prop := setsFollowRow.holds Try.pinned (OpenSpec.ofChange setsFollowWrong)

/- THE SECOND FORM. 'bulk': how many values and letters a reading holds, each counted each time it is reached (what is shared counts as often as it is met; a slice's spare places count too). A statement '..UptoSaid' is the law's where the arguments, and the package variables that the reading takes, are together of bulk at most 1048576: NARROWER than '..Said'. Prove '..Said' where nothing that the law and all that it calls make is longer than what came in: it says more and counts as full. Else prove '..UptoSaid'. A law counts once. -/
mutual
def uptoBulk {H : Type} : DataW H → Nat
  | .lit (.string bytes) => bytes.length + 1
  | .lit _ => 1
  | .nil => 1
  | .ptr d => uptoBulk d + 1
  | .slice elems spare => uptoBulkAll elems + uptoBulkAll spare + 1
  | .agg parts => uptoBulkAll parts + 1
  | .iface _ d => uptoBulk d + 1
  | .map entries => uptoBulkEntries entries + 1
  | .held _ => 1
def uptoBulkAll {H : Type} : List (DataW H) → Nat
  | [] => 0
  | d :: r => uptoBulk d + uptoBulkAll r
def uptoBulkEntries {H : Type} : List (Lit × DataW H) → Nat
  | [] => 0
  | x :: r => uptoBulkEntry x + uptoBulkEntries r
def uptoBulkEntry {H : Type} : Lit × DataW H → Nat
  | (.string bytes, d) => bytes.length + uptoBulk d + 1
  | (_, d) => uptoBulk d + 1
 end
def uptoSmall : (H : Type) → List (DataW H) → Bool := fun _ ds => decide (uptoBulkAll ds ≤ 1048576)
def OpenSpec.upto (s : _root_.Go.ChangeSpec) : _root_.Go.OpenSpec := { _root_.Go.OpenSpec.ofChange s with cond := some uptoSmall }

/-- 'syntagmlaw13.SetsTell', WHERE WHAT IT READS IS OF BULK AT MOST 1048576: true; the input reads as it did. -/
def setsTellUptoRow : OpenClaim := { program := "ytggfiopajogiiaa", sum := "61f56c10d314880fe621e2e7d142d850cdb11eca84e57f9b478a5f20bcd6c4c8", func := "syntagm/syntagmlaw13.SetsTell", spec := "setsTell", unfollowed := true, recurses := true, apart := false, narrowed := true }
def SetsTellUptoSaid : Prop := setsTellUptoRow.holds Try.pinned (OpenSpec.upto setsTellSpec)

/-- 'syntagmlaw13.SetsRows', WHERE WHAT IT READS IS OF BULK AT MOST 1048576: true; the input reads as it did. -/
def setsRowsUptoRow : OpenClaim := { program := "ytggfiopajogiiaa", sum := "61f56c10d314880fe621e2e7d142d850cdb11eca84e57f9b478a5f20bcd6c4c8", func := "syntagm/syntagmlaw13.SetsRows", spec := "setsRows", unfollowed := true, recurses := true, apart := false, narrowed := true }
def SetsRowsUptoSaid : Prop := setsRowsUptoRow.holds Try.pinned (OpenSpec.upto setsRowsSpec)

/-- 'syntagmlaw13.SetsLive', WHERE WHAT IT READS IS OF BULK AT MOST 1048576: true; the input reads as it did. -/
def setsLiveUptoRow : OpenClaim := { program := "ytggfiopajogiiaa", sum := "61f56c10d314880fe621e2e7d142d850cdb11eca84e57f9b478a5f20bcd6c4c8", func := "syntagm/syntagmlaw13.SetsLive", spec := "setsLive", unfollowed := true, recurses := true, apart := false, narrowed := true }
def SetsLiveUptoSaid : Prop := setsLiveUptoRow.holds Try.pinned (OpenSpec.upto setsLiveSpec)

/-- 'syntagmlaw13.SetsAlone', WHERE WHAT IT READS IS OF BULK AT MOST 1048576: true; the input reads as it did. -/
def setsAloneUptoRow : OpenClaim := { program := "ytggfiopajogiiaa", sum := "61f56c10d314880fe621e2e7d142d850cdb11eca84e57f9b478a5f20bcd6c4c8", func := "syntagm/syntagmlaw13.SetsAlone", spec := "setsAlone", unfollowed := true, recurses := true, apart := false, narrowed := true }
def SetsAloneUptoSaid : Prop := setsAloneUptoRow.holds Try.pinned (OpenSpec.upto setsAloneSpec)

/-- 'syntagmlaw13.SetsMore', WHERE WHAT IT READS IS OF BULK AT MOST 1048576: true; the input reads as it did. -/
def setsMoreUptoRow : OpenClaim := { program := "ytggfiopajogiiaa", sum := "61f56c10d314880fe621e2e7d142d850cdb11eca84e57f9b478a5f20bcd6c4c8", func := "syntagm/syntagmlaw13.SetsMore", spec := "setsMore", unfollowed := true, recurses := true, apart := false, narrowed := true }
def SetsMoreUptoSaid : Prop := setsMoreUptoRow.holds Try.pinned (OpenSpec.upto setsMoreSpec)

/-- 'syntagmlaw13.SetsClosed', WHERE WHAT IT READS IS OF BULK AT MOST 1048576: true; the input reads as it did. -/
def setsClosedUptoRow : OpenClaim := { program := "ytggfiopajogiiaa", sum := "61f56c10d314880fe621e2e7d142d850cdb11eca84e57f9b478a5f20bcd6c4c8", func := "syntagm/syntagmlaw13.SetsClosed", spec := "setsClosed", unfollowed := true, recurses := true, apart := false, narrowed := true }
def SetsClosedUptoSaid : Prop := setsClosedUptoRow.holds Try.pinned (OpenSpec.upto setsClosedSpec)

/-- 'syntagmlaw13.SetsFollow', WHERE WHAT IT READS IS OF BULK AT MOST 1048576: true; the input reads as it did. -/
def setsFollowUptoRow : OpenClaim := { program := "ytggfiopajogiiaa", sum := "61f56c10d314880fe621e2e7d142d850cdb11eca84e57f9b478a5f20bcd6c4c8", func := "syntagm/syntagmlaw13.SetsFollow", spec := "setsFollow", unfollowed := true, recurses := true, apart := false, narrowed := true }
def SetsFollowUptoSaid : Prop := setsFollowUptoRow.holds Try.pinned (OpenSpec.upto setsFollowSpec)

end Rows
end Go.Proofs.Ytggfiopajogiiaa
