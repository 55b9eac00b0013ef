/-
  NARROWER THAN 'FOR EVERY INPUT', by the rows' own cells (each row's printed sentence says how): StatesItems: laid · StatesBuild: laid · StatesClosed: laid · StatesAhead: laid · StatesSteps: laid · StatesMore: laid · LookEmpty: laid · LookBegins: laid · LookFollows: laid.
  DERIVED. THE GIVEN ROWS OF THIS SEAT. 9 by the template 'for every input the law returns true; each argument reads behind the call as it read before'; 0 by the template 'total and deterministic' (their statements: YtclollnicbcooaaDoorTotals.lean).
  GIVEN WITH THE SEED: the statements are not yours to turn. If you find one false, say at which input.
  Laid BY PROGRAM, IN A SANDBOX (cutbox-rows.mjs): the forced cells as the released guide's own fill.sh prints them over the translation 3af35da43fc4a6a4… (all of the seat's roots in one cut). By AI agents, Wed Nov 11 2026. No macro, syntax, notation, axiom, sorry.
-/
import Derived.Test.YtclollnicbcooaaDoorChecked
import GoSem.Claim
import GoSem.ClaimJoined
import GoSem.ClaimMapViews
import Derived.JoinedTies
import Derived.KernelRfl
namespace Go.Proofs.YtclollnicbcooaaDoor
/- THE CELL 'sum', in the pinned program and in every row, IS THE sha256 OF THE DUMP (.gsa) THAT YtclollnicbcooaaDoorProg.lean LOADS. Nothing in Lean hashes anything: it is a label: what it is worth is what the hold of that sum in a sandbox is worth. -/
noncomputable def Tryd.pinned : Pinned := { name := "ytclollnicbcooaadoor", sum := "3af35da43fc4a6a4cc1da12505da762b2563e1c3a95faa0a3049d54b7a560ad7", checked := Tryd.checked }
namespace Rows
def none {H : Type} : Left H := { results := [], args := [] }

/- WHAT THE LISTED PACKAGE-LEVEL VARIABLES READ AS WHEN THE CALL BEGINS. Each datum BY PROGRAM (the guide's laid-datum.mjs) off the statement by which the dump's own 'gosem.cut.vars' lays the variable. In a bare row this is a premise. The card (YtclollnicbcooaaDoorCards.lean) ties it to the program's text. -/
def laid_math_bits_deBruijn32tab {H : Type} : DataW H := .agg [.lit (.int .u8 0), .lit (.int .u8 1), .lit (.int .u8 28), .lit (.int .u8 2), .lit (.int .u8 29), .lit (.int .u8 14), .lit (.int .u8 24), .lit (.int .u8 3), .lit (.int .u8 30), .lit (.int .u8 22), .lit (.int .u8 20), .lit (.int .u8 15), .lit (.int .u8 25), .lit (.int .u8 17), .lit (.int .u8 4), .lit (.int .u8 8), .lit (.int .u8 31), .lit (.int .u8 27), .lit (.int .u8 13), .lit (.int .u8 23), .lit (.int .u8 21), .lit (.int .u8 19), .lit (.int .u8 16), .lit (.int .u8 7), .lit (.int .u8 26), .lit (.int .u8 12), .lit (.int .u8 18), .lit (.int .u8 6), .lit (.int .u8 11), .lit (.int .u8 5), .lit (.int .u8 10), .lit (.int .u8 9)]
def laid_math_bits_deBruijn64tab {H : Type} : DataW H := .agg [.lit (.int .u8 0), .lit (.int .u8 1), .lit (.int .u8 56), .lit (.int .u8 2), .lit (.int .u8 57), .lit (.int .u8 49), .lit (.int .u8 28), .lit (.int .u8 3), .lit (.int .u8 61), .lit (.int .u8 58), .lit (.int .u8 42), .lit (.int .u8 50), .lit (.int .u8 38), .lit (.int .u8 29), .lit (.int .u8 17), .lit (.int .u8 4), .lit (.int .u8 62), .lit (.int .u8 47), .lit (.int .u8 59), .lit (.int .u8 36), .lit (.int .u8 45), .lit (.int .u8 43), .lit (.int .u8 51), .lit (.int .u8 22), .lit (.int .u8 53), .lit (.int .u8 39), .lit (.int .u8 33), .lit (.int .u8 30), .lit (.int .u8 24), .lit (.int .u8 18), .lit (.int .u8 12), .lit (.int .u8 5), .lit (.int .u8 63), .lit (.int .u8 55), .lit (.int .u8 48), .lit (.int .u8 27), .lit (.int .u8 60), .lit (.int .u8 41), .lit (.int .u8 37), .lit (.int .u8 16), .lit (.int .u8 46), .lit (.int .u8 35), .lit (.int .u8 44), .lit (.int .u8 21), .lit (.int .u8 52), .lit (.int .u8 32), .lit (.int .u8 23), .lit (.int .u8 11), .lit (.int .u8 54), .lit (.int .u8 26), .lit (.int .u8 40), .lit (.int .u8 15), .lit (.int .u8 34), .lit (.int .u8 20), .lit (.int .u8 31), .lit (.int .u8 10), .lit (.int .u8 25), .lit (.int .u8 14), .lit (.int .u8 19), .lit (.int .u8 9), .lit (.int .u8 13), .lit (.int .u8 8), .lit (.int .u8 7), .lit (.int .u8 6)]
def laid_internal_strconv_uint64pow10 {H : Type} : DataW H := .agg [.lit (.int .u64 1), .lit (.int .u64 10), .lit (.int .u64 100), .lit (.int .u64 1000), .lit (.int .u64 10000), .lit (.int .u64 100000), .lit (.int .u64 1000000), .lit (.int .u64 10000000), .lit (.int .u64 100000000), .lit (.int .u64 1000000000), .lit (.int .u64 10000000000), .lit (.int .u64 100000000000), .lit (.int .u64 1000000000000), .lit (.int .u64 10000000000000), .lit (.int .u64 100000000000000), .lit (.int .u64 1000000000000000), .lit (.int .u64 10000000000000000), .lit (.int .u64 100000000000000000), .lit (.int .u64 1000000000000000000), .lit (.int .u64 10000000000000000000)]

/-- 'syntagmlaw14.StatesItems': WHATEVER THE INPUT: true; the input reads as it did. -/
def statesItemsSpec : ChangeSpec := { name := "statesItems", fn := fun _ => fun
  | [d1, d2, d3] => { results := [.lit (.bool true)], args := [d1, d2, d3] }
  | _ => none }
def statesItemsRow : OpenClaim := { program := "ytclollnicbcooaadoor", sum := "3af35da43fc4a6a4cc1da12505da762b2563e1c3a95faa0a3049d54b7a560ad7", func := "syntagm/syntagmlaw14.StatesItems", spec := "statesItems", unfollowed := true, recurses := true, named := ["internal/strconv.uint64pow10", "math/bits.deBruijn32tab", "math/bits.deBruijn64tab"], plainKeys := false, apart := false, laid := [("math/bits.deBruijn32tab", laid_math_bits_deBruijn32tab), ("math/bits.deBruijn64tab", laid_math_bits_deBruijn64tab), ("internal/strconv.uint64pow10", laid_internal_strconv_uint64pow10)] }
def StatesItemsSaid : Prop := statesItemsRow.holds Tryd.pinned (OpenSpec.ofChange statesItemsSpec)

/-- ITS FALSE NEIGHBOUR: 'it returns false'. Refute it at one input. -/
def statesItemsWrong : ChangeSpec := { name := "statesItems", fn := fun _ => fun
  | [d1, d2, d3] => { results := [.lit (.bool false)], args := [d1, d2, d3] }
  | _ => none }
def StatesItemsWrongFalsely : Prop := statesItemsRow.holds Tryd.pinned (OpenSpec.ofChange statesItemsWrong)

/-- 'syntagmlaw14.StatesBuild': WHATEVER THE INPUT: true; the input reads as it did. -/
def statesBuildSpec : ChangeSpec := { name := "statesBuild", fn := fun _ => fun
  | [d1, d2, d3] => { results := [.lit (.bool true)], args := [d1, d2, d3] }
  | _ => none }
def statesBuildRow : OpenClaim := { program := "ytclollnicbcooaadoor", sum := "3af35da43fc4a6a4cc1da12505da762b2563e1c3a95faa0a3049d54b7a560ad7", func := "syntagm/syntagmlaw14.StatesBuild", spec := "statesBuild", unfollowed := true, recurses := true, named := ["internal/strconv.uint64pow10", "math/bits.deBruijn32tab", "math/bits.deBruijn64tab"], plainKeys := false, apart := false, laid := [("math/bits.deBruijn32tab", laid_math_bits_deBruijn32tab), ("math/bits.deBruijn64tab", laid_math_bits_deBruijn64tab), ("internal/strconv.uint64pow10", laid_internal_strconv_uint64pow10)] }
def StatesBuildSaid : Prop := statesBuildRow.holds Tryd.pinned (OpenSpec.ofChange statesBuildSpec)

/-- ITS FALSE NEIGHBOUR: 'it returns false'. Refute it at one input. -/
def statesBuildWrong : ChangeSpec := { name := "statesBuild", fn := fun _ => fun
  | [d1, d2, d3] => { results := [.lit (.bool false)], args := [d1, d2, d3] }
  | _ => none }
def StatesBuildWrongFalsely : Prop := statesBuildRow.holds Tryd.pinned (OpenSpec.ofChange statesBuildWrong)

/-- 'syntagmlaw14.StatesClosed': WHATEVER THE INPUT: true; the input reads as it did. -/
def statesClosedSpec : ChangeSpec := { name := "statesClosed", fn := fun _ => fun
  | [d1, d2] => { results := [.lit (.bool true)], args := [d1, d2] }
  | _ => none }
def statesClosedRow : OpenClaim := { program := "ytclollnicbcooaadoor", sum := "3af35da43fc4a6a4cc1da12505da762b2563e1c3a95faa0a3049d54b7a560ad7", func := "syntagm/syntagmlaw14.StatesClosed", spec := "statesClosed", unfollowed := true, recurses := true, named := ["internal/strconv.uint64pow10", "math/bits.deBruijn32tab", "math/bits.deBruijn64tab"], plainKeys := false, apart := false, laid := [("math/bits.deBruijn32tab", laid_math_bits_deBruijn32tab), ("math/bits.deBruijn64tab", laid_math_bits_deBruijn64tab), ("internal/strconv.uint64pow10", laid_internal_strconv_uint64pow10)] }
def StatesClosedSaid : Prop := statesClosedRow.holds Tryd.pinned (OpenSpec.ofChange statesClosedSpec)

/-- ITS FALSE NEIGHBOUR: 'it returns false'. Refute it at one input. -/
def statesClosedWrong : ChangeSpec := { name := "statesClosed", fn := fun _ => fun
  | [d1, d2] => { results := [.lit (.bool false)], args := [d1, d2] }
  | _ => none }
def StatesClosedWrongFalsely : Prop := statesClosedRow.holds Tryd.pinned (OpenSpec.ofChange statesClosedWrong)

/-- 'syntagmlaw14.StatesAhead': WHATEVER THE INPUT: true; the input reads as it did. -/
def statesAheadSpec : ChangeSpec := { name := "statesAhead", fn := fun _ => fun
  | [d] => { results := [.lit (.bool true)], args := [d] }
  | _ => none }
def statesAheadRow : OpenClaim := { program := "ytclollnicbcooaadoor", sum := "3af35da43fc4a6a4cc1da12505da762b2563e1c3a95faa0a3049d54b7a560ad7", func := "syntagm/syntagmlaw14.StatesAhead", spec := "statesAhead", unfollowed := true, recurses := true, named := ["internal/strconv.uint64pow10", "math/bits.deBruijn32tab", "math/bits.deBruijn64tab"], plainKeys := false, apart := false, laid := [("math/bits.deBruijn32tab", laid_math_bits_deBruijn32tab), ("math/bits.deBruijn64tab", laid_math_bits_deBruijn64tab), ("internal/strconv.uint64pow10", laid_internal_strconv_uint64pow10)] }
def StatesAheadSaid : Prop := statesAheadRow.holds Tryd.pinned (OpenSpec.ofChange statesAheadSpec)

/-- ITS FALSE NEIGHBOUR: 'it returns false'. Refute it at one input. -/
def statesAheadWrong : ChangeSpec := { name := "statesAhead", fn := fun _ => fun
  | [d] => { results := [.lit (.bool false)], args := [d] }
  | _ => none }
def StatesAheadWrongFalsely : Prop := statesAheadRow.holds Tryd.pinned (OpenSpec.ofChange statesAheadWrong)

/-- 'syntagmlaw14.StatesSteps': WHATEVER THE INPUT: true; the input reads as it did. -/
def statesStepsSpec : ChangeSpec := { name := "statesSteps", fn := fun _ => fun
  | [d1, d2, d3] => { results := [.lit (.bool true)], args := [d1, d2, d3] }
  | _ => none }
def statesStepsRow : OpenClaim := { program := "ytclollnicbcooaadoor", sum := "3af35da43fc4a6a4cc1da12505da762b2563e1c3a95faa0a3049d54b7a560ad7", func := "syntagm/syntagmlaw14.StatesSteps", spec := "statesSteps", unfollowed := true, recurses := true, named := ["internal/strconv.uint64pow10", "math/bits.deBruijn32tab", "math/bits.deBruijn64tab"], plainKeys := false, apart := false, laid := [("math/bits.deBruijn32tab", laid_math_bits_deBruijn32tab), ("math/bits.deBruijn64tab", laid_math_bits_deBruijn64tab), ("internal/strconv.uint64pow10", laid_internal_strconv_uint64pow10)] }
def StatesStepsSaid : Prop := statesStepsRow.holds Tryd.pinned (OpenSpec.ofChange statesStepsSpec)

/-- ITS FALSE NEIGHBOUR: 'it returns false'. Refute it at one input. -/
def statesStepsWrong : ChangeSpec := { name := "statesSteps", fn := fun _ => fun
  | [d1, d2, d3] => { results := [.lit (.bool false)], args := [d1, d2, d3] }
  | _ => none }
def StatesStepsWrongFalsely : Prop := statesStepsRow.holds Tryd.pinned (OpenSpec.ofChange statesStepsWrong)

/-- 'syntagmlaw14.StatesMore': WHATEVER THE INPUT: true; the input reads as it did. -/
def statesMoreSpec : ChangeSpec := { name := "statesMore", fn := fun _ => fun
  | [d1, d2] => { results := [.lit (.bool true)], args := [d1, d2] }
  | _ => none }
def statesMoreRow : OpenClaim := { program := "ytclollnicbcooaadoor", sum := "3af35da43fc4a6a4cc1da12505da762b2563e1c3a95faa0a3049d54b7a560ad7", func := "syntagm/syntagmlaw14.StatesMore", spec := "statesMore", unfollowed := true, recurses := true, named := ["internal/strconv.uint64pow10", "math/bits.deBruijn32tab", "math/bits.deBruijn64tab"], plainKeys := false, apart := false, laid := [("math/bits.deBruijn32tab", laid_math_bits_deBruijn32tab), ("math/bits.deBruijn64tab", laid_math_bits_deBruijn64tab), ("internal/strconv.uint64pow10", laid_internal_strconv_uint64pow10)] }
def StatesMoreSaid : Prop := statesMoreRow.holds Tryd.pinned (OpenSpec.ofChange statesMoreSpec)

/-- ITS FALSE NEIGHBOUR: 'it returns false'. Refute it at one input. -/
def statesMoreWrong : ChangeSpec := { name := "statesMore", fn := fun _ => fun
  | [d1, d2] => { results := [.lit (.bool false)], args := [d1, d2] }
  | _ => none }
def StatesMoreWrongFalsely : Prop := statesMoreRow.holds Tryd.pinned (OpenSpec.ofChange statesMoreWrong)

/-- 'syntagmlaw15.LookEmpty': WHATEVER THE INPUT: true; the input reads as it did. -/
def lookEmptySpec : ChangeSpec := { name := "lookEmpty", fn := fun _ => fun
  | [d] => { results := [.lit (.bool true)], args := [d] }
  | _ => none }
def lookEmptyRow : OpenClaim := { program := "ytclollnicbcooaadoor", sum := "3af35da43fc4a6a4cc1da12505da762b2563e1c3a95faa0a3049d54b7a560ad7", func := "syntagm/syntagmlaw15.LookEmpty", spec := "lookEmpty", unfollowed := true, recurses := true, named := ["internal/strconv.uint64pow10", "math/bits.deBruijn32tab", "math/bits.deBruijn64tab"], plainKeys := false, apart := false, laid := [("math/bits.deBruijn32tab", laid_math_bits_deBruijn32tab), ("math/bits.deBruijn64tab", laid_math_bits_deBruijn64tab), ("internal/strconv.uint64pow10", laid_internal_strconv_uint64pow10)] }
def LookEmptySaid : Prop := lookEmptyRow.holds Tryd.pinned (OpenSpec.ofChange lookEmptySpec)

/-- ITS FALSE NEIGHBOUR: 'it returns false'. Refute it at one input. -/
def lookEmptyWrong : ChangeSpec := { name := "lookEmpty", fn := fun _ => fun
  | [d] => { results := [.lit (.bool false)], args := [d] }
  | _ => none }
def LookEmptyWrongFalsely : Prop := lookEmptyRow.holds Tryd.pinned (OpenSpec.ofChange lookEmptyWrong)

/-- 'syntagmlaw15.LookBegins': WHATEVER THE INPUT: true; the input reads as it did. -/
def lookBeginsSpec : ChangeSpec := { name := "lookBegins", fn := fun _ => fun
  | [d] => { results := [.lit (.bool true)], args := [d] }
  | _ => none }
def lookBeginsRow : OpenClaim := { program := "ytclollnicbcooaadoor", sum := "3af35da43fc4a6a4cc1da12505da762b2563e1c3a95faa0a3049d54b7a560ad7", func := "syntagm/syntagmlaw15.LookBegins", spec := "lookBegins", unfollowed := true, recurses := true, named := ["internal/strconv.uint64pow10", "math/bits.deBruijn32tab", "math/bits.deBruijn64tab"], plainKeys := false, apart := false, laid := [("math/bits.deBruijn32tab", laid_math_bits_deBruijn32tab), ("math/bits.deBruijn64tab", laid_math_bits_deBruijn64tab), ("internal/strconv.uint64pow10", laid_internal_strconv_uint64pow10)] }
def LookBeginsSaid : Prop := lookBeginsRow.holds Tryd.pinned (OpenSpec.ofChange lookBeginsSpec)

/-- ITS FALSE NEIGHBOUR: 'it returns false'. Refute it at one input. -/
def lookBeginsWrong : ChangeSpec := { name := "lookBegins", fn := fun _ => fun
  | [d] => { results := [.lit (.bool false)], args := [d] }
  | _ => none }
def LookBeginsWrongFalsely : Prop := lookBeginsRow.holds Tryd.pinned (OpenSpec.ofChange lookBeginsWrong)

/-- 'syntagmlaw15.LookFollows': WHATEVER THE INPUT: true; the input reads as it did. -/
def lookFollowsSpec : ChangeSpec := { name := "lookFollows", fn := fun _ => fun
  | [d] => { results := [.lit (.bool true)], args := [d] }
  | _ => none }
def lookFollowsRow : OpenClaim := { program := "ytclollnicbcooaadoor", sum := "3af35da43fc4a6a4cc1da12505da762b2563e1c3a95faa0a3049d54b7a560ad7", func := "syntagm/syntagmlaw15.LookFollows", spec := "lookFollows", unfollowed := true, recurses := true, named := ["internal/strconv.uint64pow10", "math/bits.deBruijn32tab", "math/bits.deBruijn64tab"], plainKeys := false, apart := false, laid := [("math/bits.deBruijn32tab", laid_math_bits_deBruijn32tab), ("math/bits.deBruijn64tab", laid_math_bits_deBruijn64tab), ("internal/strconv.uint64pow10", laid_internal_strconv_uint64pow10)] }
def LookFollowsSaid : Prop := lookFollowsRow.holds Tryd.pinned (OpenSpec.ofChange lookFollowsSpec)

/-- ITS FALSE NEIGHBOUR: 'it returns false'. Refute it at one input. -/
def lookFollowsWrong : ChangeSpec := { name := "lookFollows", fn := fun _ => fun
  | [d] => { results := [.lit (.bool false)], args := [d] }
  | _ => none }
def LookFollowsWrongFalsely : Prop := lookFollowsRow.holds Tryd.pinned (OpenSpec.ofChange lookFollowsWrong)

/- THE SECOND FORM. 'bulk': how many values and letters a reading holds, each counted each time it is reached (what is shared counts as often as it is met; a slice's spare places count too). A statement '..UptoSaid' is the law's where the arguments, and the package variables that the reading takes, are together of bulk at most 1048576: NARROWER than '..Said'. Prove '..Said' where nothing that the law and all that it calls make is longer than what came in: it says more and counts as full. Else prove '..UptoSaid'. A law counts once. -/
mutual
def uptoBulk {H : Type} : DataW H → Nat
  | .lit (.string bytes) => bytes.length + 1
  | .lit _ => 1
  | .nil => 1
  | .ptr d => uptoBulk d + 1
  | .slice elems spare => uptoBulkAll elems + uptoBulkAll spare + 1
  | .agg parts => uptoBulkAll parts + 1
  | .iface _ d => uptoBulk d + 1
  | .map entries => uptoBulkEntries entries + 1
  | .held _ => 1
def uptoBulkAll {H : Type} : List (DataW H) → Nat
  | [] => 0
  | d :: r => uptoBulk d + uptoBulkAll r
def uptoBulkEntries {H : Type} : List (Lit × DataW H) → Nat
  | [] => 0
  | x :: r => uptoBulkEntry x + uptoBulkEntries r
def uptoBulkEntry {H : Type} : Lit × DataW H → Nat
  | (.string bytes, d) => bytes.length + uptoBulk d + 1
  | (_, d) => uptoBulk d + 1
 end
def uptoSmall : (H : Type) → List (DataW H) → Bool := fun _ ds => decide (uptoBulkAll ds ≤ 1048576)
def OpenSpec.upto (s : _root_.Go.ChangeSpec) : _root_.Go.OpenSpec := { _root_.Go.OpenSpec.ofChange s with cond := some uptoSmall }

/-- 'syntagmlaw14.StatesItems', WHERE WHAT IT READS IS OF BULK AT MOST 1048576: true; the input reads as it did. -/
def statesItemsUptoRow : OpenClaim := { program := "ytclollnicbcooaadoor", sum := "3af35da43fc4a6a4cc1da12505da762b2563e1c3a95faa0a3049d54b7a560ad7", func := "syntagm/syntagmlaw14.StatesItems", spec := "statesItems", unfollowed := true, recurses := true, named := ["internal/strconv.uint64pow10", "math/bits.deBruijn32tab", "math/bits.deBruijn64tab"], plainKeys := false, apart := false, laid := [("math/bits.deBruijn32tab", laid_math_bits_deBruijn32tab), ("math/bits.deBruijn64tab", laid_math_bits_deBruijn64tab), ("internal/strconv.uint64pow10", laid_internal_strconv_uint64pow10)], narrowed := true }
def StatesItemsUptoSaid : Prop := statesItemsUptoRow.holds Tryd.pinned (OpenSpec.upto statesItemsSpec)

/-- 'syntagmlaw14.StatesBuild', WHERE WHAT IT READS IS OF BULK AT MOST 1048576: true; the input reads as it did. -/
def statesBuildUptoRow : OpenClaim := { program := "ytclollnicbcooaadoor", sum := "3af35da43fc4a6a4cc1da12505da762b2563e1c3a95faa0a3049d54b7a560ad7", func := "syntagm/syntagmlaw14.StatesBuild", spec := "statesBuild", unfollowed := true, recurses := true, named := ["internal/strconv.uint64pow10", "math/bits.deBruijn32tab", "math/bits.deBruijn64tab"], plainKeys := false, apart := false, laid := [("math/bits.deBruijn32tab", laid_math_bits_deBruijn32tab), ("math/bits.deBruijn64tab", laid_math_bits_deBruijn64tab), ("internal/strconv.uint64pow10", laid_internal_strconv_uint64pow10)], narrowed := true }
def StatesBuildUptoSaid : Prop := statesBuildUptoRow.holds Tryd.pinned (OpenSpec.upto statesBuildSpec)

/-- 'syntagmlaw14.StatesClosed', WHERE WHAT IT READS IS OF BULK AT MOST 1048576: true; the input reads as it did. -/
def statesClosedUptoRow : OpenClaim := { program := "ytclollnicbcooaadoor", sum := "3af35da43fc4a6a4cc1da12505da762b2563e1c3a95faa0a3049d54b7a560ad7", func := "syntagm/syntagmlaw14.StatesClosed", spec := "statesClosed", unfollowed := true, recurses := true, named := ["internal/strconv.uint64pow10", "math/bits.deBruijn32tab", "math/bits.deBruijn64tab"], plainKeys := false, apart := false, laid := [("math/bits.deBruijn32tab", laid_math_bits_deBruijn32tab), ("math/bits.deBruijn64tab", laid_math_bits_deBruijn64tab), ("internal/strconv.uint64pow10", laid_internal_strconv_uint64pow10)], narrowed := true }
def StatesClosedUptoSaid : Prop := statesClosedUptoRow.holds Tryd.pinned (OpenSpec.upto statesClosedSpec)

/-- 'syntagmlaw14.StatesAhead', WHERE WHAT IT READS IS OF BULK AT MOST 1048576: true; the input reads as it did. -/
def statesAheadUptoRow : OpenClaim := { program := "ytclollnicbcooaadoor", sum := "3af35da43fc4a6a4cc1da12505da762b2563e1c3a95faa0a3049d54b7a560ad7", func := "syntagm/syntagmlaw14.StatesAhead", spec := "statesAhead", unfollowed := true, recurses := true, named := ["internal/strconv.uint64pow10", "math/bits.deBruijn32tab", "math/bits.deBruijn64tab"], plainKeys := false, apart := false, laid := [("math/bits.deBruijn32tab", laid_math_bits_deBruijn32tab), ("math/bits.deBruijn64tab", laid_math_bits_deBruijn64tab), ("internal/strconv.uint64pow10", laid_internal_strconv_uint64pow10)], narrowed := true }
def StatesAheadUptoSaid : Prop := statesAheadUptoRow.holds Tryd.pinned (OpenSpec.upto statesAheadSpec)

/-- 'syntagmlaw14.StatesSteps', WHERE WHAT IT READS IS OF BULK AT MOST 1048576: true; the input reads as it did. -/
def statesStepsUptoRow : OpenClaim := { program := "ytclollnicbcooaadoor", sum := "3af35da43fc4a6a4cc1da12505da762b2563e1c3a95faa0a3049d54b7a560ad7", func := "syntagm/syntagmlaw14.StatesSteps", spec := "statesSteps", unfollowed := true, recurses := true, named := ["internal/strconv.uint64pow10", "math/bits.deBruijn32tab", "math/bits.deBruijn64tab"], plainKeys := false, apart := false, laid := [("math/bits.deBruijn32tab", laid_math_bits_deBruijn32tab), ("math/bits.deBruijn64tab", laid_math_bits_deBruijn64tab), ("internal/strconv.uint64pow10", laid_internal_strconv_uint64pow10)], narrowed := true }
def StatesStepsUptoSaid : Prop := statesStepsUptoRow.holds Tryd.pinned (OpenSpec.upto statesStepsSpec)

/-- 'syntagmlaw14.StatesMore', WHERE WHAT IT READS IS OF BULK AT MOST 1048576: true; the input reads as it did. -/
def statesMoreUptoRow : OpenClaim := { program := "ytclollnicbcooaadoor", sum := "3af35da43fc4a6a4cc1da12505da762b2563e1c3a95faa0a3049d54b7a560ad7", func := "syntagm/syntagmlaw14.StatesMore", spec := "statesMore", unfollowed := true, recurses := true, named := ["internal/strconv.uint64pow10", "math/bits.deBruijn32tab", "math/bits.deBruijn64tab"], plainKeys := false, apart := false, laid := [("math/bits.deBruijn32tab", laid_math_bits_deBruijn32tab), ("math/bits.deBruijn64tab", laid_math_bits_deBruijn64tab), ("internal/strconv.uint64pow10", laid_internal_strconv_uint64pow10)], narrowed := true }
def StatesMoreUptoSaid : Prop := statesMoreUptoRow.holds Tryd.pinned (OpenSpec.upto statesMoreSpec)

/-- 'syntagmlaw15.LookEmpty', WHERE WHAT IT READS IS OF BULK AT MOST 1048576: true; the input reads as it did. -/
def lookEmptyUptoRow : OpenClaim := { program := "ytclollnicbcooaadoor", sum := "3af35da43fc4a6a4cc1da12505da762b2563e1c3a95faa0a3049d54b7a560ad7", func := "syntagm/syntagmlaw15.LookEmpty", spec := "lookEmpty", unfollowed := true, recurses := true, named := ["internal/strconv.uint64pow10", "math/bits.deBruijn32tab", "math/bits.deBruijn64tab"], plainKeys := false, apart := false, laid := [("math/bits.deBruijn32tab", laid_math_bits_deBruijn32tab), ("math/bits.deBruijn64tab", laid_math_bits_deBruijn64tab), ("internal/strconv.uint64pow10", laid_internal_strconv_uint64pow10)], narrowed := true }
def LookEmptyUptoSaid : Prop := lookEmptyUptoRow.holds Tryd.pinned (OpenSpec.upto lookEmptySpec)

/-- 'syntagmlaw15.LookBegins', WHERE WHAT IT READS IS OF BULK AT MOST 1048576: true; the input reads as it did. -/
def lookBeginsUptoRow : OpenClaim := { program := "ytclollnicbcooaadoor", sum := "3af35da43fc4a6a4cc1da12505da762b2563e1c3a95faa0a3049d54b7a560ad7", func := "syntagm/syntagmlaw15.LookBegins", spec := "lookBegins", unfollowed := true, recurses := true, named := ["internal/strconv.uint64pow10", "math/bits.deBruijn32tab", "math/bits.deBruijn64tab"], plainKeys := false, apart := false, laid := [("math/bits.deBruijn32tab", laid_math_bits_deBruijn32tab), ("math/bits.deBruijn64tab", laid_math_bits_deBruijn64tab), ("internal/strconv.uint64pow10", laid_internal_strconv_uint64pow10)], narrowed := true }
def LookBeginsUptoSaid : Prop := lookBeginsUptoRow.holds Tryd.pinned (OpenSpec.upto lookBeginsSpec)

/-- 'syntagmlaw15.LookFollows', WHERE WHAT IT READS IS OF BULK AT MOST 1048576: true; the input reads as it did. -/
def lookFollowsUptoRow : OpenClaim := { program := "ytclollnicbcooaadoor", sum := "3af35da43fc4a6a4cc1da12505da762b2563e1c3a95faa0a3049d54b7a560ad7", func := "syntagm/syntagmlaw15.LookFollows", spec := "lookFollows", unfollowed := true, recurses := true, named := ["internal/strconv.uint64pow10", "math/bits.deBruijn32tab", "math/bits.deBruijn64tab"], plainKeys := false, apart := false, laid := [("math/bits.deBruijn32tab", laid_math_bits_deBruijn32tab), ("math/bits.deBruijn64tab", laid_math_bits_deBruijn64tab), ("internal/strconv.uint64pow10", laid_internal_strconv_uint64pow10)], narrowed := true }
def LookFollowsUptoSaid : Prop := lookFollowsUptoRow.holds Tryd.pinned (OpenSpec.upto lookFollowsSpec)

end Rows
end Go.Proofs.YtclollnicbcooaaDoor
