/- A world that meets the rows' premise on the five variables. No conditions. -/
import Derived.Test.YtageaahlkiaigaaDoorRows
import Derived.OpenShut
import Derived.ProofKit
import Derived.LaidLaws
import Derived.Handed
set_option linter.unusedVariables false
namespace Go.Proofs.YtageaahlkiaigaaDoor.Glob
open Go.ChangeShapes Go.WideShapes Go.ChangeAt Go.RowKit

def laidL : List (String × DataW Unit) := [("math/bits.deBruijn32tab", Rows.laid_math_bits_deBruijn32tab), ("math/bits.deBruijn64tab", Rows.laid_math_bits_deBruijn64tab), ("internal/strconv.uint64pow10", Rows.laid_internal_strconv_uint64pow10), ("strconv.ErrRange", Rows.laid_strconv_ErrRange), ("strconv.ErrSyntax", Rows.laid_strconv_ErrSyntax)]
theorem rows_laid : Rows.wordsNamesRow.laid = laidL ∧ Rows.wordsQuoteRow.laid = laidL ∧ Rows.wordsOrderRow.laid = laidL ∧ Rows.wordsLinesRow.laid = laidL ∧ Rows.wordsSpaceRow.laid = laidL ∧ Rows.wordsNumbersRow.laid = laidL := ⟨rfl, rfl, rfl, rfl, rfl, rfl⟩

/-- A row of literals as cells. -/
def litCells : DataW Unit → Array Value
  | .agg l => (l.map fun | .lit (.int k z) => Value.int k z | _ => Value.int .i64 0).toArray
  | _ => #[]
noncomputable def low : Nat := (World.holding Tryd.prog default ⟨#[], #[], []⟩).heap.size
noncomputable def laidWorld (os : Os) : World :=
  let w := World.holding Tryd.prog os ⟨#[.cells #[.string ⟨#[105, 110, 118, 97, 108, 105, 100, 32, 115, 121, 110, 116, 97, 120]⟩] 84, .cells #[.string ⟨#[118, 97, 108, 117, 101, 32, 111, 117, 116, 32, 111, 102, 32, 114, 97, 110, 103, 101]⟩] 84], #[], []⟩
  let put (b : Nat) (cs : Array Value) (h : Array Obj) : Array Obj := h.modify b fun
      | .cells _ t frozen => .cells cs t frozen
      | o => o
  { w with heap := put 0 #[.iface 82 (.pointer (some ⟨low, 0, none⟩))] (put 1 #[.iface 82 (.pointer (some ⟨low + 1, 0, none⟩))] (put 3 (litCells Rows.laid_internal_strconv_uint64pow10) (put 4 (litCells Rows.laid_math_bits_deBruijn32tab) (put 5 (litCells Rows.laid_math_bits_deBruijn64tab) w.heap)))) }
theorem laid_met (os : Os) (args : Array Value) : laidMet Tryd.prog laidL ((laidWorld os).forCall (fun _ _ => 0) ⟨#[], args, []⟩).memory :=
  laidMet_of_run' 8 (by kernel_rfl) (by kernel_rfl)
end Go.Proofs.YtageaahlkiaigaaDoor.Glob
